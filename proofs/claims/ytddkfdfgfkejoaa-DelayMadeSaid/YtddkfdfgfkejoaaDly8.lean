import Derived.Test.YtddkfdfgfkejoaaDly7
import Derived.Test.YtddkfdfgfkejoaaDlyMath4
namespace Go.Proofs.Ytddkfdfgfkejoaa
open Go.RowKit

theorem flat_set1 {α : Type} (f : α → List Value) (k : Nat) (hf : ∀ x, (f x).length = k) : ∀ (xs : List α) (i : Nat) (hi : i < xs.length) (j : Nat) (_hj : j < k) (y : α) (u : Value), f y = (f xs[i]).set j u → (xs.flatMap f).set (i * k + j) u = (xs.set i y).flatMap f
  | x :: xs, 0, _, j, hj, y, u, h => by
    rw [List.set_cons_zero, List.flatMap_cons, List.flatMap_cons, List.set_append_left _ _ (by rw [hf]; omega), h]
    simp
  | x :: xs, i + 1, hi, j, hj, y, u, h => by
    rw [List.set_cons_succ, List.flatMap_cons, List.flatMap_cons, List.set_append_right _ _ (by rw [hf, Nat.add_mul]; omega), hf, show (i + 1) * k + j - k = i * k + j by rw [Nat.add_mul]; omega]
    rw [flat_set1 f k hf xs i (by simpa using hi) j hj y u (by simpa using h)]

/-- a problem that lies in memory of the call's own -/
structure DX (w : World) (v6 v7 v8 : Value) (ms : List Mom) (ws : List Wt) (ps : List Pri) (wr : World) : Prop where
  bel : Below w.heap.size w wr
  om : wr.ownsRow (w.heap.size + 1) 33 2 v6 ms.length (ms.flatMap Mom.cells)
  ow : wr.ownsRow (w.heap.size + 1) 35 4 v7 ws.length (ws.flatMap Wt.cells)
  op : wr.ownsRow (w.heap.size + 1) 39 2 v8 ps.length (ps.flatMap Pri.cells)
section
variable {w wr w1 : World} {v6 v7 v8 : Value} {ms : List Mom} {ws : List Wt} {ps : List Pri}
theorem DX.grow (h : DX w v6 v7 v8 ms ws ps wr) (hb : Below wr.heap.size wr w1) : DX w v6 v7 v8 ms ws ps w1 :=
  ⟨h.bel.trans (hb.mono h.bel.size), own_grow h.om hb, own_grow h.ow hb, own_grow h.op hb⟩
theorem ne_far {v1 v2 : Value} {g : Nat} (h : v1.ownBlock = none ∨ v1.ownBlock ≠ v2.ownBlock) (hg : v2.ownBlock = some g) : v1.ownBlock ≠ some g := by
  intro e
  rcases h with h | h
  · rw [h] at e; cases e
  · exact h (by rw [e, hg])
theorem DX.setW {g c : Nat} (h : DX w v6 (.slice (some ⟨g, 0, none⟩) ws.length c) v8 ms ws ps wr) (i : Nat) (hi : i < ws.length) (j : Nat) (hj : j < 4) (y : Wt) (u : Value) (hy : y.cells = ws[i].cells.set j u) :
    DX w v6 (.slice (some ⟨g, 0, none⟩) ws.length c) v8 ms (ws.set i y) ps (wr.setCell ⟨g, i * 4 + j, none⟩ u) := by
  have hg := (own_block h.ow g rfl).1
  refine ⟨h.bel.setCell (by simp; omega) _, own_far h.om (ne_far (own_ne h.om h.ow (by decide)) rfl), ?_, own_far h.op (ne_far (own_ne h.op h.ow (by decide)) rfl)⟩
  have := (h.ow.stored (i * 4 + j) u).1
  rw [flat_set1 Wt.cells 4 Wt.len ws i hi j hj y u hy] at this
  rw [List.length_set]
  exact this
theorem DX.setM {g c : Nat} (h : DX w (.slice (some ⟨g, 0, none⟩) ms.length c) v7 v8 ms ws ps wr) (i : Nat) (hi : i < ms.length) (j : Nat) (hj : j < 2) (y : Mom) (u : Value) (hy : y.cells = ms[i].cells.set j u) :
    DX w (.slice (some ⟨g, 0, none⟩) ms.length c) v7 v8 (ms.set i y) ws ps (wr.setCell ⟨g, i * 2 + j, none⟩ u) := by
  have hg := (own_block h.om g rfl).1
  refine ⟨h.bel.setCell (by simp; omega) _, ?_, own_far h.ow (ne_far (own_ne h.ow h.om (by decide)) rfl), own_far h.op (ne_far (own_ne h.op h.om (by decide)) rfl)⟩
  have := (h.om.stored (i * 2 + j) u).1
  rw [flat_set1 Mom.cells 2 Mom.len ms i hi j hj y u hy] at this
  rw [List.length_set]
  exact this
end
theorem Small.un {ms : List Mom} {ws : List Wt} {ps : List Pri} (h : Small ms ws ps) : Small ms (ws.map Wt.un) ps :=
  ⟨h.n1, h.n6, by simpa using h.nw, h.np, h.mt, fun k hk => by
    obtain ⟨k', hk', rfl⟩ := List.mem_map.1 hk
    have := h.wt k' hk'
    simp only [Wt.un]
    omega, h.nd, h.pt⟩
theorem un_all (ws : List Wt) : ∀ k ∈ ws.map Wt.un, k.mx = -1 := fun k hk => by
  obtain ⟨k', hk', rfl⟩ := List.mem_map.1 hk
  rfl
def LU (w : World) (v6 v7 v8 : Value) (ms : List Mom) (ws : List Wt) (ps : List Pri) (k : Nat) (v : Value) (wr : World) : Prop :=
  ∃ i : Nat, v = .int .i64 i ∧ i + k = ws.length ∧ DX w v6 v7 v8 ms (unM i ws) ps wr
def LL3 (w2 : World) (ps : List Pri) (sv : Int) (i k : Nat) (v11 v : Value) (wr : World) : Prop :=
  ∃ j : Nat, v = .int .i64 j ∧ j + k = ps.length ∧ v11 = .int .i64 (sv - prim (ps.take j) i) ∧ Below w2.heap.size w2 wr
def LL4 (w2 : World) (ws : List Wt) (sec : List Int) (i : Nat) (bv : Int) (n k : Nat) (v14 v15 v : Value) (wr : World) : Prop :=
  ∃ j : Nat, v = .int .i64 j ∧ j + k = n ∧ v14 = .bool (ledB (ws.take j) i) ∧ v15 = .bool (tightB (ws.take j) sec i bv) ∧ Below w2.heap.size w2 wr
theorem prim_take_bd {ms : List Mom} {ws : List Wt} {ps : List Pri} (h : Small ms ws ps) (j : Nat) (i : Int) : 0 ≤ prim (ps.take j) i ∧ prim (ps.take j) i ≤ 600 :=
  prim_bdc 600 (by omega) _ i (by rw [List.map_take]; exact h.nd.sublist (List.take_sublist _ _)) (fun d hd => (h.pt d (List.mem_of_mem_take hd)).2.2)
theorem prim_take_succ (ps : List Pri) (j : Nat) (h : j < ps.length) (i : Int) : prim (ps.take (j + 1)) i = prim (ps.take j) i + if ps[j].mo = i then ps[j].sec else 0 := by
  rw [List.take_succ_eq_append_getElem h, prim_snoc]

set_option maxRecDepth 100000 in
set_option maxHeartbeats 3200000 in
theorem delayLeast_true (A : Option Addr) (n c : Nat) (z : List Int) (w : World) (h : Rd w w.heap.size 1 A n (z.map (Value.int .i64))) (m : n ≤ c ∧ c ≤ maxLen ∧ c * 8 ≤ 140737488351232) :
    Calls Try.prog 4 #[.slice A n c] w fun e w' => e = .returned (.bool true) ∧ Below w.heap.size w w' := by
  have H := Lib.hid h
  have HN : n ≤ maxLen := by omega
  have HN := Lib.hid HN
  clear h m
  go_enter Try.func4, Try.ntmps4
  go_wp2_with fail
  refine (mkdelay_any A n c z w H.out HN.out).mono ?_
  rintro e w1 ⟨v6, v7, v8, nn, ms, ws, ps, rfl, hn1, hn6, hok, hb1, hom, how, hop⟩
  obtain ⟨A6, c6, rfl, hc6, hm6⟩ := own_slice hom
  obtain ⟨A7, c7, rfl, hc7, hm7⟩ := own_slice how
  obtain ⟨A8, c8, rfl, hc8, hm8⟩ := own_slice hop
  have hsm := hok.small hn1 hn6
  have HS := Lib.hid hsm
  have HD : Hid (DX w (.slice A6 ms.length c6) (.slice A7 ws.length c7) (.slice A8 ps.length c8) ms ws ps w1) := ⟨hb1, hom, how, hop⟩
  have hl6 := hsm.n6
  have hl1 := hsm.n1
  have hlw := hsm.nw
  have hlp := hsm.np
  clear hsm hok hom how hop hb1 hn1 hn6 H HN
  unfold maxLen at hm6 hm7 hm8
  go_wp2_with fail
  go_loopg [6, 26] ws.length (fun k _ v wr => LU w (.slice A6 ms.length c6) (.slice A7 ws.length c7) (.slice A8 ps.length c8) ms ws ps k v wr)
  case atStart => exact ⟨0, rfl, by omega, by rw [unM_zero]; exact HD.out⟩
  case round =>
    obtain ⟨i, rfl, hi, hdx⟩ := hrel
    have Hi := Lib.hid hi
    clear HD
    have HD := Lib.hid hdx
    clear hi hdx
    by_cases hlt : i < ws.length
    · have how := HD.out.ow
      rw [unM_len] at how
      obtain ⟨g7, c7', e7, hg7, hg7l⟩ := how.form (by omega)
      injection e7 with e7 _ e8
      subst e7 e8
      have q3 := (ownWt how (unM_len i ws).symm i (by rw [unM_len]; exact hlt)).2.2.2
      have f3 := how.frozenAt (i * 4 + 3)
      have hset := (show DX w (.slice A6 ms.length c6) (.slice (some ⟨g7, 0, none⟩) (unM i ws).length c7) (.slice A8 ps.length c8) ms (unM i ws) ps wr by rw [unM_len]; exact HD.out).setW i (by rw [unM_len]; exact hlt) 3 (by omega) ws[i].un (.int .i64 (-1)) (by rw [unM_get i ws hlt]; rfl)
      rw [unM_set i ws hlt, unM_len] at hset
      have HD2 := Lib.hid hset
      rw [unM_get i ws hlt] at q3
      generalize ws[i].mx = xv at *
      clear how hset HD
      go_wp2_with fail
      go_roundg (ws.length - i - 1)
      case measure => have := Hi.out; omega
      case rel => exact ⟨i + 1, by first | rfl | go_num, by omega, HD2.out⟩
    · obtain rfl : i = ws.length := by have := Hi.out; omega
      have hd := HD.out
      rw [unM_all] at hd
      have HD := Lib.hid hd
      clear hd Hi
      have hl : (ws.map Wt.un).length = ws.length := by simp
      have HS' := Lib.hid HS.out.un
      have HU := Lib.hid (un_all ws)
      generalize hws2 : ws.map Wt.un = ws2 at *
      clear HS hws2
      have HS := HS'
      have Hl := Lib.hid hl
      clear hl HS'
      have HO := Lib.hid (And.intro (Rd.of_own HD.out.om) (And.intro (Rd.of_own (by have := HD.out.ow; rw [Hl.out] at this; exact this)) (Rd.of_own HD.out.op)))
      have Hb1 := Lib.hid HD.out.bel
      clear HD
      go_wp2_with fail
      refine (propa_any _ _ _ _ _ _ _ _ _ ms ws2 ps wr HO.out.1 HO.out.2.1 HO.out.2.2 rfl (by rw [Hl.out]) rfl (by omega) (by rw [Hl.out]; omega) (by omega)).mono ?_
      rintro e w2 ⟨hb2, hcase⟩
      rcases hcase with ⟨hv, vs, vk, base, sec, kept, rfl, hsol, hos, hok⟩ | ⟨hv, rfl⟩
      case inr => exact absurd HS.out.valid hv
      obtain ⟨As, cs, rfl, hcs, hms⟩ := own_slice hos
      obtain ⟨Ak, ck, rfl, hck, hmk⟩ := own_slice hok
      have HR := Lib.hid (And.intro ((HO.out.1.grow hb2).more hb2.size) (And.intro ((HO.out.2.1.grow hb2).more hb2.size) (And.intro ((HO.out.2.2.grow hb2).more hb2.size) (Rd.of_own hos))))
      have Hsol := Lib.hid hsol
      have Hb2 := Lib.hid (Hb1.out.trans (hb2.mono Hb1.out.size))
      clear hv hsol hos hok hb2 HO Hb1
      unfold maxLen at hms hmk
      have n1 : ((ms.length : Int) != (ms.length : Int)) = false := by simp
      go_wp2_with fail
      clear n1
      go_loopg [10, 11, 13, 14, 15, 17, 53, 62, 77] ms.length (fun k _ _ _ _ _ _ v _ _ wr => LoopB w2 ms.length k v wr)
      case atStart => exact ⟨0, rfl, by omega, Below.refl _ _⟩
      case round =>
        obtain ⟨i, rfl, hi, hbr⟩ := hrel
        have Hi := Lib.hid hi
        have Hbr := Lib.hid hbr
        clear hi hbr
        by_cases hlt : i < ms.length
        · obtain ⟨bs, os, rfl, hbs, s0⟩ := rd1 (HR.out.2.2.2.grow Hbr.out) i (by rw [Hsol.out.ls]; exact hlt)
          have hsv := HS.out.sec Hsol.out i (by omega) (by omega)
          have hleast := least_ok Hsol.out HU.out i (by omega) (by omega)
          rw [gi_nat sec i (by rw [Hsol.out.ls]; exact hlt)] at hsv hleast
          generalize sec[i]'(by rw [Hsol.out.ls]; exact hlt) = sv at *
          obtain ⟨_, _, hsv0, hsv1⟩ := hsv
          have Hleast := Lib.hid hleast
          clear hleast
          obtain ⟨wo, rfl⟩ : ∃ wo : World, wo = wr := ⟨_, rfl⟩
          go_wp2_with fail
          go_loopg [11, 13, 62] ps.length (fun k v11 _ v wr => LL3 w2 ps sv i k v11 v wr)
          case atStart => exact ⟨0, rfl, by omega, by simp [prim], Hbr.out⟩
          case round =>
            obtain ⟨j, rfl, hj, rfl, hbr⟩ := hrel
            have Hj := Lib.hid hj
            clear s0 hj Hbr
            have Hbr := Lib.hid hbr
            clear hbr
            have hpb := prim_take_bd HS.out j i
            by_cases hltj : j < ps.length
            · obtain ⟨bp, op, rfl, hbp, p0, p1⟩ := rdPri (HR.out.2.2.1.grow Hbr.out) rfl j hltj
              have hpt := HS.out.pt ps[j] (List.getElem_mem hltj)
              have Hsucc := Lib.hid (prim_take_succ ps j hltj i)
              generalize ps[j] = pj at *
              obtain ⟨pm, px⟩ := pj
              simp only at p0 p1 hpt Hsucc
              generalize prim (ps.take j) i = pv at *
              have hbp' : bp < wr.heap.size := World.block_lt_of_cell? _ _ p0
              by_cases e : pm = (i : Int)
              · have e' : (pm == (i : Int)) = true := by simpa using e
                have HE := Lib.hid e
                clear e
                go_wp2_with fail
                go_roundg (ps.length - j - 1)
                case measure => have := Hj.out; omega
                case rel => exact ⟨j + 1, by first | rfl | go_num, by omega, by rw [Hsucc.out, if_pos HE.out]; congr 1; omega, (by have hbelh := Hbr.out; have hbels := hbelh.size; exact (by repeat (first | exact Below.refl _ _ | (with_reducible refine Below.drew ?_) | (with_reducible refine below_drewN ?_ _) | (with_reducible refine Below.alloc ?_ (by first | omega | (simp; done) | (simp; omega)) _) | (with_reducible refine Below.setCell ?_ (by first | omega | (simp; done) | (simp; omega)) _) | (refine Below.trans ?_ (Below.mono (by with_reducible assumption) (by first | omega | (simp; done) | (simp; omega)))))))⟩
              · have e' : (pm == (i : Int)) = false := by simpa using e
                have HE := Lib.hid e
                clear e
                go_wp2_with fail
                go_roundg (ps.length - j - 1)
                case measure => have := Hj.out; omega
                case rel => exact ⟨j + 1, by first | rfl | go_num, by omega, by rw [Hsucc.out, if_neg HE.out]; congr 1; omega, (by have hbelh := Hbr.out; have hbels := hbelh.size; exact (by repeat (first | exact Below.refl _ _ | (with_reducible refine Below.drew ?_) | (with_reducible refine below_drewN ?_ _) | (with_reducible refine Below.alloc ?_ (by first | omega | (simp; done) | (simp; omega)) _) | (with_reducible refine Below.setCell ?_ (by first | omega | (simp; done) | (simp; omega)) _) | (refine Below.trans ?_ (Below.mono (by with_reducible assumption) (by first | omega | (simp; done) | (simp; omega)))))))⟩
            · have hle : ps.length ≤ j := by omega
              rw [List.take_of_length_le hle] at hpb ⊢
              clear hle Hj
              generalize hbv : sv - prim ps i = bv at *
              have hb0 : -600 ≤ bv := by omega
              have hb1 : bv ≤ 20000 := by omega
              have HL := Lib.hid Hleast.out
              clear hbv hpb Hleast
              go_wp2_with fail
              go_loopg [14, 15, 17, 77] ws.length (fun k v14 v15 _ v wr => LL4 w2 ws2 sec i bv ws.length k v14 v15 v wr)
              case atStart => exact ⟨0, rfl, by omega, rfl, rfl, Hbr.out⟩
              case round =>
                obtain ⟨j, rfl, hj, rfl, rfl, hbr⟩ := hrel
                have Hj := Lib.hid hj
                clear hj Hbr
                have Hbr := Lib.hid hbr
                clear hbr
                by_cases hltj : j < ws.length
                · have hltj2 : j < ws2.length := by rw [Hl.out]; exact hltj
                  obtain ⟨bw, ow, rfl, hbw, d0, d1, d2, d3⟩ := rdWt (HR.out.2.1.grow Hbr.out) Hl.out.symm j hltj2
                  have hw := HS.out.wt ws2[j] (List.getElem_mem hltj2)
                  have Hled := Lib.hid (ledB_succ ws2 j hltj2 i)
                  have Htig := Lib.hid (tightB_succ ws2 j hltj2 sec i bv)
                  generalize ws2[j] = kk at *
                  obtain ⟨f, t, mn, mx⟩ := kk
                  simp only at d0 d1 d2 d3 hw Hled Htig
                  obtain ⟨hf0, hft, ht1, hmn0, hmn1, hmx0, hmx1⟩ := hw
                  obtain ⟨f, rfl⟩ := Int.eq_ofNat_of_zero_le hf0
                  have hfl : f < ms.length := by omega
                  obtain ⟨bs', os', e1, _, s1⟩ := rd1 (HR.out.2.2.2.grow Hbr.out) f (by rw [Hsol.out.ls]; exact hfl)
                  injection e1 with e1
                  injection e1 with e1 e2
                  subst e1 e2
                  have hsf := HS.out.sec Hsol.out f (by omega) (by omega)
                  rw [gi_nat sec f (by rw [Hsol.out.ls]; exact hfl)] at hsf Htig
                  generalize sec[f]'(by rw [Hsol.out.ls]; exact hfl) = sf at *
                  obtain ⟨_, _, hsf0, hsf1⟩ := hsf
                  generalize ledB (ws2.take j) i = lb at *
                  generalize tightB (ws2.take j) sec i bv = tb at *
                  have hbw' : bw < wr.heap.size := World.block_lt_of_cell? _ _ d0
                  have hbs' : bs < wr.heap.size := World.block_lt_of_cell? _ _ s1
                  by_cases e : t = (i : Int)
                  · have e' : (t == (i : Int)) = true := by simpa using e
                    rw [e', Bool.or_true] at Hled
                    rw [e', Bool.true_and] at Htig
                    clear e
                    cases tb
                    all_goals
                      go_upto_region 26 with fail
                      have hwr : IntKind.i64.wrap (sf + mn) = sf + mn := IntWalk.i64_in _ (by omega)
                      go_quiet (fail)
                      clear hwr
                      go_wp2_with fail
                      go_roundg (ws.length - j - 1)
                      case measure => have := Hj.out; omega
                      case rel => exact ⟨j + 1, by first | rfl | go_num, by omega, by rw [Hled.out], by rw [Htig.out]; simp, (by have hbelh := Hbr.out; have hbels := hbelh.size; exact (by repeat (first | exact Below.refl _ _ | (with_reducible refine Below.drew ?_) | (with_reducible refine below_drewN ?_ _) | (with_reducible refine Below.alloc ?_ (by first | omega | (simp; done) | (simp; omega)) _) | (with_reducible refine Below.setCell ?_ (by first | omega | (simp; done) | (simp; omega)) _) | (refine Below.trans ?_ (Below.mono (by with_reducible assumption) (by first | omega | (simp; done) | (simp; omega)))))))⟩
                  · have e' : (t == (i : Int)) = false := by simpa using e
                    rw [e', Bool.or_false] at Hled
                    rw [e', Bool.false_and, Bool.or_false] at Htig
                    clear e
                    go_wp2_with fail
                    go_roundg (ws.length - j - 1)
                    case measure => have := Hj.out; omega
                    case rel => exact ⟨j + 1, by first | rfl | go_num, by omega, by rw [Hled.out], by rw [Htig.out], (by have hbelh := Hbr.out; have hbels := hbelh.size; exact (by repeat (first | exact Below.refl _ _ | (with_reducible refine Below.drew ?_) | (with_reducible refine below_drewN ?_ _) | (with_reducible refine Below.alloc ?_ (by first | omega | (simp; done) | (simp; omega)) _) | (with_reducible refine Below.setCell ?_ (by first | omega | (simp; done) | (simp; omega)) _) | (refine Below.trans ?_ (Below.mono (by with_reducible assumption) (by first | omega | (simp; done) | (simp; omega)))))))⟩
                · have hle : ws2.length ≤ j := by rw [Hl.out]; omega
                  rw [List.take_of_length_le hle]
                  clear hle Hj
                  obtain ⟨bm, om, rfl, hbm, m0, m1⟩ := rdMom (HR.out.1.grow Hbr.out) rfl i hlt
                  rw [tm_nat ms i hlt, hd_nat ms i hlt] at HL
                  generalize ms[i] = mi at *
                  obtain ⟨tv, hv⟩ := mi
                  simp only at m0 m1 HL
                  have hl := HL.out
                  clear HL
                  generalize ledB ws2 i = lb at *
                  generalize tightB ws2 sec i bv = tb at *
                  cases tb
                  · simp only [Bool.false_eq_true, false_or] at hl
                    obtain ⟨e1, e2⟩ := hl
                    have e1' : (bv != tv) = false := by simpa using e1
                    clear e1
                    cases lb
                    · clear e2
                      go_wp2_with fail
                      go_roundg (ms.length - i - 1)
                      case measure => have := Hi.out; omega
                      case rel => exact ⟨i + 1, by first | rfl | go_num, by omega, (by have hbelh := Hbr.out; have hbels := hbelh.size; exact (by repeat (first | exact Below.refl _ _ | (with_reducible refine Below.drew ?_) | (with_reducible refine below_drewN ?_ _) | (with_reducible refine Below.alloc ?_ (by first | omega | (simp; done) | (simp; omega)) _) | (with_reducible refine Below.setCell ?_ (by first | omega | (simp; done) | (simp; omega)) _) | (refine Below.trans ?_ (Below.mono (by with_reducible assumption) (by first | omega | (simp; done) | (simp; omega)))))))⟩
                    · obtain rfl := e2 rfl
                      clear e2
                      go_wp2_with fail
                      go_roundg (ms.length - i - 1)
                      case measure => have := Hi.out; omega
                      case rel => exact ⟨i + 1, by first | rfl | go_num, by omega, (by have hbelh := Hbr.out; have hbels := hbelh.size; exact (by repeat (first | exact Below.refl _ _ | (with_reducible refine Below.drew ?_) | (with_reducible refine below_drewN ?_ _) | (with_reducible refine Below.alloc ?_ (by first | omega | (simp; done) | (simp; omega)) _) | (with_reducible refine Below.setCell ?_ (by first | omega | (simp; done) | (simp; omega)) _) | (refine Below.trans ?_ (Below.mono (by with_reducible assumption) (by first | omega | (simp; done) | (simp; omega)))))))⟩
                  · clear hl
                    go_wp2_with fail
                    go_roundg (ms.length - i - 1)
                    case measure => have := Hi.out; omega
                    case rel => exact ⟨i + 1, by first | rfl | go_num, by omega, (by have hbelh := Hbr.out; have hbels := hbelh.size; exact (by repeat (first | exact Below.refl _ _ | (with_reducible refine Below.drew ?_) | (with_reducible refine below_drewN ?_ _) | (with_reducible refine Below.alloc ?_ (by first | omega | (simp; done) | (simp; omega)) _) | (with_reducible refine Below.setCell ?_ (by first | omega | (simp; done) | (simp; omega)) _) | (refine Below.trans ?_ (Below.mono (by with_reducible assumption) (by first | omega | (simp; done) | (simp; omega)))))))⟩
        · go_wp2_with fail
          refine (awake_any _).mono ?_
          rintro e w3 ⟨rfl, hb3⟩
          go_wp2_with fail
          go_ret
          exact ⟨rfl, Hb2.out.trans ((Hbr.out.trans (hb3.mono Hbr.out.size)).mono Hb2.out.size)⟩
end Go.Proofs.Ytddkfdfgfkejoaa
