import Derived.Test.YtddkfdfgfkejoaaDly8
import Derived.Test.YtddkfdfgfkejoaaData3
namespace Go.Proofs.Ytddkfdfgfkejoaa
open Go.RowKit

theorem valid_ps {ms : List Mom} {ws : List Wt} {ps ps' : List Pri} (h : Valid ms ws ps) (hl : ps'.length ≤ 64) (nd : (ps'.map Pri.mo).Nodup) (pt : ∀ d ∈ ps', 0 ≤ d.mo ∧ d.mo < (ms.length : Int) ∧ 0 ≤ d.sec ∧ d.sec ≤ 4194304) : Valid ms ws ps' := by
  refine ⟨⟨h.1.m, h.1.w, hl, h.1.mAll, h.1.wAll, fun j hj => ?_⟩, h.2⟩
  have h1 := pt ps'[j] (List.getElem_mem hj)
  refine ⟨by simp [momB]; omega, by simp [clkB]; omega, fun hmem => ?_⟩
  obtain ⟨d, hd, e⟩ := List.mem_map.1 hmem
  obtain ⟨r, hr, rfl⟩ := List.mem_take_iff_getElem.1 hd
  have h2 := List.pairwise_iff_getElem.1 nd r j (by simp; omega) (by simpa using hj) (by omega)
  simp only [List.getElem_map] at h2
  exact h2 e
theorem Small.inc {ms : List Mom} {ws : List Wt} {ps : List Pri} (h : Small ms ws ps) (i d : Int) (h0 : 0 ≤ d) (h1 : d ≤ 500) (hm : i ∈ ps.map Pri.mo) : Valid ms ws (incP ps i d) ∧ ∀ j, Go.Proofs.Ytddkfdfgfkejoaa.prim (incP ps i d) j = Go.Proofs.Ytddkfdfgfkejoaa.prim ps j + if j = i then d else 0 := by
  refine ⟨valid_ps h.valid (by have := h.np; simp [incP]; omega) (by rw [incP_mo]; exact h.nd) (fun x hx => ?_), prim_inc i d ps h.nd hm⟩
  obtain ⟨y, hy, rfl⟩ := List.mem_map.1 hx
  have := h.pt y hy
  split <;> (try simp only) <;> omega
theorem Small.add {ms : List Mom} {ws : List Wt} {ps : List Pri} (h : Small ms ws ps) (i d : Int) (h0 : 0 ≤ d) (h1 : d ≤ 500) (hi0 : 0 ≤ i) (hi1 : i < (ms.length : Int)) (hn : i ∉ ps.map Pri.mo) : Valid ms ws (ps ++ [⟨i, d⟩]) ∧ ∀ j, Go.Proofs.Ytddkfdfgfkejoaa.prim (ps ++ [⟨i, d⟩]) j = Go.Proofs.Ytddkfdfgfkejoaa.prim ps j + if j = i then d else 0 := by
  refine ⟨valid_ps h.valid (by have := h.np; simp; omega) ?_ (fun x hx => ?_), fun j => ?_⟩
  · rw [List.map_append, List.nodup_append]
    exact ⟨h.nd, by simp, fun y hy z hz => by simp at hz; subst hz; intro e; subst e; exact hn hy⟩
  · rcases List.mem_append.1 hx with hx | hx
    · have := h.pt x hx; omega
    · simp at hx; subst hx; simp only; omega
  · rw [prim_snoc]
    by_cases e : j = i
    · rw [if_pos e, if_pos e.symm]
    · rw [if_neg e, if_neg (fun h => e h.symm)]
/-- of the delays the first j made greater -/
def incT (ps : List Pri) (i d : Int) (j : Nat) : List Pri := incP (ps.take j) i d ++ ps.drop j
theorem incT_zero (ps : List Pri) (i d : Int) : incT ps i d 0 = ps := by simp [incT, incP]
theorem incT_len (ps : List Pri) (i d : Int) (j : Nat) : (incT ps i d j).length = ps.length := by simp [incT, incP]; omega
theorem incT_all (ps : List Pri) (i d : Int) : incT ps i d ps.length = incP ps i d := by simp [incT]
theorem incT_get (ps : List Pri) (i d : Int) (j : Nat) (h : j < ps.length) : (incT ps i d j)[j]'(by rw [incT_len]; exact h) = ps[j] := by
  unfold incT incP
  rw [List.getElem_append_right (by simp; omega)]
  simp [Nat.min_eq_left (Nat.le_of_lt h)]
theorem incT_set (ps : List Pri) (i d : Int) (j : Nat) (h : j < ps.length) (e : ps[j].mo = i) : (incT ps i d j).set j ⟨ps[j].mo, ps[j].sec + d⟩ = incT ps i d (j + 1) := by
  unfold incT incP
  rw [List.take_succ_eq_append_getElem h, List.map_append, List.drop_eq_getElem_cons h, List.set_append_right _ _ (by simp; omega)]
  simp only [List.length_map, List.length_take, Nat.min_eq_left (Nat.le_of_lt h), Nat.sub_self, List.set_cons_zero, List.map_cons, List.map_nil, if_pos e, List.append_assoc, List.cons_append, List.nil_append]
theorem incT_skip (ps : List Pri) (i d : Int) (j : Nat) (h : j < ps.length) (e : ps[j].mo ≠ i) : incT ps i d j = incT ps i d (j + 1) := by
  unfold incT incP
  rw [List.take_succ_eq_append_getElem h, List.map_append, List.drop_eq_getElem_cons h]
  simp [e]
def fndB (ps : List Pri) (i : Int) : Bool := ps.any fun d => d.mo == i
theorem fndB_succ (l : List Pri) (j : Nat) (h : j < l.length) (i : Int) : fndB (l.take (j + 1)) i = (fndB (l.take j) i || (l[j].mo == i)) := by
  unfold fndB; rw [List.take_succ_eq_append_getElem h, List.any_append]; simp only [List.any_cons, List.any_nil, Bool.or_false]
theorem fndB_mem (l : List Pri) (i : Int) : fndB l i = true ↔ i ∈ l.map Pri.mo := by
  unfold fndB
  rw [List.any_eq_true, List.mem_map]
  exact ⟨fun ⟨x, h, e⟩ => ⟨x, h, by simpa using e⟩, fun ⟨x, h, e⟩ => ⟨x, h, by simpa using e⟩⟩
theorem incP_not (ps : List Pri) (i d : Int) (h : i ∉ ps.map Pri.mo) : incP ps i d = ps := by
  unfold incP
  conv => rhs; rw [← List.map_id ps]
  apply List.map_congr_left
  intro y hy
  rw [if_neg (fun e => h (List.mem_map.2 ⟨y, hy, e⟩))]
  rfl

/-- the copy of the delays: the call's own, in a world that goes on from w2 -/
structure MP (w2 : World) (v : Value) (ps : List Pri) (wr : World) : Prop where
  bel : Below w2.heap.size w2 wr
  op : wr.ownsRow w2.heap.size 39 2 v ps.length (ps.flatMap Pri.cells)
theorem MP.set {w2 wr : World} {g c : Nat} {ps : List Pri} (h : MP w2 (.slice (some ⟨g, 0, none⟩) ps.length c) ps wr) (i : Nat) (hi : i < ps.length) (j : Nat) (hj : j < 2) (y : Pri) (u : Value) (hy : y.cells = ps[i].cells.set j u) :
    MP w2 (.slice (some ⟨g, 0, none⟩) ps.length c) (ps.set i y) (wr.setCell ⟨g, i * 2 + j, none⟩ u) := by
  have hg := (own_block h.op g rfl).1
  refine ⟨h.bel.setCell (by simp; omega) _, ?_⟩
  have := (h.op.stored (i * 2 + j) u).1
  rw [flat_set1 Pri.cells 2 Pri.len ps i hi j hj y u hy] at this
  rw [List.length_set]
  exact this
def LM2 (w2 : World) (v16 : Value) (ps : List Pri) (i d : Int) (k : Nat) (v17 v : Value) (wr : World) : Prop :=
  ∃ j : Nat, v = .int .i64 j ∧ j + k = ps.length ∧ v17 = .bool (fndB (ps.take j) i) ∧ MP w2 v16 (incT ps i d j) wr
def LM3 (w2 : World) (v : Value) (ps2 : List Pri) (wr : World) : Prop := ∃ (A : Option Addr) (m c : Nat), v = .slice A m c ∧ m = ps2.length ∧ Rd wr wr.heap.size 2 A m (ps2.flatMap Pri.cells) ∧ Below w2.heap.size w2 wr

set_option maxRecDepth 100000 in
set_option maxHeartbeats 3200000 in
theorem delayMonotone_true (A : Option Addr) (n c : Nat) (z : List Int) (xat xby : Int) (w : World) (h : Rd w w.heap.size 1 A n (z.map (Value.int .i64))) (m : n ≤ c ∧ c ≤ maxLen ∧ c * 8 ≤ 140737488351232) (_wat : (Lit.int .i64 xat).wf = true) (_wby : (Lit.int .i64 xby).wf = true) :
    Calls Try.prog 5 #[.slice A n c, .int .i64 xat, .int .i64 xby] w fun e w' => e = .returned (.bool true) ∧ Below w.heap.size w w' := by
  have H := Lib.hid h
  have HN : n ≤ maxLen := by omega
  have HN := Lib.hid HN
  clear h m _wat _wby
  obtain ⟨HPi, c1, c2, c3, c4⟩ := info_parts infoPri
  have HP := Lib.hid (And.intro c1 (And.intro c2 (And.intro c3 c4)))
  clear c1 c2 c3 c4
  go_enter Try.func5, Try.ntmps5
  go_wp2_with fail
  refine (mkdelay_any A n c z w H.out HN.out).mono ?_
  rintro e w1 ⟨v6, v7, v8, nn, ms, ws, ps, rfl, hn1, hn6, hok, hb1, hom, how, hop⟩
  obtain ⟨A6, c6, rfl, hc6, hm6⟩ := own_slice hom
  obtain ⟨A7, c7, rfl, hc7, hm7⟩ := own_slice how
  obtain ⟨A8, c8, rfl, hc8, hm8⟩ := own_slice hop
  have hsm := hok.small hn1 hn6
  have HS := Lib.hid hsm
  have HD : Hid (DX w (.slice A6 ms.length c6) (.slice A7 ws.length c7) (.slice A8 ps.length c8) ms ws ps w1) := ⟨hb1, hom, how, hop⟩
  have hl6 := hsm.n6
  have hl1 := hsm.n1
  have hlw := hsm.nw
  have hlp := hsm.np
  clear hsm hok hom how hop hb1 hn1 hn6 H HN
  unfold maxLen at hm6 hm7 hm8
  go_wp2_with fail
  go_loopg [10, 31] ws.length (fun k _ v wr => LU w (.slice A6 ms.length c6) (.slice A7 ws.length c7) (.slice A8 ps.length c8) ms ws ps k v wr)
  case atStart => exact ⟨0, rfl, by omega, by rw [unM_zero]; exact HD.out⟩
  case round =>
    obtain ⟨i, rfl, hi, hdx⟩ := hrel
    have Hi := Lib.hid hi
    clear HD
    have HD := Lib.hid hdx
    clear hi hdx
    by_cases hlt : i < ws.length
    · have how := HD.out.ow
      rw [unM_len] at how
      obtain ⟨g7, c7', e7, hg7, hg7l⟩ := how.form (by omega)
      injection e7 with e7 _ e8
      subst e7 e8
      have q3 := (ownWt how (unM_len i ws).symm i (by rw [unM_len]; exact hlt)).2.2.2
      have f3 := how.frozenAt (i * 4 + 3)
      have hset := (show DX w (.slice A6 ms.length c6) (.slice (some ⟨g7, 0, none⟩) (unM i ws).length c7) (.slice A8 ps.length c8) ms (unM i ws) ps wr by rw [unM_len]; exact HD.out).setW i (by rw [unM_len]; exact hlt) 3 (by omega) ws[i].un (.int .i64 (-1)) (by rw [unM_get i ws hlt]; rfl)
      rw [unM_set i ws hlt, unM_len] at hset
      have HD2 := Lib.hid hset
      rw [unM_get i ws hlt] at q3
      generalize ws[i].mx = xv at *
      clear how hset HD
      go_wp2_with fail
      go_roundg (ws.length - i - 1)
      case measure => have := Hi.out; omega
      case rel => exact ⟨i + 1, by first | rfl | go_num, by omega, HD2.out⟩
    · obtain rfl : i = ws.length := by have := Hi.out; omega
      have hd := HD.out
      rw [unM_all] at hd
      have HD := Lib.hid hd
      clear hd Hi
      have hl : (ws.map Wt.un).length = ws.length := by simp
      have HS' := Lib.hid HS.out.un
      have HU := Lib.hid (un_all ws)
      generalize hws2 : ws.map Wt.un = ws2 at *
      clear HS hws2
      have HS := HS'
      have Hl := Lib.hid hl
      clear hl HS'
      have HO := Lib.hid (And.intro (Rd.of_own HD.out.om) (And.intro (Rd.of_own (by have := HD.out.ow; rw [Hl.out] at this; exact this)) (Rd.of_own HD.out.op)))
      have Hb1 := Lib.hid HD.out.bel
      have Hnil := Lib.hid (show A8 = none → ps.length = 0 ∧ c8 = 0 from fun e => by subst e; exact own_nil HD.out.op)
      clear HD
      go_wp2_with fail
      refine (propa_any _ _ _ _ _ _ _ _ _ ms ws2 ps wr HO.out.1 HO.out.2.1 HO.out.2.2 rfl (by rw [Hl.out]) rfl (by omega) (by rw [Hl.out]; omega) (by omega)).mono ?_
      rintro e w2 ⟨hb2, hcase⟩
      rcases hcase with ⟨hv, vs, vk, base, sec, kept, rfl, hsol, hos, hok⟩ | ⟨hv, rfl⟩
      case inr => exact absurd HS.out.valid hv
      obtain ⟨As, cs, rfl, hcs, hms⟩ := own_slice hos
      obtain ⟨Ak, ck, rfl, hck, hmk⟩ := own_slice hok
      have HR := Lib.hid (And.intro ((HO.out.1.grow hb2).more hb2.size) (And.intro ((HO.out.2.1.grow hb2).more hb2.size) (And.intro ((HO.out.2.2.grow hb2).more hb2.size) (Rd.of_own hos))))
      have Hsol := Lib.hid hsol
      have Hb2 := Lib.hid (Hb1.out.trans (hb2.mono Hb1.out.size))
      clear hv hsol hos hok hb2 HO Hb1
      unfold maxLen at hms hmk
      go_wp2_with fail
      refine (pick_any _ _ _ (by omega) (by omega)).mono ?_
      rintro e w3 ⟨rfl, rfl⟩
      have hpb := pick_bd xby 500 (by omega) (by omega)
      generalize pick xby 500 = d at *
      obtain ⟨hd0, hd1⟩ := hpb
      go_wp2_with fail
      refine (pick_any _ _ _ (by omega) (by omega)).mono ?_
      rintro e w3 ⟨rfl, rfl⟩
      have hpb := pick_bd xat ms.length (by omega) (by omega)
      generalize pick xat ms.length = ii at *
      obtain ⟨hi0, hi1⟩ := hpb
      obtain ⟨i, rfl⟩ := Int.eq_ofNat_of_zero_le hi0
      have hil : i < ms.length := by omega
      have hnone : A8 = none → ps.length = 0 ∧ c8 = 0 := Hnil.out
      have Hone := Lib.hid (fun u (hu : u ∈ ps.flatMap Pri.cells) => show u.oneCell' = true by obtain ⟨x, _, hx⟩ := List.mem_flatMap.1 hu; exact Pri.one x u hx)
      clear hnone
      go_wp2_with (at_builtin; refine wpList_append_any rfl _ _ 25 rfl w2.heap.size 39 HPi _ 2 16 Try.underlying25 HP.out.1 HP.out.2.1 HP.out.2.2.1 HP.out.2.2.2 rfl (by omega) (.slice none 0 0) 0 [] rfl (World.ownsRow_nil _ _ _ _) A8 ps.length c8 w2.heap.size (ps.flatMap Pri.cells) rfl Hnil.out HR.out.2.2.1 Hone.out ?c2 ?c3 ?c4 ?_; rotate_right; intro v' w3 hown' hg' hat'; simp only [Nat.zero_add, List.nil_append] at hown'; obtain ⟨Am, cm, rfl, hcm, hmm⟩ := own_slice hown')
      case c2 => simp only [maxLen]; omega
      case c3 => omega
      case c4 => omega
      have HM : Hid (MP w2 (.slice Am ps.length cm) ps w3) := ⟨(Below.refl _ _).grown hg' (Nat.le_refl _) (by simp [Value.ownBlock]), hown'⟩
      clear hown' hg' hat' Hone Hnil
      unfold maxLen at hmm
      go_loopg [17, 18, 57] ps.length (fun k v17 _ v wr => LM2 w2 (.slice Am ps.length cm) ps i d k v17 v wr)
      case atStart => exact ⟨0, rfl, by omega, rfl, by rw [incT_zero]; exact HM.out⟩
      case round =>
        obtain ⟨j, rfl, hj, rfl, hmp⟩ := hrel
        have Hj := Lib.hid hj
        clear hj HM
        have HM := Lib.hid hmp
        clear hmp
        by_cases hlt : j < ps.length
        · have hop := HM.out.op
          rw [incT_len] at hop
          obtain ⟨g, cm', e1, hg1, hg2⟩ := hop.form (by omega)
          injection e1 with e1 _ e2
          subst e1 e2
          obtain ⟨q0, q1⟩ := ownPri hop (incT_len ps i d j).symm j (by rw [incT_len]; exact hlt)
          have f1 := hop.frozenAt (j * 2 + 1)
          rw [incT_get ps i d j hlt] at q0 q1
          have Hf := Lib.hid (fndB_succ ps j hlt i)
          by_cases e : ps[j].mo = (i : Int)
          · have hset := (show MP w2 (.slice (some ⟨g, 0, none⟩) (incT ps i d j).length cm) (incT ps i d j) wr by rw [incT_len]; exact HM.out).set j (by rw [incT_len]; exact hlt) 1 (by omega) ⟨ps[j].mo, ps[j].sec + d⟩ (.int .i64 (ps[j].sec + d)) (by rw [incT_get ps i d j hlt]; rfl)
            rw [incT_set ps i d j hlt e, incT_len] at hset
            have HM2 := Lib.hid hset
            have hpt := HS.out.pt ps[j] (List.getElem_mem hlt)
            rw [e] at q0 Hf
            clear e hset HM hop
            generalize ps[j].sec = sv at *
            generalize ps[j].mo = mv at *
            obtain ⟨_, _, hs0, hs1⟩ := hpt
            go_wp2_with fail
            go_roundg (ps.length - j - 1)
            case measure => have := Hj.out; omega
            case rel => exact ⟨j + 1, by first | rfl | go_num, by omega, by rw [Hf.out]; simp, HM2.out⟩
          · have e' : (ps[j].mo == (i : Int)) = false := by simpa using e
            have HM2 := Lib.hid HM.out
            rw [incT_skip ps i d j hlt e] at HM2
            rw [e', Bool.or_false] at Hf
            clear e HM hop
            generalize ps[j].sec = sv at *
            generalize ps[j].mo = mv at *
            go_wp2_with fail
            go_roundg (ps.length - j - 1)
            case measure => have := Hj.out; omega
            case rel => exact ⟨j + 1, by first | rfl | go_num, by omega, by rw [Hf.out], HM2.out⟩
        · obtain rfl : j = ps.length := by have := Hj.out; omega
          have hm := HM.out
          rw [incT_all] at hm
          clear HM Hj
          rw [List.take_length]
          by_cases hf : fndB ps i = true
          · have hv := HS.out.inc i d (by omega) (by omega) ((fndB_mem ps i).1 hf)
            have hlen : (incP ps i d).length = ps.length := by simp [incP]
            rw [hf]
            have HM := Lib.hid (show MP w2 (.slice Am ps.length cm) (incP ps i d) wr from ⟨hm.bel, by have := hm.op; rw [hlen] at this ⊢; exact this⟩)
            have HV := Lib.hid hv
            have Hlen := Lib.hid hlen
            clear hv hm hf hlen
            generalize incP ps i d = ps2 at *
            go_wp2_with fail
            refine (propa_any _ _ _ _ _ _ _ _ _ ms ws2 ps2 wr ((HR.out.1.grow HM.out.bel).more HM.out.bel.size) ((HR.out.2.1.grow HM.out.bel).more HM.out.bel.size) (Rd.of_own (show (wr).ownsRow w2.heap.size 39 2 (.slice Am ps.length _) ps.length (ps2.flatMap Pri.cells) by have := HM.out.op; rw [Hlen.out] at this; exact this)) rfl (by rw [Hl.out]) (by first | exact Hlen.out.symm | rw [Hlen.out]) (by omega) (by rw [Hl.out]; omega) (by rw [Hlen.out]; omega)).mono ?_
            rintro e w5 ⟨hb5, hcase⟩
            rcases hcase with ⟨hv, vs, vk, base2, sec2, kept2, rfl, hsol2, hos2, hok2⟩ | ⟨hv, rfl⟩
            case inr => exact absurd HV.out.1 hv
            obtain ⟨As2, cs2, rfl, hcs2, hms2⟩ := own_slice hos2
            obtain ⟨Ak2, ck2, rfl, hck2, hmk2⟩ := own_slice hok2
            have hb25 := HM.out.bel.trans (hb5.mono HM.out.bel.size)
            have HR2 := Lib.hid (And.intro ((HR.out.2.2.2.grow hb25).more hb25.size) (Rd.of_own hos2))
            have hw2 : ∀ k ∈ ws2, 0 ≤ k.fr ∧ k.fr < k.tt ∧ k.tt < (ms.length : Int) := fun k hk => by have := HS.out.wt k hk; omega
            have HMO := Lib.hid (fun (n : Nat) (j : Int) (hj : j = n) (hj1 : j < (ms.length : Int)) => mono_ok Hsol.out hsol2 HU.out hw2 i d (by omega) HV.out.2 n j hj hj1)
            have HME := Lib.hid (mono_eq Hsol.out hsol2 HU.out hw2 i d (by omega) HV.out.2 (by omega) (by omega))
            have Hls2 := Lib.hid hsol2.ls
            have Hb5 := Lib.hid (Hb2.out.trans (hb25.mono Hb2.out.size))
            clear hv hsol2 hos2 hok2 hb5 hb25 hw2 HM HV
            unfold maxLen at hms2 hmk2
            have n1 : ((ms.length : Int) != (ms.length : Int)) = false := by simp
            go_wp2_with fail
            clear n1
            go_loopg [22, 115] ms.length (fun k _ v wr => LoopB w5 ms.length k v wr)
            case atStart => exact ⟨0, rfl, by omega, Below.refl _ _⟩
            case round =>
              obtain ⟨j, rfl, hj, hbr⟩ := hrel
              have Hj := Lib.hid hj
              have Hbr := Lib.hid hbr
              clear hj hbr
              by_cases hlt : j < ms.length
              · obtain ⟨bs, os, rfl, hbs, s0⟩ := rd1 (HR2.out.1.grow Hbr.out) j (by rw [Hsol.out.ls]; exact hlt)
                obtain ⟨bt, ot, rfl, hbt, t0⟩ := rd1 (HR2.out.2.grow Hbr.out) j (by rw [Hls2.out]; exact hlt)
                have hsv := HS.out.sec Hsol.out j (by omega) (by omega)
                have hmo := HMO.out j j rfl (by omega)
                rw [gi_nat sec j (by rw [Hsol.out.ls]; exact hlt)] at hsv hmo
                rw [gi_nat sec2 j (by rw [Hls2.out]; exact hlt)] at hmo
                generalize sec[j]'(by rw [Hsol.out.ls]; exact hlt) = sv at *
                generalize sec2[j]'(by rw [Hls2.out]; exact hlt) = uv at *
                obtain ⟨_, _, hs0, hs1⟩ := hsv
                obtain ⟨hm0, hm1, _⟩ := hmo
                have hd1' : decide (uv < sv) = false := by simpa using hm0
                have hd2' : decide (sv + d < uv) = false := by simpa using hm1
                have hwr : IntKind.i64.wrap (sv + d) = sv + d := IntWalk.i64_in _ (by omega)
                go_upto_region 27 with fail
                go_quiet (fail)
                clear hd1' hd2' hwr
                go_wp2_with fail
                go_roundg (ms.length - j - 1)
                case measure => have := Hj.out; omega
                case rel => exact ⟨j + 1, by first | rfl | go_num, by omega, below_drewN Hbr.out _⟩
              · clear Hj
                have hbr := Hbr.out
                obtain ⟨bs, os, rfl, hbs, s0⟩ := rd1 (HR2.out.1.grow hbr) i (by rw [Hsol.out.ls]; exact hil)
                obtain ⟨bt, ot, rfl, hbt, t0⟩ := rd1 (HR2.out.2.grow hbr) i (by rw [Hls2.out]; exact hil)
                have hsv := HS.out.sec Hsol.out i (by omega) (by omega)
                have hme := HME.out
                rw [gi_nat sec i (by rw [Hsol.out.ls]; exact hil)] at hsv hme
                rw [gi_nat sec2 i (by rw [Hls2.out]; exact hil)] at hme
                generalize sec[i]'(by rw [Hsol.out.ls]; exact hil) = sv at *
                generalize sec2[i]'(by rw [Hls2.out]; exact hil) = uv at *
                subst hme
                obtain ⟨_, _, hs0, hs1⟩ := hsv
                have hbs' : bs < wr.heap.size := World.block_lt_of_cell? _ _ s0
                have hbt' : bt < wr.heap.size := World.block_lt_of_cell? _ _ t0
                clear hbr
                go_upto_region 30 with fail
                clear hlt
                have hwr : IntKind.i64.wrap (sv + d) = sv + d := IntWalk.i64_in _ (by omega)
                refine wp_region_overL (by kernel_rfl) (by kernel_rfl) ?_
                repeat (go_big_quiet_step (first | (go_at_call 14; exact callsOver (awake_any _))))
                refine wpQuiet_nil ?_
                clear hwr
                intro w8 hb8
                go_wp2_with fail
                go_ret
                exact ⟨by simp, Hb5.out.trans ((Hbr.out.trans (hb8.mono Hbr.out.size)).mono Hb5.out.size)⟩
          · have hno : (i : Int) ∉ ps.map Pri.mo := fun h => hf ((fndB_mem ps i).2 h)
            have hv := HS.out.add i d (by omega) (by omega) (by omega) (by omega) hno
            rw [incP_not ps i d hno] at hm
            have hf' : fndB ps i = false := by simpa using hf
            rw [hf']
            have HM := Lib.hid hm
            have HV := Lib.hid hv
            have hsz := hm.bel.size
            clear hf hf' hno hm hv
            go_wp2_with (at_builtin; refine wpList_append_own_at _ rfl _ _ 25 rfl w2.heap.size 39 HPi _ 2 16 Try.underlying25 HP.out.1 HP.out.2.1 HP.out.2.2.1 HP.out.2.2.2 rfl (by omega) _ ps.length _ rfl (World.ownsRow.alloc HM.out.op _) ⟨wr.heap.size, 0, none⟩ 1 1 [.int .i64 (i : Int), .int .i64 d] rfl rfl ?c0 ?c1 ?c2 ?c3 ?c4 ?_; rotate_right; intro v' w4 hown' hg' _ hat'; obtain ⟨An, cn, rfl, hcn, hmn⟩ := own_slice hown')
            case c0 => exact news_new _ _ _
            case c1 => intro u hu; simp only [List.mem_cons, List.not_mem_nil, or_false] at hu; rcases hu with rfl | rfl <;> rfl
            case c2 => simp only [maxLen]; omega
            case c3 => omega
            case c4 => simp; omega
            have HM2 : Hid (MP w2 (.slice An (ps.length + 1) cn) (ps ++ [⟨i, d⟩]) w4) :=
              ⟨(HM.out.bel.alloc hsz _).grown hg' (by simp; omega) (fun g hg => (own_block HM.out.op g hg).1), by rw [List.flatMap_append, List.length_append]; exact hown'⟩
            have Hlen := Lib.hid (show (ps ++ [(⟨i, d⟩ : Pri)]).length = ps.length + 1 by simp)
            clear HM hown' hg' hat' hsz
            have HM := HM2
            clear HM2
            generalize ps ++ [(⟨i, d⟩ : Pri)] = ps2 at *
            unfold maxLen at hmn
            go_wp2_with fail
            refine (propa_any _ _ _ _ _ _ _ _ _ ms ws2 ps2 w4 ((HR.out.1.grow HM.out.bel).more HM.out.bel.size) ((HR.out.2.1.grow HM.out.bel).more HM.out.bel.size) (Rd.of_own (show (w4).ownsRow w2.heap.size 39 2 (.slice An (ps.length + 1) _) (ps.length + 1) (ps2.flatMap Pri.cells) by have := HM.out.op; rw [Hlen.out] at this; exact this)) rfl (by rw [Hl.out]) (by first | exact Hlen.out.symm | rw [Hlen.out]) (by omega) (by rw [Hl.out]; omega) (by rw [Hlen.out]; omega)).mono ?_
            rintro e w5 ⟨hb5, hcase⟩
            rcases hcase with ⟨hv, vs, vk, base2, sec2, kept2, rfl, hsol2, hos2, hok2⟩ | ⟨hv, rfl⟩
            case inr => exact absurd HV.out.1 hv
            obtain ⟨As2, cs2, rfl, hcs2, hms2⟩ := own_slice hos2
            obtain ⟨Ak2, ck2, rfl, hck2, hmk2⟩ := own_slice hok2
            have hb25 := HM.out.bel.trans (hb5.mono HM.out.bel.size)
            have HR2 := Lib.hid (And.intro ((HR.out.2.2.2.grow hb25).more hb25.size) (Rd.of_own hos2))
            have hw2 : ∀ k ∈ ws2, 0 ≤ k.fr ∧ k.fr < k.tt ∧ k.tt < (ms.length : Int) := fun k hk => by have := HS.out.wt k hk; omega
            have HMO := Lib.hid (fun (n : Nat) (j : Int) (hj : j = n) (hj1 : j < (ms.length : Int)) => mono_ok Hsol.out hsol2 HU.out hw2 i d (by omega) HV.out.2 n j hj hj1)
            have HME := Lib.hid (mono_eq Hsol.out hsol2 HU.out hw2 i d (by omega) HV.out.2 (by omega) (by omega))
            have Hls2 := Lib.hid hsol2.ls
            have Hb5 := Lib.hid (Hb2.out.trans (hb25.mono Hb2.out.size))
            clear hv hsol2 hos2 hok2 hb5 hb25 hw2 HM HV
            unfold maxLen at hms2 hmk2
            have n1 : ((ms.length : Int) != (ms.length : Int)) = false := by simp
            go_wp2_with fail
            clear n1
            go_loopg [22, 115] ms.length (fun k _ v wr => LoopB w5 ms.length k v wr)
            case atStart => exact ⟨0, rfl, by omega, Below.refl _ _⟩
            case round =>
              obtain ⟨j, rfl, hj, hbr⟩ := hrel
              have Hj := Lib.hid hj
              have Hbr := Lib.hid hbr
              clear hj hbr
              by_cases hlt : j < ms.length
              · obtain ⟨bs, os, rfl, hbs, s0⟩ := rd1 (HR2.out.1.grow Hbr.out) j (by rw [Hsol.out.ls]; exact hlt)
                obtain ⟨bt, ot, rfl, hbt, t0⟩ := rd1 (HR2.out.2.grow Hbr.out) j (by rw [Hls2.out]; exact hlt)
                have hsv := HS.out.sec Hsol.out j (by omega) (by omega)
                have hmo := HMO.out j j rfl (by omega)
                rw [gi_nat sec j (by rw [Hsol.out.ls]; exact hlt)] at hsv hmo
                rw [gi_nat sec2 j (by rw [Hls2.out]; exact hlt)] at hmo
                generalize sec[j]'(by rw [Hsol.out.ls]; exact hlt) = sv at *
                generalize sec2[j]'(by rw [Hls2.out]; exact hlt) = uv at *
                obtain ⟨_, _, hs0, hs1⟩ := hsv
                obtain ⟨hm0, hm1, _⟩ := hmo
                have hd1' : decide (uv < sv) = false := by simpa using hm0
                have hd2' : decide (sv + d < uv) = false := by simpa using hm1
                have hwr : IntKind.i64.wrap (sv + d) = sv + d := IntWalk.i64_in _ (by omega)
                go_upto_region 27 with fail
                go_quiet (fail)
                clear hd1' hd2' hwr
                go_wp2_with fail
                go_roundg (ms.length - j - 1)
                case measure => have := Hj.out; omega
                case rel => exact ⟨j + 1, by first | rfl | go_num, by omega, below_drewN Hbr.out _⟩
              · clear Hj
                have hbr := Hbr.out
                obtain ⟨bs, os, rfl, hbs, s0⟩ := rd1 (HR2.out.1.grow hbr) i (by rw [Hsol.out.ls]; exact hil)
                obtain ⟨bt, ot, rfl, hbt, t0⟩ := rd1 (HR2.out.2.grow hbr) i (by rw [Hls2.out]; exact hil)
                have hsv := HS.out.sec Hsol.out i (by omega) (by omega)
                have hme := HME.out
                rw [gi_nat sec i (by rw [Hsol.out.ls]; exact hil)] at hsv hme
                rw [gi_nat sec2 i (by rw [Hls2.out]; exact hil)] at hme
                generalize sec[i]'(by rw [Hsol.out.ls]; exact hil) = sv at *
                generalize sec2[i]'(by rw [Hls2.out]; exact hil) = uv at *
                subst hme
                obtain ⟨_, _, hs0, hs1⟩ := hsv
                have hbs' : bs < wr.heap.size := World.block_lt_of_cell? _ _ s0
                have hbt' : bt < wr.heap.size := World.block_lt_of_cell? _ _ t0
                clear hbr
                go_upto_region 30 with fail
                clear hlt
                have hwr : IntKind.i64.wrap (sv + d) = sv + d := IntWalk.i64_in _ (by omega)
                refine wp_region_overL (by kernel_rfl) (by kernel_rfl) ?_
                repeat (go_big_quiet_step (first | (go_at_call 14; exact callsOver (awake_any _))))
                refine wpQuiet_nil ?_
                clear hwr
                intro w8 hb8
                go_wp2_with fail
                go_ret
                exact ⟨by simp, Hb5.out.trans ((Hbr.out.trans (hb8.mono Hbr.out.size)).mono Hb5.out.size)⟩
end Go.Proofs.Ytddkfdfgfkejoaa
