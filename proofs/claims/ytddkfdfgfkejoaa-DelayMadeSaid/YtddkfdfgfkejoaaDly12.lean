import Derived.Test.YtddkfdfgfkejoaaDly11
import Derived.Test.YtddkfdfgfkejoaaDlyMath6
namespace Go.Proofs.Ytddkfdfgfkejoaa
open Go.RowKit

def LPrim (w : World) (ps : List Pri) (i : Int) (k : Nat) (v : Value) (wr : World) : Prop :=
  ∃ j : Nat, v = .int .i64 j ∧ j + k = ps.length ∧ (∀ d ∈ ps.take j, d.mo ≠ i) ∧ Below w.heap.size w wr

set_option maxRecDepth 100000 in
set_option maxHeartbeats 1600000 in
theorem primary_any (C : Option Addr) (c c' : Nat) (ps : List Pri) (i : Int) (w : World) (hC : Rd w w.heap.size 2 C c (ps.flatMap Pri.cells)) (hc : c = ps.length) (hl : ps.length ≤ 64) (hn : (ps.map Pri.mo).Nodup) :
    Calls Try.prog 30 #[.slice C c c', .int .i64 i] w fun e w' => e = .returned (.int .i64 (prim ps i)) ∧ Below w.heap.size w w' := by
  subst hc
  have HC := Lib.hid hC
  have HN := Lib.hid hn
  clear hC hn
  go_enter Try.func30, Try.ntmps30
  go_wp2_with fail
  go_loopg [6, 9] ps.length (fun k _ v wr => LPrim w ps i k v wr)
  case atStart => exact ⟨0, rfl, by omega, by simp, Below.refl _ _⟩
  case round =>
    obtain ⟨j, rfl, hj, hno, hbr⟩ := hrel
    have Hj := Lib.hid hj
    have Hno := Lib.hid hno
    have Hbr := Lib.hid hbr
    clear hj hno hbr
    by_cases hlt : j < ps.length
    · obtain ⟨bp, op, rfl, hbp, p0, p1⟩ := rdPri (HC.out.grow Hbr.out) rfl j hlt
      have hbp' : bp < wr.heap.size := World.block_lt_of_cell? _ _ p0
      by_cases e : ps[j].mo = i
      · have HP := Lib.hid (prim_at HN.out j hlt e)
        rw [e] at p0
        clear e
        generalize ps[j].sec = sv at *
        go_wp2_with fail
        go_ret
        exact ⟨by rw [HP.out]; rfl, (by have hbelh := Hbr.out; have hbels := hbelh.size; exact (by repeat (first | exact Below.refl _ _ | (with_reducible refine Below.drew ?_) | (with_reducible refine below_drewN ?_ _) | (with_reducible refine Below.alloc ?_ (by first | omega | (simp; done) | (simp; omega)) _) | (with_reducible refine Below.setCell ?_ (by first | omega | (simp; done) | (simp; omega)) _) | (refine Below.trans ?_ (Below.mono (by with_reducible assumption) (by first | omega | (simp; done) | (simp; omega)))))))⟩
      · have e' : (ps[j].mo == i) = false := by simpa using e
        have HE := Lib.hid e
        have HT := Lib.hid (List.take_succ_eq_append_getElem hlt)
        clear e
        generalize ps[j] = pj at *
        obtain ⟨pm, pv⟩ := pj
        simp only at p0 p1 e' HE
        go_wp2_with fail
        go_roundg (ps.length - j - 1)
        case measure => have := Hj.out; omega
        case rel =>
          refine ⟨j + 1, by first | rfl | go_num, by omega, ?_, (by have hbelh := Hbr.out; have hbels := hbelh.size; exact (by repeat (first | exact Below.refl _ _ | (with_reducible refine Below.drew ?_) | (with_reducible refine below_drewN ?_ _) | (with_reducible refine Below.alloc ?_ (by first | omega | (simp; done) | (simp; omega)) _) | (with_reducible refine Below.setCell ?_ (by first | omega | (simp; done) | (simp; omega)) _) | (refine Below.trans ?_ (Below.mono (by with_reducible assumption) (by first | omega | (simp; done) | (simp; omega)))))))⟩
          rw [HT.out]
          intro d hd
          rcases List.mem_append.1 hd with hd | hd
          · exact Hno.out d hd
          · simp at hd; subst hd; exact HE.out
    · have hp : prim ps i = 0 := prim_none ps i (fun hm => by
        obtain ⟨d, hd, e⟩ := List.mem_map.1 hm
        exact Hno.out d (by rw [List.take_of_length_le (by omega)]; exact hd) e)
      have HP := Lib.hid hp
      clear hp
      go_wp2_with fail
      go_ret
      exact ⟨by rw [HP.out]; rfl, Hbr.out⟩

def RTopOut (n : Nat) (ws : List Wt) (w : World) (e : Ending) (w' : World) : Prop :=
  Below w.heap.size w w' ∧ ((∃ (v : Value) (ord : List Int), e = .returned (.tuple #[v, .bool true]) ∧ Topo n ws ord ∧ ord.length = n ∧ w'.ownsRow w.heap.size 3 1 v n (ord.map (Value.int .i64))) ∨
    (¬ Acyc ws ∧ e = .returned (.tuple #[.slice none 0 0, .bool false])))
/-- the memory of topological -/
structure RTM (w : World) (n G : Nat) (dn : List Bool) (v7 : Value) (ord : List Int) (wr : World) : Prop where
  bel : Below w.heap.size w wr
  od : wr.ownsRow w.heap.size 4 1 (.slice (some ⟨G, 0, none⟩) n n) n (dn.map Value.bool)
  oo : wr.ownsRow (w.heap.size + 1) 3 1 v7 ord.length (ord.map (Value.int .i64))
theorem RTM.grow {w wr w1 : World} {n G : Nat} {dn : List Bool} {v7 : Value} {ord : List Int} (h : RTM w n G dn v7 ord wr) (hb : Below wr.heap.size wr w1) : RTM w n G dn v7 ord w1 :=
  ⟨h.bel.trans (hb.mono h.bel.size), own_grow h.od hb, own_grow h.oo hb⟩
def RL1 (w : World) (n : Nat) (ws : List Wt) (G k : Nat) (v7 : Value) (wr : World) : Prop :=
  ∃ (dn : List Bool) (ord : List Int), ord.length + k = n ∧ RT n ws dn ord ∧ RTM w n G dn v7 ord wr
def RL2 (w : World) (n : Nat) (ws : List Wt) (G : Nat) (dn : List Bool) (v7 : Value) (ord : List Int) (k : Nat) (v8 v9 : Value) (wr : World) : Prop :=
  ∃ i : Nat, v9 = .int .i64 i ∧ i + k = n ∧ RTM w n G dn v7 ord wr ∧ ((v8 = .int .i64 (-1) ∧ ∀ j : Nat, j < i → freeB dn ws j = false) ∨ (∃ a : Nat, a < n ∧ v8 = .int .i64 a ∧ freeB dn ws a = true))
def RL3 (w : World) (n : Nat) (ws : List Wt) (G : Nat) (dn : List Bool) (v7 : Value) (ord : List Int) (i k : Nat) (v10 v : Value) (wr : World) : Prop :=
  ∃ j : Nat, v = .int .i64 j ∧ j + k = ws.length ∧ v10 = .bool (freeB dn (ws.take j) i) ∧ RTM w n G dn v7 ord wr

set_option maxRecDepth 100000 in
set_option maxHeartbeats 3200000 in
theorem rtopo_any (n : Nat) (A : Option Addr) (m c : Nat) (ws : List Wt) (w : World) (h : Rd w w.heap.size 4 A m (ws.flatMap Wt.cells)) (hm : m = ws.length) (hn : n ≤ 64) (hx : ws.length ≤ 200) (hw : ∀ k ∈ ws, WOk n k) :
    Calls Try.prog 29 #[.int .i64 n, .slice A m c] w (RTopOut n ws w) := by
  subst hm
  have H := Lib.hid h
  have HW := Lib.hid hw
  obtain ⟨i0, hi0, hz0, hz1, hz2⟩ := info_parts infoInt
  have HI := Lib.hid (And.intro hi0 (And.intro hz0 (And.intro hz1 hz2)))
  obtain ⟨j0, hj0, hy0, hy1, hy2⟩ := info_parts infoBool
  have HJ := Lib.hid (And.intro hj0 (And.intro hy0 (And.intro hy1 hy2)))
  clear hi0 hz0 hz1 hz2 hj0 hy0 hy1 hy2 h hw
  go_enter Try.func29, Try.ntmps29
  go_wp2_with (at_make; refine wpList_make_full _ rfl _ _ 28 rfl w.heap.size 4 j0 _ 1 Try.underlying28 HJ.out.1 HJ.out.2.1 HJ.out.2.2.1 .i64 .i64 _ _ n rfl rfl rfl rfl ?m1 ?m2 ?m3 ?_; rotate_right; intro w2 hown2 hg2)
  case m1 => rw [HJ.out.2.2.2]; omega
  case m2 => simp only [maxLen]; omega
  case m3 => omega
  have HM0 : Hid (RTM w n w.heap.size (List.replicate n false) (.slice none 0 0) [] w2) := by
    refine ⟨(Below.refl _ _).grown hg2 (Nat.le_refl _) (by simp), ?_, World.ownsRow_nil _ _ _ _⟩
    have := madeCells_one Value.bool false n
    rw [← this]
    exact hown2
  clear hown2 hg2
  obtain ⟨G, hG⟩ : ∃ G, G = w.heap.size := ⟨_, rfl⟩
  rw [← hG] at ⊢
  rw [show RTM w n w.heap.size (List.replicate n false) (.slice none 0 0) [] w2 = RTM w n G (List.replicate n false) (.slice none 0 0) [] w2 by rw [hG]] at HM0
  have hGl : w.heap.size ≤ G ∧ G < w.heap.size + 1 := by omega
  clear hG
  go_wp2_with fail
  go_loopg [7, 8, 9, 10, 12, 35] n (fun k v7 _ _ _ _ _ wr => RL1 w n ws G k v7 wr)
  case atStart => exact ⟨_, [], by simp, RT.start n ws, HM0.out⟩
  case round =>
    obtain ⟨dn, ord, hk, hrt, hrm⟩ := hrel
    clear HM0
    have Hk := Lib.hid hk
    have HR := Lib.hid hrt
    have HM := Lib.hid hrm
    clear hk hrt hrm
    obtain ⟨A7, c7, rfl, hc7, hm7⟩ := own_slice HM.out.oo
    unfold maxLen at hm7
    by_cases hlt : ord.length < n
    · obtain ⟨wo, rfl⟩ : ∃ wo : World, wo = wr := ⟨_, rfl⟩
      go_wp2_with fail
      go_loopg [8, 9, 10, 12, 35] n (fun k v8 v9 _ _ _ wr => RL2 w n ws G dn (.slice A7 ord.length c7) ord k v8 v9 wr)
      case atStart => exact ⟨0, rfl, by omega, HM.out, .inl ⟨rfl, fun j hj => by omega⟩⟩
      case round =>
        obtain ⟨i, rfl, hi, hrm, hcase⟩ := hrel
        clear HM
        have Hi := Lib.hid hi
        have HM := Lib.hid hrm
        clear hi hrm
        rcases hcase with ⟨rfl, hno⟩ | ⟨a, ha, rfl, hfr⟩
        · have Hno := Lib.hid hno
          clear hno
          by_cases hlti : i < n
          · have hdl : i < dn.length := by rw [HR.out.len]; exact hlti
            have q0 := own1 HM.out.od i hdl
            rw [← gb_nat dn i hdl] at q0
            have Hgi := Lib.hid (show freeB dn (ws.take 0) i = !gb dn i by simp [freeB])
            obtain ⟨wo2, rfl⟩ : ∃ wo2 : World, wo2 = wr := ⟨_, rfl⟩
            go_wp2_with fail
            clear q0
            go_loopg [10, 12, 35] ws.length (fun k v10 _ v wr => RL3 w n ws G dn (.slice A7 ord.length c7) ord i k v10 v wr)
            case atStart => exact ⟨0, rfl, by omega, by rw [Hgi.out], HM.out⟩
            case round =>
              obtain ⟨j, rfl, hj, rfl, hrm⟩ := hrel
              clear HM Hgi
              have Hj := Lib.hid hj
              have HM := Lib.hid hrm
              clear hj hrm
              by_cases hltj : j < ws.length
              · obtain ⟨bw, ow, rfl, hbw, d0, d1, d2, d3⟩ := rdWt (H.out.grow HM.out.bel) rfl j hltj
                have hok := HW.out ws[j] (List.getElem_mem hltj)
                have Hs := Lib.hid (freeB_succ dn ws j hltj i)
                generalize ws[j] = kk at *
                obtain ⟨f, t, mn, mx⟩ := kk
                simp only at d0 d1 d2 d3 Hs
                have f0 : 0 ≤ f := hok.f0
                have f1 : f < n := hok.f1
                clear hok
                obtain ⟨f, rfl⟩ := Int.eq_ofNat_of_zero_le f0
                have hdl : f < dn.length := by rw [HR.out.len]; omega
                have q0 := own1 HM.out.od f hdl
                rw [← gb_nat dn f hdl] at q0
                have hgl := (own_block HM.out.od G rfl).2
                have hbw' : bw < wr.heap.size := World.block_lt_of_cell? _ _ d0
                have HM5 := Lib.hid (HM.out.grow ((Below.refl _ _).alloc (Nat.le_refl _) (.cells #[.int .i64 (f : Int), .int .i64 t, .int .i64 mn, .int .i64 mx] 35)))
                clear HM
                generalize gb dn f = gf at *
                generalize freeB dn (ws.take j) i = fb at *
                cases fb
                · rw [Bool.false_and] at Hs
                  go_wp2_with fail
                  go_roundg (ws.length - j - 1)
                  case measure => have := Hj.out; omega
                  case rel => exact ⟨j + 1, by first | rfl | go_num, by omega, by rw [Hs.out], HM5.out⟩
                · rw [Bool.true_and] at Hs
                  by_cases e : t = (i : Int)
                  · have e' : (t != (i : Int)) = false := by simpa using e
                    rw [e', Bool.false_or] at Hs
                    clear e
                    go_wp2_with fail
                    go_roundg (ws.length - j - 1)
                    case measure => have := Hj.out; omega
                    case rel => exact ⟨j + 1, by first | rfl | go_num, by omega, by rw [Hs.out], HM5.out⟩
                  · have e' : (t != (i : Int)) = true := by simpa using e
                    rw [e', Bool.true_or] at Hs
                    clear e
                    go_wp2_with fail
                    go_roundg (ws.length - j - 1)
                    case measure => have := Hj.out; omega
                    case rel => exact ⟨j + 1, by first | rfl | go_num, by omega, by rw [Hs.out], HM5.out⟩
              · have hle : ws.length ≤ j := by omega
                rw [List.take_of_length_le hle]
                clear hle Hj
                have HF : Hid (freeB dn ws i = freeB dn ws i) := rfl
                generalize hfb : freeB dn ws i = fb at *
                have Hfb := Lib.hid hfb
                clear hfb HF
                cases fb
                · go_wp2_with fail
                  go_roundg (n - i - 1)
                  case measure => have := Hi.out; omega
                  case rel => exact ⟨i + 1, by first | rfl | go_num, by omega, HM.out, .inl ⟨rfl, fun j hj => by
                    rcases Nat.lt_or_ge j i with h | h
                    · exact Hno.out j h
                    · obtain rfl : j = i := by omega
                      exact Hfb.out⟩⟩
                · go_wp2_with fail
                  go_roundg (n - i - 1)
                  case measure => have := Hi.out; omega
                  case rel => exact ⟨i + 1, by first | rfl | go_num, by omega, HM.out, .inr ⟨i, hlti, rfl, Hfb.out⟩⟩
          · have Hst := Lib.hid (HR.out.stuck hlt HW.out (fun j hj => Hno.out j (by have := Hi.out; omega)))
            go_wp2_with fail
            go_ret2
            exact ⟨HM.out.bel, .inr ⟨Hst.out, rfl⟩⟩
        · have HA := Lib.hid (HR.out.add a ha HW.out hfr)
          clear hfr
          have hdl : a < dn.length := by rw [HR.out.len]; exact ha
          have q0 := own1 HM.out.od a hdl
          have q1 := HM.out.od.frozenAt a
          have hgl := (own_block HM.out.od G rfl).2
          have HM5 : Hid (RTM w n G (dn.set a true) (.slice A7 ord.length c7) ord (wr.setCell ⟨G, a, none⟩ (.bool true))) :=
            ⟨HM.out.bel.setCell (by simp; omega) _, own1_set HM.out.od a true, own_far HM.out.oo (fun e => by have := (own_block HM.out.oo _ e).1; simp at this; omega)⟩
          clear HM
          by_cases hlti : i < n
          all_goals
            go_upto_region 19 with fail
            clear q0 q1
            generalize wr.setCell ⟨G, a, none⟩ (.bool true) = w5 at *
            have hwl := HM5.out.bel.size
            have hgl5 := (own_block HM5.out.od G rfl).2
            go_wp2_with (at_builtin; refine wpList_append_own_at _ rfl _ _ 22 rfl (w.heap.size + 1) 3 i0 _ 1 8 Try.underlying22 HI.out.1 HI.out.2.1 HI.out.2.2.1 HI.out.2.2.2 rfl (by omega) _ ord.length _ rfl (World.ownsRow.alloc HM5.out.oo _) ⟨w5.heap.size, 0, none⟩ 1 1 [.int .i64 (a : Int)] rfl rfl ?c0 ?c1 ?c2 ?c3 ?c4 ?_; rotate_right; intro v' w' hown' hg' _ hat')
            case c0 => exact news_new _ _ _
            case c1 => intro u hu; simp at hu; subst hu; rfl
            case c2 => simp only [maxLen]; omega
            case c3 => omega
            case c4 => simp; omega
            have HM6 : Hid (RTM w n G (dn.set a true) v' (ord ++ [(a : Int)]) w') :=
              ⟨below_app (HM5.out.bel.alloc hwl _) (World.ownsRow.alloc HM5.out.oo _) (by omega) (by simp; omega) hg',
               (World.ownsRow.alloc HM5.out.od _).kept hg' (.inr (fun e => by have := (own_block HM5.out.oo _ e.symm).1; simp at this; omega)),
               by rw [List.map_append, List.length_append]; exact hown'⟩
            clear HM5 hown' hg' hat' hwl hgl5
            go_wp2_with fail
            go_roundg (n - ord.length - 1)
            case measure => have := Hk.out; omega
            case rel => exact ⟨_, _, by simp; omega, HA.out, HM6.out⟩
    · have Hd := Lib.hid (HR.out.done (by omega))
      go_wp2_with fail
      go_ret2
      refine ⟨HM.out.bel, .inl ⟨_, ord, rfl, HR.out.topo, Hd.out, ?_⟩⟩
      have := own_base HM.out.oo (show w.heap.size ≤ w.heap.size + 1 by omega)
      rw [Hd.out] at this ⊢
      exact this
end Go.Proofs.Ytddkfdfgfkejoaa
