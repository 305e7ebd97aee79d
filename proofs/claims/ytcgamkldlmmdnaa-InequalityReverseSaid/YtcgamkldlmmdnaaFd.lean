import Derived.Test.YtcgamkldlmmdnaaNw
import Derived.Test.YtcgamkldlmmdnaaBunM
namespace Go.Proofs.Ytcgamkldlmmdnaa
open Go.RowKit

def hasB (l : List Int) (x : Int) : Bool := decide (x ∈ l)
def HsL (w : World) (l : List Int) (x : Int) (k : Nat) (v : Value) (wr : World) : Prop :=
  ∃ j : Nat, v = .int .i64 j ∧ j + k = l.length ∧ x ∉ l.take j ∧ wr = w

set_option maxRecDepth 100000 in
set_option maxHeartbeats 1600000 in
theorem has_any (A : Option Addr) (c : Nat) (l : List Int) (x : Int) (w : World) (B : Nat) (h : Rd w B 1 A l.length (l.map (Value.int .i64))) (hl : l.length ≤ 4611686018427387904) :
    Calls Try.prog 52 #[.slice A l.length c, .int .i64 x] w fun e w' => e = .returned (.bool (hasB l x)) ∧ w = w' := by
  have H := Lib.hid h
  clear h
  go_enter Try.func52, Try.ntmps52
  go_wp2_with fail
  go_loopg [5] l.length (fun k v wr => HsL w l x k v wr)
  case atStart => exact ⟨0, rfl, by omega, by simp, rfl⟩
  case round =>
    obtain ⟨j, rfl, hj, hno, rfl⟩ := hrel
    have Hj := Lib.hid hj
    have Hno := Lib.hid hno
    clear hj hno
    by_cases hlt : j < l.length
    · obtain ⟨b, off, rfl, hb, q0⟩ := rd1 H.out j hlt
      have HT := Lib.hid (List.take_succ_eq_append_getElem hlt)
      have Hm := Lib.hid (List.getElem_mem hlt)
      generalize l[j] = y at *
      cases e : (y == x)
      · go_wp2_with fail
        go_roundg (l.length - j - 1)
        case measure => have := Hj.out; omega
        case rel =>
          refine ⟨j + 1, by first | rfl | go_num, by omega, ?_, rfl⟩
          rw [HT.out, List.mem_append]
          rintro (hm | hm)
          · exact Hno.out hm
          · simp at hm e; exact e hm.symm
      · have HB := Lib.hid (show hasB l x = true by simp at e; subst e; simpa [hasB] using Hm.out)
        go_wp2_with fail
        go_ret
        exact ⟨by rw [HB.out]; rfl, rfl⟩
    · have HB := Lib.hid (show hasB l x = false by have := Hno.out; rw [List.take_of_length_le (by omega)] at this; simpa [hasB] using this)
      go_wp2_with fail
      go_ret
      exact ⟨by rw [HB.out]; rfl, rfl⟩

def MrgOut (base G n : Nat) (root : List Int) (a : Act) (w : World) (e : Ending) (w' : World) : Prop :=
  e = .returned (.bool (mergeB root a)) ∧ w'.ownsRow base 3 1 (.slice (some ⟨G, 0, none⟩) n n) n ((mergeR root a).map (Value.int .i64)) ∧ w.grownBy w' (some G)
def MgL (base G n : Nat) (root : List Int) (x y : Int) (w : World) (k : Nat) (v : Value) (wr : World) : Prop :=
  ∃ j : Nat, v = .int .i64 j ∧ j + k = n ∧ wr.ownsRow base 3 1 (.slice (some ⟨G, 0, none⟩) n n) n ((mrgT root x y j).map (Value.int .i64)) ∧ w.grownBy wr (some G)
theorem grownBy_trans {w w1 w2 : World} {r : Option Nat} (h1 : w.grownBy w1 r) (h2 : w1.grownBy w2 r) : w.grownBy w2 r :=
  ⟨h2.os.trans h1.os, h2.tape.trans h1.tape, h2.output.trans h1.output, Nat.le_trans h1.size h2.size, fun k hk hn => (h2.block k (by have := h1.size; omega) hn).trans (h1.block k hk hn)⟩
theorem grownBy_set {w : World} (G o : Nat) (u : Value) : w.grownBy (w.setCell ⟨G, o, none⟩ u) (some G) :=
  ⟨rfl, rfl, rfl, by simp [World.setCell], fun k _ hn => Below.heap_setCell _ _ _ _ (by intro e; exact hn (by rw [e]))⟩
theorem grownBy_below {w w1 : World} {r : Option Nat} (h : Below w.heap.size w w1) : w.grownBy w1 r := ⟨h.os, h.tape, h.output, h.size, fun k hk _ => h.block k hk⟩

set_option maxRecDepth 100000 in
set_option maxHeartbeats 3200000 in
theorem merge_any (base G n : Nat) (root : List Int) (a : Act) (w : World) (hO : w.ownsRow base 3 1 (.slice (some ⟨G, 0, none⟩) n n) n (root.map (Value.int .i64))) (hn : n ≤ 1000) (hf0 : 0 ≤ a.fr) (hf1 : a.fr < n) (ht0 : 0 ≤ a.tt) (ht1 : a.tt < n) :
    Calls Try.prog 55 #[.slice (some ⟨G, 0, none⟩) n n, .agg #[.int .i64 a.kd, .int .i64 a.fr, .int .i64 a.tt, .int .i64 a.mn, .int .i64 a.mx, .int .i64 a.wt]] w (MrgOut base G n root a w) := by
  have hlr := own1_len hO
  have HO := Lib.hid hO
  have Hlr := Lib.hid hlr
  have HX := Lib.hid (show mergeB root a = !(gi root a.fr == gi root a.tt) from rfl)
  have HY := Lib.hid (show mergeR root a = if gi root a.fr = gi root a.tt then root else mergeL root (gi root a.fr) (gi root a.tt) from rfl)
  clear hO
  obtain ⟨kd, fr, tt, mn, mx, wt⟩ := a
  simp only at hf0 hf1 ht0 ht1 HX HY ⊢
  obtain ⟨f, rfl⟩ := Int.eq_ofNat_of_zero_le hf0
  obtain ⟨t, rfl⟩ := Int.eq_ofNat_of_zero_le ht0
  have hfl : f < root.length := by omega
  have htl : t < root.length := by omega
  rw [gi_nat root f hfl, gi_nat root t htl] at HX HY
  clear hlr
  go_enter Try.func55, Try.ntmps55
  go_upto_region 1 with fail
  refine world_gen (fun w1 => Below w.heap.size w w1 ∧ Blk w1 w.heap.size 62 #[.int .i64 kd, .int .i64 (f : Int), .int .i64 (t : Int), .int .i64 mn, .int .i64 mx, .int .i64 wt]) ⟨(Below.refl _ _).alloc (Nat.le_refl _) _, Blk.new _ _ _⟩ ?_
  rintro w1 ⟨hb1, hx1⟩
  have HO1 := Lib.hid (own_grow HO.out hb1)
  have HG1 := Lib.hid (show w.grownBy w1 (some G) from grownBy_below hb1)
  have d1 := hx1.cell 1
  have d2 := hx1.cell 2
  simp at d1 d2
  have q1 := own1 HO1.out f hfl
  have q2 := own1 HO1.out t htl
  have hxl := hx1.lt
  clear hb1 hx1 HO
  generalize root[f] = rx at *
  generalize root[t] = ry at *
  go_quiet (fail)
  clear d1 d2 q1 q2
  by_cases e : rx = ry
  · have e' : (rx == ry) = true := by simpa using e
    rw [e'] at HX
    rw [if_pos e] at HY
    clear e
    go_wp2_with fail
    go_ret
    exact ⟨by rw [HX.out]; rfl, by rw [HY.out]; exact own_grow HO1.out (below_drewN (Below.refl _ _) _), grownBy_trans HG1.out (grownBy_below (below_drewN (Below.refl _ _) _))⟩
  · have e' : (rx == ry) = false := by simpa using e
    rw [e'] at HX
    rw [if_neg e] at HY
    clear e
    go_wp2_with fail
    go_loopg [7, 23] n (fun k _ v wr => MgL base G n root rx ry w k v wr)
    case atStart => exact ⟨0, rfl, by omega, by rw [mrgT_zero]; exact own_grow HO1.out (below_drewN (Below.refl _ _) _), grownBy_trans HG1.out (grownBy_below (below_drewN (Below.refl _ _) _))⟩
    case round =>
      obtain ⟨j, rfl, hj, hown, hg⟩ := hrel
      clear HO1 HG1
      have Hj := Lib.hid hj
      have HO := Lib.hid hown
      have HG := Lib.hid hg
      clear hj hown hg
      by_cases hlt : j < n
      · have hjr : j < root.length := by rw [← Hlr.out]; exact hlt
        have q0 := own1 HO.out j (by rw [mrgT_len]; exact hjr)
        rw [mrgT_get root rx ry j hjr] at q0
        have q1 := HO.out.frozenAt j
        by_cases e : root[j] = ry
        · have HS := Lib.hid (own1_set HO.out j rx)
          rw [mrgT_set root rx ry j hjr e] at HS
          rw [e] at q0
          clear e
          go_wp2_with fail
          go_roundg (n - j - 1)
          case measure => have := Hj.out; omega
          case rel => exact ⟨j + 1, by first | rfl | go_num, by omega, HS.out, grownBy_trans HG.out (grownBy_set _ _ _)⟩
        · have HS := Lib.hid HO.out
          rw [mrgT_skip root rx ry j hjr e] at HS
          have e' : (root[j] == ry) = false := by simpa using e
          clear e
          generalize root[j] = rj at *
          go_wp2_with fail
          go_roundg (n - j - 1)
          case measure => have := Hj.out; omega
          case rel => exact ⟨j + 1, by first | rfl | go_num, by omega, HS.out, HG.out⟩
      · have hle : root.length ≤ j := by rw [← Hlr.out]; omega
        rw [mrgT_all root rx ry j hle] at HO
        clear hle
        go_wp2_with fail
        go_ret
        exact ⟨by rw [HX.out]; rfl, by rw [HY.out]; exact HO.out, HG.out⟩
end Go.Proofs.Ytcgamkldlmmdnaa
