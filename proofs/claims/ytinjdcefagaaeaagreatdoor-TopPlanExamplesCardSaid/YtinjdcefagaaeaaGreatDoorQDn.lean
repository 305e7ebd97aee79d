import Derived.Test.YtinjdcefagaaeaaGreatDoorQAr
set_option linter.unusedVariables false
set_option linter.unusedSimpArgs false
namespace Go.Proofs.YtinjdcefagaaeaaGreatDoor
open Go.RowKit
/-! dynamics at the example's stock and cells -/
/-- the example's stock and a cell of its route, as values -/
abbrev stkV : Value := .agg #[.string ⟨#[83]⟩, .int .i64 5, .int .i64 20000, .int .i64 500, .int .i64 500]
abbrev celV : Value := .agg #[.int .i64 20000, .int .i64 0]
set_option maxRecDepth 100000 in
set_option maxHeartbeats 1600000 in
theorem dchk_ex (w : World) : Calls Tryz.prog 149 #[stkV] w fun e w' => e = .returned (.bool true) ∧ Below w.heap.size w w' := by
  go_enter Tryz.func149, Tryz.ntmps149
  go_wp2_with fail
  go_ret
  exact ⟨rfl, (by repeat (first | exact Below.refl _ _ | (with_reducible refine Below.drew ?_) | (with_reducible refine below_drewN ?_ _) | (with_reducible refine Below.alloc ?_ (by first | omega | (simp; done) | (simp; omega)) _) | (with_reducible refine Below.setCell ?_ (by first | omega | (simp; done) | (simp; omega)) _) | (refine Below.trans ?_ (Below.mono (by with_reducible assumption) (by first | omega | (simp; done) | (simp; omega))))))⟩
set_option maxRecDepth 100000 in
set_option maxHeartbeats 1600000 in
theorem gain_ex (w : World) : Calls Tryz.prog 225 #[celV, stkV] w fun e w' => e = .returned (.int .i64 10000000) ∧ Below w.heap.size w w' := by
  go_enter Tryz.func225, Tryz.ntmps225
  go_wp2_with fail
  go_ret
  exact ⟨rfl, (by repeat (first | exact Below.refl _ _ | (with_reducible refine Below.drew ?_) | (with_reducible refine below_drewN ?_ _) | (with_reducible refine Below.alloc ?_ (by first | omega | (simp; done) | (simp; omega)) _) | (with_reducible refine Below.setCell ?_ (by first | omega | (simp; done) | (simp; omega)) _) | (refine Below.trans ?_ (Below.mono (by with_reducible assumption) (by first | omega | (simp; done) | (simp; omega))))))⟩
set_option maxRecDepth 100000 in
set_option maxHeartbeats 1600000 in
theorem loss_ex (w : World) : Calls Tryz.prog 226 #[celV, stkV] w fun e w' => e = .returned (.int .i64 10000000) ∧ Below w.heap.size w w' := by
  go_enter Tryz.func226, Tryz.ntmps226
  go_wp2_with fail
  go_ret
  exact ⟨rfl, (by repeat (first | exact Below.refl _ _ | (with_reducible refine Below.drew ?_) | (with_reducible refine below_drewN ?_ _) | (with_reducible refine Below.alloc ?_ (by first | omega | (simp; done) | (simp; omega)) _) | (with_reducible refine Below.setCell ?_ (by first | omega | (simp; done) | (simp; omega)) _) | (refine Below.trans ?_ (Below.mono (by with_reducible assumption) (by first | omega | (simp; done) | (simp; omega))))))⟩
/-- the cells of the example's route -/
def celL : List Value := [.int .i64 20000, .int .i64 0]
def CelR (w : World) (A : Option Addr) (n : Nat) : Prop := Rd w w.heap.size 2 A n ((List.replicate n ()).flatMap fun _ => celL)
theorem CelR.go {w w' : World} {A : Option Addr} {n : Nat} (h : CelR w A n) (hb : Below w.heap.size w w') : CelR w' A n := (Rd.grow h hb).more hb.size
theorem CelR.at_ {w : World} {A : Option Addr} {n : Nat} (h : CelR w A n) (j : Nat) (hj : j < n) : ∃ b off, A = some ⟨b, off, none⟩ ∧ b < w.heap.size ∧ w.cell? ⟨b, off + j * 2, none⟩ = some (.int .i64 20000) ∧ w.cell? ⟨b, off + j * 2 + 1, none⟩ = some (.int .i64 0) := by
  obtain ⟨b, off, rfl, hb, hc⟩ := h.2 (by omega)
  have hl : j < (List.replicate n ()).length := by simpa using hj
  have h2 : ∀ i u, i < 2 → celL[i]? = some u → w.cell? ⟨b, off + (j * 2 + i), none⟩ = some u := fun i u hi hu => hc _ u (by rw [flat_get (fun _ : Unit => celL) 2 (fun _ => rfl) _ j hl i hi]; exact hu)
  exact ⟨b, off, rfl, hb, h2 0 _ (by omega) rfl, h2 1 _ (by omega) rfl⟩
def LimL (w : World) (m k : Nat) (v7 v : Value) (wr : World) : Prop := ∃ j : Nat, v = .int .i64 j ∧ j + k = m ∧ v7 = .int .i64 20000 ∧ Below w.heap.size w wr
set_option maxRecDepth 100000 in
set_option maxHeartbeats 3200000 in
theorem limit_ex (A : Option Addr) (n c : Nat) (k : Nat) (w : World) (h : CelR w A n) (hk : k < n) (hn : n ≤ 1000) (hc : n ≤ c) :
    Calls Tryz.prog 224 #[.slice A n c, .int .i64 k, stkV] w fun e w' => e = .returned (.int .i64 20000) ∧ Below w.heap.size w w' := by
  have H := Lib.hid h
  obtain ⟨b, off, rfl, hb, _, _⟩ := h.at_ 0 (by omega)
  clear h
  by_cases hk5 : k ≤ 5
  · have hk5i : (k : Int) ≤ 5 := by omega
    go_enter Tryz.func224, Tryz.ntmps224
    go_wp2_with fail
    go_loopg [7, 9, 22] (k + 1) (fun q v7 _ v wr => LimL w (k + 1) q v7 v wr)
    case atStart => exact ⟨0, rfl, by omega, rfl, (by repeat (first | exact Below.refl _ _ | (with_reducible refine Below.drew ?_) | (with_reducible refine below_drewN ?_ _) | (with_reducible refine Below.alloc ?_ (by first | omega | (simp; done) | (simp; omega)) _) | (with_reducible refine Below.setCell ?_ (by first | omega | (simp; done) | (simp; omega)) _) | (refine Below.trans ?_ (Below.mono (by with_reducible assumption) (by first | omega | (simp; done) | (simp; omega))))))⟩
    case round =>
      obtain ⟨j, rfl, hj, rfl, hb2⟩ := hrel
      have HB := Lib.hid hb2
      have Hj := Lib.hid hj
      clear hb2 hj
      by_cases hlt : j < (k + 1)
      · obtain ⟨b', off', e1, hbl, d0, d1⟩ := (H.out.go HB.out).at_ ((0) + j) (by first | omega | (have := HL.out; omega))
        injection e1 with e1
        injection e1 with e1 e2
        subst e1 e2
        rw [show off + ((0) + j) * 2 = (off) + j * 2 by omega] at d0 d1
        go_wp2_with fail
        go_roundg ((k + 1) - j - 1)
        case measure => have := Hj.out; omega
        case rel => exact ⟨j + 1, by first | rfl | go_num, by have := Hj.out; omega, rfl, HB.out.trans (Below.mono (by repeat (first | exact Below.refl _ _ | (with_reducible refine Below.drew ?_) | (with_reducible refine below_drewN ?_ _) | (with_reducible refine Below.alloc ?_ (by first | omega | (simp; done) | (simp; omega)) _) | (with_reducible refine Below.setCell ?_ (by first | omega | (simp; done) | (simp; omega)) _) | (refine Below.trans ?_ (Below.mono (by with_reducible assumption) (by first | omega | (simp; done) | (simp; omega)))))) HB.out.size)⟩
      · obtain rfl : j = (k + 1) := by have := Hj.out; omega
        go_wp2_with fail
        go_ret
        exact ⟨rfl, HB.out⟩
  · obtain ⟨l, hl⟩ : ∃ l, k = l + 5 := ⟨k - 5, by omega⟩
    have HL := Lib.hid hl
    have hki : (k : Int) - 5 = (l : Int) := by omega
    have hl6 : k + 1 - l = 6 := by omega
    have hl0 : 0 < (l : Int) := by omega
    have hlk : l ≤ k + 1 := by omega
    have hlc : l < c := by omega
    clear hl
    go_enter Tryz.func224, Tryz.ntmps224
    go_wp2_with fail
    go_loopg [7, 9, 22] (6) (fun q v7 _ v wr => LimL w (6) q v7 v wr)
    case atStart => exact ⟨0, rfl, by omega, rfl, (by repeat (first | exact Below.refl _ _ | (with_reducible refine Below.drew ?_) | (with_reducible refine below_drewN ?_ _) | (with_reducible refine Below.alloc ?_ (by first | omega | (simp; done) | (simp; omega)) _) | (with_reducible refine Below.setCell ?_ (by first | omega | (simp; done) | (simp; omega)) _) | (refine Below.trans ?_ (Below.mono (by with_reducible assumption) (by first | omega | (simp; done) | (simp; omega))))))⟩
    case round =>
      obtain ⟨j, rfl, hj, rfl, hb2⟩ := hrel
      have HB := Lib.hid hb2
      have Hj := Lib.hid hj
      clear hb2 hj
      by_cases hlt : j < (6)
      · obtain ⟨b', off', e1, hbl, d0, d1⟩ := (H.out.go HB.out).at_ ((l) + j) (by first | omega | (have := HL.out; omega))
        injection e1 with e1
        injection e1 with e1 e2
        subst e1 e2
        rw [show off + ((l) + j) * 2 = (off + l * 2) + j * 2 by omega] at d0 d1
        go_wp2_with fail
        go_roundg ((6) - j - 1)
        case measure => have := Hj.out; omega
        case rel => exact ⟨j + 1, by first | rfl | go_num, by have := Hj.out; omega, rfl, HB.out.trans (Below.mono (by repeat (first | exact Below.refl _ _ | (with_reducible refine Below.drew ?_) | (with_reducible refine below_drewN ?_ _) | (with_reducible refine Below.alloc ?_ (by first | omega | (simp; done) | (simp; omega)) _) | (with_reducible refine Below.setCell ?_ (by first | omega | (simp; done) | (simp; omega)) _) | (refine Below.trans ?_ (Below.mono (by with_reducible assumption) (by first | omega | (simp; done) | (simp; omega)))))) HB.out.size)⟩
      · obtain rfl : j = (6) := by have := Hj.out; omega
        go_wp2_with fail
        go_ret
        exact ⟨rfl, HB.out⟩
end Go.Proofs.YtinjdcefagaaeaaGreatDoor
namespace Go.Proofs.YtinjdcefagaaeaaGreatDoor
open Go.RowKit
def CrL (w : World) (n k : Nat) (v : Value) (wr : World) : Prop := ∃ j : Nat, v = .int .i64 j ∧ j + k = n ∧ Below w.heap.size w wr
set_option maxRecDepth 100000 in
set_option maxHeartbeats 3200000 in
theorem crun_ex (A : Option Addr) (n c : Nat) (st : Nat) (w : World) (h : CelR w A n) (hst : st + 2 ≤ n) (hn : n ≤ 1000) :
    Calls Tryz.prog 202 #[.slice A n c, .int .i64 st, stkV] w fun e w' => e = .returned (.int .i64 0) ∧ Below w.heap.size w w' := by
  have H := Lib.hid h
  obtain ⟨b, off, rfl, hb, _, _⟩ := h.at_ 0 (by omega)
  clear h
  have hs1 : (st : Int) ≤ (n : Int) - 2 := by omega
  go_enter Tryz.func202, Tryz.ntmps202
  go_wp2_with fail
  refine (dchk_ex _).mono ?_
  rintro e w2 ⟨rfl, hb2⟩
  have HB2 := Lib.hid (show Below w.heap.size w w2 from Below.trans (by repeat (first | exact Below.refl _ _ | (with_reducible refine Below.drew ?_) | (with_reducible refine below_drewN ?_ _) | (with_reducible refine Below.alloc ?_ (by first | omega | (simp; done) | (simp; omega)) _) | (with_reducible refine Below.setCell ?_ (by first | omega | (simp; done) | (simp; omega)) _) | (refine Below.trans ?_ (Below.mono (by with_reducible assumption) (by first | omega | (simp; done) | (simp; omega)))))) (hb2.mono (by simp)))
  clear hb2
  go_wp2_with fail
  go_loopg [8, 19] n (fun q _ v wr => CrL w n q v wr)
  case atStart => exact ⟨0, rfl, by omega, HB2.out⟩
  case round =>
    obtain ⟨j, rfl, hj, hb3⟩ := hrel
    have HB := Lib.hid hb3
    have Hj := Lib.hid hj
    clear hb3 hj HB2
    by_cases hlt : j < n
    · obtain ⟨b', off', e1, hbl, d0, d1⟩ := (H.out.go HB.out).at_ j hlt
      injection e1 with e1
      injection e1 with e1 e2
      subst e1 e2
      go_wp2_with fail
      go_roundg (n - j - 1)
      case measure => have := Hj.out; omega
      case rel => exact ⟨j + 1, by first | rfl | go_num, by have := Hj.out; omega, HB.out.trans (Below.mono (by repeat (first | exact Below.refl _ _ | (with_reducible refine Below.drew ?_) | (with_reducible refine below_drewN ?_ _) | (with_reducible refine Below.alloc ?_ (by first | omega | (simp; done) | (simp; omega)) _) | (with_reducible refine Below.setCell ?_ (by first | omega | (simp; done) | (simp; omega)) _) | (refine Below.trans ?_ (Below.mono (by with_reducible assumption) (by first | omega | (simp; done) | (simp; omega)))))) HB.out.size)⟩
    · obtain rfl : j = n := by have := Hj.out; omega
      go_wp2_with fail
      go_ret
      exact ⟨rfl, HB.out⟩
end Go.Proofs.YtinjdcefagaaeaaGreatDoor
namespace Go.Proofs.YtinjdcefagaaeaaGreatDoor
open Go.RowKit
/-! dynamics.squares at the example -/
def fwdL (m i : Nat) : List Int := (List.range m).map fun q => if q < i then (q : Int) * 10000000 else 0
theorem fwd_len (m i : Nat) : (fwdL m i).length = m := by simp [fwdL]
theorem fwd_get {m i q : Nat} (h : q < m) : (fwdL m i)[q]? = some (if q < i then (q : Int) * 10000000 else 0) := by simp [fwdL, h]
theorem fwd_set {m i : Nat} : (fwdL m i).set i ((i : Int) * 10000000) = fwdL m (i + 1) := by
  apply List.ext_getElem?
  intro q
  rw [List.getElem?_set]
  by_cases hq : q < m
  · rw [fwd_get hq, fwd_get hq, fwd_len]
    by_cases e : i = q
    · subst e
      rw [if_pos rfl, if_pos hq, if_pos (by omega)]
    · rw [if_neg e]
      by_cases h2 : q < i
      · rw [if_pos h2, if_pos (by omega)]
      · rw [if_neg h2, if_neg (by omega)]
  · have h1 : (fwdL m i)[q]? = none := List.getElem?_eq_none (by rw [fwd_len]; omega)
    have h2 : (fwdL m (i + 1))[q]? = none := List.getElem?_eq_none (by rw [fwd_len]; omega)
    rw [h1, h2, fwd_len]
    split
    · rw [if_neg (by omega)]
    · rfl
theorem fwd_zero (m : Nat) : fwdL m 1 = List.replicate m 0 := by
  apply List.ext_getElem?
  intro q
  by_cases hq : q < m
  · rw [fwd_get hq, List.getElem?_replicate, if_pos hq]
    split
    · rename_i h; rw [show q = 0 by omega]; rfl
    · rfl
  · rw [List.getElem?_eq_none (by rw [fwd_len]; omega), List.getElem?_eq_none (by simpa using hq)]
/-- the backward pass has come down to p -/
def bwdL (m p : Nat) : List Int := (List.range m).map fun q => if q + 1 = m then 0 else if q < p then (q : Int) * 10000000 else (min q (m - 1 - q) : Nat) * 10000000
theorem bwd_len (m i : Nat) : (bwdL m i).length = m := by simp [bwdL]
theorem bwd_get {m i q : Nat} (h : q < m) : (bwdL m i)[q]? = some (if q + 1 = m then 0 else if q < i then (q : Int) * 10000000 else (min q (m - 1 - q) : Nat) * 10000000) := by simp [bwdL, h]
theorem bwd_top {m : Nat} (h : 1 ≤ m) : fwdL m (m - 1) = bwdL m (m - 1) := by
  apply List.ext_getElem?
  intro q
  by_cases hq : q < m
  · rw [fwd_get hq, bwd_get hq]
    by_cases e : q + 1 = m
    · rw [if_neg (by omega), if_pos e]
    · rw [if_pos (by omega), if_neg e, if_pos (by omega)]
  · rw [List.getElem?_eq_none (by rw [fwd_len]; omega), List.getElem?_eq_none (by rw [bwd_len]; omega)]
theorem bwd_set {m p : Nat} (hp : p + 2 ≤ m) : (bwdL m (p + 1)).set p ((min p (m - 1 - p) : Nat) * 10000000) = bwdL m p := by
  apply List.ext_getElem?
  intro q
  rw [List.getElem?_set]
  by_cases hq : q < m
  · rw [bwd_get hq, bwd_get hq, bwd_len]
    by_cases e : p = q
    · subst e
      rw [if_pos rfl, if_pos hq, if_neg (by omega), if_neg (by omega)]
    · rw [if_neg e]
      by_cases h1 : q + 1 = m
      · rw [if_pos h1, if_pos h1]
      · rw [if_neg h1, if_neg h1]
        by_cases h2 : q < p
        · rw [if_pos h2, if_pos (by omega)]
        · rw [if_neg h2, if_neg (by omega)]
  · rw [List.getElem?_eq_none (by rw [bwd_len]; omega), List.getElem?_eq_none (by rw [bwd_len]; omega), if_neg (by omega)]
end Go.Proofs.YtinjdcefagaaeaaGreatDoor
namespace Go.Proofs.YtinjdcefagaaeaaGreatDoor
open Go.RowKit
abbrev stkC : Array Value := #[.string ⟨#[83]⟩, .int .i64 5, .int .i64 20000, .int .i64 500, .int .i64 500]
theorem infoI : (Tryz.prog.info? 3).map (fun i => (i.zero, i.size, i.bytes)) = some (some (.int .i64 0), 1, 8) := by kernel_rfl
structure SqS (w wr : World) (A : Option Addr) (n g m : Nat) (L : List Int) : Prop where
  b : Below w.heap.size w wr
  x : Blk wr w.heap.size 46 stkC
  o : wr.ownsRow (w.heap.size + 1) 3 1 (.slice (some ⟨g, 0, none⟩) m m) m (L.map (Value.int .i64))
  c : CelR wr A n
theorem SqS.go {w wr w' : World} {A : Option Addr} {n g m : Nat} {L : List Int} (h : SqS w wr A n g m L) (hb : Below wr.heap.size wr w') : SqS w w' A n g m L :=
  ⟨h.b.trans (hb.mono h.b.size), h.x.bel hb, own_grow h.o hb, h.c.go hb⟩
theorem SqS.put {w wr : World} {A : Option Addr} {n m : Nat} {L L' : List Int} (H : CelR w A n) (h : SqS w wr A n (w.heap.size + 1) m L) (i : Nat) (u : Int) (hL : L.set i u = L') : SqS w (wr.setCell ⟨w.heap.size + 1, i, none⟩ (.int .i64 u)) A n (w.heap.size + 1) m L' := by
  have hs := (h.o.stored i (.int .i64 u)).1
  rw [← List.map_set, hL] at hs
  have hb : Below w.heap.size w (wr.setCell ⟨w.heap.size + 1, i, none⟩ (.int .i64 u)) := h.b.setCell (Nat.le_succ _) _
  exact ⟨hb, h.x.far (by omega), hs, H.go hb⟩
def Sq1 (w : World) (A : Option Addr) (n st g m k : Nat) (v9 v10 : Value) (wr : World) : Prop :=
  ∃ i b : Nat, v10 = .int .i64 (b : Int) ∧ b = st + i ∧ 1 ≤ i ∧ b + k = n ∧ v9 = .int .i64 20000 ∧ SqS w wr A n g m (fwdL m i)
def Sq2 (w : World) (A : Option Addr) (n st g m k : Nat) (v13 : Value) (wr : World) : Prop :=
  ∃ b : Nat, v13 = .int .i64 (b : Int) ∧ b = st + k ∧ k + 2 ≤ m ∧ SqS w wr A n g m (bwdL m (k + 1))
theorem min_val {p m : Nat} (hp : 1 ≤ p) (hm : p + 2 ≤ m) : min ((p : Int) * 10000000) ((if p + 1 + 1 = m then 0 else ((min (p + 1) (m - 1 - (p + 1)) : Nat) : Int) * 10000000) + 10000000) = ((min p (m - 1 - p) : Nat) : Int) * 10000000 := by
  by_cases e : p + 1 + 1 = m
  · rw [if_pos e, show min p (m - 1 - p) = 1 by omega]
    exact Int.min_eq_right (by omega)
  · rw [if_neg e]
    rcases Nat.le_total p (m - 1 - p) with h | h
    · rw [Nat.min_eq_left h]
      refine Int.min_eq_left ?_
      have : p ≤ min (p + 1) (m - 1 - (p + 1)) + 1 := by omega
      omega
    · rw [Nat.min_eq_right h, Nat.min_eq_right (show m - 1 - (p + 1) ≤ p + 1 by omega)]
      have h2 : ((m - 1 - p : Nat) : Int) = ((m - 1 - (p + 1) : Nat) : Int) + 1 := by omega
      rw [h2]
      refine (Int.min_eq_right ?_).trans ?_
      · omega
      · omega
set_option maxRecDepth 100000 in
set_option maxHeartbeats 6400000 in
theorem squares_ex (A : Option Addr) (n c st : Nat) (w : World) (h : CelR w A n) (hst : st + 2 ≤ n) (hn : n ≤ 1000) (h40 : n ≤ st + 39) (hc : n ≤ c) (m : Nat) (hm : m = n - st + 1) :
    Calls Tryz.prog 203 #[.slice A n c, .int .i64 st, stkV] w fun e w' => ∃ g, e = .returned (.slice (some ⟨g, 0, none⟩) m m) ∧ w'.ownsRow w.heap.size 3 1 (.slice (some ⟨g, 0, none⟩) m m) m ((bwdL m 1).map (Value.int .i64)) ∧ Below w.heap.size w w' := by
  have H := Lib.hid h
  obtain ⟨ab, ao, rfl, _, _, _⟩ := h.at_ 0 (by omega)
  have HM := Lib.hid hm
  have hmi : (n : Int) - (st : Int) + 1 = (m : Int) := by omega
  have hm1 : m ≤ 40 := by omega
  clear h hm
  obtain ⟨i0, b1, b2, b3, b4⟩ := info_parts infoI
  have HI := Lib.hid (And.intro b1 (And.intro b2 (And.intro b3 b4)))
  clear b1 b2 b3 b4
  go_enter Tryz.func203, Tryz.ntmps203
  go_upto_region 1 with fail
  refine world_gen (fun w0 => Below w.heap.size w w0 ∧ Blk w0 w.heap.size 46 stkC ∧ w0.heap.size = w.heap.size + 1) ⟨(by repeat (first | exact Below.refl _ _ | (with_reducible refine Below.drew ?_) | (with_reducible refine below_drewN ?_ _) | (with_reducible refine Below.alloc ?_ (by first | omega | (simp; done) | (simp; omega)) _) | (with_reducible refine Below.setCell ?_ (by first | omega | (simp; done) | (simp; omega)) _) | (refine Below.trans ?_ (Below.mono (by with_reducible assumption) (by first | omega | (simp; done) | (simp; omega)))))), Blk.new _ _ _, by simp⟩ ?_
  rintro w0 ⟨hb0, hx0, hs0⟩
  have HB0 := Lib.hid hb0
  have HX0 := Lib.hid hx0
  have HS0 := Lib.hid hs0
  clear hb0 hx0
  go_upto_region 3 with (at_make; refine wpList_make_full _ rfl _ _ 47 rfl (w.heap.size + 1) 3 i0 _ 1 Tryz.underlying47 HI.out.1 HI.out.2.1 HI.out.2.2.1 .i64 .i64 _ _ m rfl rfl rfl rfl ?m1 ?m2 ?m3 ?_; rotate_right; intro w1 ho1 hg1)
  case m1 => rw [HI.out.2.2.2]; omega
  case m2 => simp only [maxLen]; omega
  case m3 => omega
  have hb1 := bel_grow hg1
  rw [hs0] at ho1
  have HS1 := Lib.hid (show SqS w w1 (some ⟨ab, ao, none⟩) n (w.heap.size + 1) m (fwdL m 1) from ⟨HB0.out.trans (hb1.mono HB0.out.size), HX0.out.bel hb1, by
    have h := ho1
    rw [Nat.mul_one, show (Value.int .i64 0).cells = #[.int .i64 0] from rfl, toList_madeCells_one] at h
    rw [fwd_zero, List.map_replicate]
    exact h, H.out.go (HB0.out.trans (hb1.mono HB0.out.size))⟩)
  clear ho1 hg1 hb1 HX0 HB0 HS0 hs0
  have x0 := HS1.out.x.cell 0
  have x1 := HS1.out.x.cell 1
  have x2 := HS1.out.x.cell 2
  have x3 := HS1.out.x.cell 3
  have x4 := HS1.out.x.cell 4
  simp [stkC] at x0 x1 x2 x3 x4
  go_wp2_with fail
  refine (limit_ex (some ⟨ab, ao, none⟩) n c st w1 HS1.out.c (by omega) hn hc).mono ?_
  rintro e w2 ⟨rfl, hb2⟩
  have HS2 := Lib.hid (HS1.out.go hb2)
  clear hb2 HS1 x0 x1 x2 x3 x4
  go_wp2_with fail
  go_loopg [9, 10, 11, 12] (n - st - 1) (fun q v9 v10 _ _ wr => Sq1 w (some ⟨ab, ao, none⟩) n st (w.heap.size + 1) m q v9 v10 wr)
  case atStart => exact ⟨1, st + 1, by first | rfl | go_num | (congr 1), rfl, by omega, by omega, rfl, HS2.out⟩
  case round =>
    obtain ⟨i, b, rfl, hbi, hi1, hbk, rfl, hs⟩ := hrel
    have HS := Lib.hid hs
    have Hbi := Lib.hid hbi
    have Hbk := Lib.hid hbk
    clear hs hbi hbk HS2
    have x0 := HS.out.x.cell 0
    have x1 := HS.out.x.cell 1
    have x2 := HS.out.x.cell 2
    have x3 := HS.out.x.cell 3
    have x4 := HS.out.x.cell 4
    simp [stkC] at x0 x1 x2 x3 x4
    by_cases hlt : b < n
    · go_wp2_with fail
      refine (limit_ex (some ⟨ab, ao, none⟩) n c b wr HS.out.c hlt hn hc).mono ?_
      rintro e w3 ⟨rfl, hb3⟩
      have HS3 := Lib.hid (HS.out.go hb3)
      clear hb3 HS x0 x1 x2 x3 x4
      obtain ⟨q, hq⟩ : ∃ q, i = q + 1 := ⟨i - 1, by omega⟩
      obtain ⟨b', hb'⟩ : ∃ b', b = b' + 1 := ⟨b - 1, by have := Hbi.out; omega⟩
      have e1 : (b : Int) - (st : Int) = (i : Int) := by have := Hbi.out; omega
      have e2 : (b : Int) - 1 = (b' : Int) := by omega
      have e3 : (b' : Int) - (st : Int) = (q : Int) := by have := Hbi.out; omega
      have him : i < m := by have := Hbi.out; have := HM.out; omega
      have hqm : q < m := by omega
      have hmin : min (400000000 : Int) ((q : Int) * 10000000 + 10000000) = (i : Int) * 10000000 := by
        have h1 : (i : Int) * 10000000 = (q : Int) * 10000000 + 10000000 := by omega
        rw [h1]
        exact Int.min_eq_right (by omega)
      have hbn : b' < n := by omega
      have dq : w3.cell? ⟨w.heap.size + 1, q, none⟩ = some (.int .i64 ((q : Int) * 10000000)) := by
        rw [HS3.out.o.cellAt q (by omega), List.getElem?_map, fwd_get hqm, if_pos (by omega)]
        rfl
      obtain ⟨ab', ao', ea, hab, d0, d1⟩ := HS3.out.c.at_ b' hbn
      injection ea with ea
      injection ea with ea1 ea2
      subst ea1 ea2
      have x0 := HS3.out.x.cell 0
      have x1 := HS3.out.x.cell 1
      have x2 := HS3.out.x.cell 2
      have x3 := HS3.out.x.cell 3
      have x4 := HS3.out.x.cell 4
      simp [stkC] at x0 x1 x2 x3 x4
      have hxl := HS3.out.x.lt
      have hgl := (own_block HS3.out.o _ rfl).2
      have HQ := Lib.hid hq
      have HB' := Lib.hid hb'
      clear hq hb'
      go_upto_region 9 with fail
      refine wp_region_overT 23 (by kernel_rfl) (by kernel_rfl) ?_
      simp only [List.take_succ_cons, List.take_zero, List.drop_succ_cons, List.drop_zero]
      repeat (go_big_quiet_step ((go_at_call 225; exact callsOver (gain_ex _))))
      refine wpQuiet_nil ?_
      intro w4 hb4
      have HS4 := Lib.hid (HS3.out.go hb4)
      have HS5 := Lib.hid (HS4.out.put H.out i ((q : Int) * 10000000 + 10000000) (L' := fwdL m (i + 1)) (by rw [show (q : Int) * 10000000 + 10000000 = (i : Int) * 10000000 by have := HQ.out; omega]; exact fwd_set))
      have f4 := HS4.out.o.frozenAt i
      have c4 := HS4.out.o.cellAt i (by omega)
      rw [List.getElem?_map, fwd_get him] at c4
      have c4' : w4.cell? ⟨w.heap.size + 1, i, none⟩ = some (.int .i64 (if i < i then (i : Int) * 10000000 else 0)) := c4
      have hgl4 := (own_block HS4.out.o _ rfl).2
      clear c4 hb4 HS3 HS4 d0 d1 dq x0 x1 x2 x3 x4 hxl hgl hab
      go_upto_region 10 with fail
      clear f4 c4' hgl4 hmin e1 e2 e3 HQ HB' him hqm hbn
      go_wp2_with fail
      go_roundg (n - b - 1)
      case measure => have := Hbk.out; omega
      case rel =>
        exact ⟨i + 1, b + 1, by first | rfl | go_num, by have := Hbi.out; omega, by omega, by have := Hbk.out; omega, rfl, HS5.out⟩
    · have hbn : b = n := by have := Hbk.out; omega
      have him : i = m - 1 := by have := Hbi.out; have := HM.out; omega
      subst hbn
      have HSB := Lib.hid (show SqS w wr (some ⟨ab, ao, none⟩) b (w.heap.size + 1) m (bwdL m (m - 1)) by rw [← bwd_top (by omega), ← him]; exact HS.out)
      clear HS x0 x1 x2 x3 x4
      have hn1 : (b : Int) - 1 = ((b - 1 : Nat) : Int) := by omega
      go_wp2_with fail
      go_loopg [13] (m - 2) (fun q v13 wr => Sq2 w (some ⟨ab, ao, none⟩) b st (w.heap.size + 1) m q v13 wr)
      case atStart => exact ⟨b - 1, rfl, by have := HM.out; omega, by have := HM.out; omega, by rw [show m - 2 + 1 = m - 1 by have := HM.out; omega]; exact HSB.out⟩
      case round =>
        obtain ⟨d, rfl, hd, hk2, hs⟩ := hrel
        clear HSB hn1
        have HS := Lib.hid hs
        have Hd := Lib.hid hd
        clear hs hd
        cases gk with
        | zero =>
          have hds : d = st := by have := Hd.out; omega
          subst hds
          go_wp2_with fail
          go_ret
          exact ⟨_, rfl, HS.out.o |> fun h => own_base h (Nat.le_succ _), HS.out.b⟩
        | succ p =>
          obtain ⟨P, hP⟩ : ∃ P, p + 1 = P := ⟨_, rfl⟩
          rw [hP] at HS Hd hk2
          have hP1 : 1 ≤ P := by omega
          have hgt : st < d := by have := Hd.out; omega
          have hgti : (st : Int) < (d : Int) := by omega
          have e1 : (d : Int) - (st : Int) = (P : Int) := by have := Hd.out; omega
          obtain ⟨D, hD⟩ : ∃ D, D = d + 1 := ⟨_, rfl⟩
          obtain ⟨P2, hP2⟩ : ∃ P2, P2 = P + 1 := ⟨_, rfl⟩
          have e2 : (d : Int) + 1 = (D : Int) := by omega
          have e3 : (D : Int) - (st : Int) = (P2 : Int) := by have := Hd.out; omega
          have hdn : d < b := by have := Hd.out; have := HM.out; omega
          have hPm : P < m := by omega
          have hP2m : P2 < m := by omega
          have dq : wr.cell? ⟨w.heap.size + 1, P, none⟩ = some (.int .i64 ((P : Int) * 10000000)) := by
            rw [HS.out.o.cellAt P (by omega), List.getElem?_map, bwd_get hPm, if_neg (by omega), if_pos (by omega)]
            rfl
          obtain ⟨u, hu⟩ : ∃ u : Int, (if P + 1 + 1 = m then 0 else ((min (P + 1) (m - 1 - (P + 1)) : Nat) : Int) * 10000000) = u := ⟨_, rfl⟩
          have dq2 : wr.cell? ⟨w.heap.size + 1, P2, none⟩ = some (.int .i64 u) := by
            rw [HS.out.o.cellAt P2 (by omega), List.getElem?_map, hP2, bwd_get (show P + 1 < m by omega), ← hu]
            by_cases e : P + 1 + 1 = m
            · rw [if_pos e, if_pos e]; rfl
            · rw [if_neg e, if_neg e, if_neg (by omega)]; rfl
          have hub : 0 ≤ u ∧ u ≤ 400000000 := by
            rw [← hu]
            split
            · omega
            · have : min (P + 1) (m - 1 - (P + 1)) ≤ 40 := by omega
              omega
          have hmin : min ((P : Int) * 10000000) (u + 10000000) = ((min P (m - 1 - P) : Nat) : Int) * 10000000 := by rw [← hu]; exact min_val hP1 hk2
          have HMIN := Lib.hid hmin
          clear hmin hu
          obtain ⟨ab', ao', ea, hab, d0, d1⟩ := HS.out.c.at_ d hdn
          injection ea with ea
          injection ea with ea1 ea2
          subst ea1 ea2
          have x0 := HS.out.x.cell 0
          have x1 := HS.out.x.cell 1
          have x2 := HS.out.x.cell 2
          have x3 := HS.out.x.cell 3
          have x4 := HS.out.x.cell 4
          simp [stkC] at x0 x1 x2 x3 x4
          have hxl := HS.out.x.lt
          have hgl := (own_block HS.out.o _ rfl).2
          have HD := Lib.hid hD
          have HP2 := Lib.hid hP2
          have HPP := Lib.hid hP
          clear hD hP2 hP
          by_cases hle : (P : Int) * 10000000 ≤ u + 10000000
          · have HV := Lib.hid (show (P : Int) * 10000000 = min ((P : Int) * 10000000) (u + 10000000) from (Int.min_eq_left hle).symm)
            go_upto_region 14 with fail
            refine wp_region_overT 25 (by kernel_rfl) (by kernel_rfl) ?_
            simp only [List.take_succ_cons, List.take_zero, List.drop_succ_cons, List.drop_zero]
            repeat (go_big_quiet_step ((go_at_call 226; exact callsOver (loss_ex _))))
            refine wpQuiet_nil ?_
            intro w4 hb4
            have HS4 := Lib.hid (HS.out.go hb4)
            have HS5 := Lib.hid (HS4.out.put H.out P ((P : Int) * 10000000) (L' := bwdL m P) (by rw [HV.out, HMIN.out]; exact bwd_set hk2))
            have f4 := HS4.out.o.frozenAt P
            have c4 := (hb4.cell (p := ⟨w.heap.size + 1, P, none⟩) hgl).trans dq
            have hgl4 := (own_block HS4.out.o _ rfl).2
            clear hb4 HS HS4 d0 d1 dq dq2 x0 x1 x2 x3 x4 hxl hgl hab
            go_upto_region 13 with fail
            have hd1 : (d : Int) - 1 = ((d - 1 : Nat) : Int) := by omega
            clear f4 c4 hgl4 e1 e2 e3 hub HMIN
            go_wp2_with fail
            go_roundg p
            case measure => omega
            case rel => exact ⟨d - 1, by first | rfl | go_num, by have := Hd.out; have := HPP.out; omega, by have := HPP.out; omega, by rw [HPP.out]; exact HS5.out⟩
          · have hle' : u + 10000000 < (P : Int) * 10000000 := by omega
            have HV := Lib.hid (show u + 10000000 = min ((P : Int) * 10000000) (u + 10000000) from (Int.min_eq_right (by omega)).symm)
            go_upto_region 14 with fail
            refine wp_region_overT 25 (by kernel_rfl) (by kernel_rfl) ?_
            simp only [List.take_succ_cons, List.take_zero, List.drop_succ_cons, List.drop_zero]
            repeat (go_big_quiet_step ((go_at_call 226; exact callsOver (loss_ex _))))
            refine wpQuiet_nil ?_
            intro w4 hb4
            have HS4 := Lib.hid (HS.out.go hb4)
            have HS5 := Lib.hid (HS4.out.put H.out P (u + 10000000) (L' := bwdL m P) (by rw [HV.out, HMIN.out]; exact bwd_set hk2))
            have f4 := HS4.out.o.frozenAt P
            have c4 := (hb4.cell (p := ⟨w.heap.size + 1, P, none⟩) hgl).trans dq
            have hgl4 := (own_block HS4.out.o _ rfl).2
            clear hb4 HS HS4 d0 d1 dq dq2 x0 x1 x2 x3 x4 hxl hgl hab
            go_upto_region 13 with fail
            have hd1 : (d : Int) - 1 = ((d - 1 : Nat) : Int) := by omega
            clear f4 c4 hgl4 e1 e2 e3 hub HMIN
            go_wp2_with fail
            go_roundg p
            case measure => omega
            case rel => exact ⟨d - 1, by first | rfl | go_num, by have := Hd.out; have := HPP.out; omega, by have := HPP.out; omega, by rw [HPP.out]; exact HS5.out⟩
end Go.Proofs.YtinjdcefagaaeaaGreatDoor
namespace Go.Proofs.YtinjdcefagaaeaaGreatDoor
open Go.RowKit
theorem half_get {f : Int → Int} {S : List Int} {j : Nat} (hj : j < S.length) : ((S.take j).map f ++ S.drop j)[j]? = some S[j] := by
  rw [List.getElem?_append_right (by simp; omega)]
  simp
  rw [Nat.min_eq_left (Nat.le_of_lt hj), Nat.sub_self]
  simp [hj]
theorem half_set {f : Int → Int} {S : List Int} {j : Nat} (hj : j < S.length) : ((S.take j).map f ++ S.drop j).set j (f S[j]) = (S.take (j + 1)).map f ++ S.drop (j + 1) := by
  have h1 : S.drop j = S[j] :: S.drop (j + 1) := List.drop_eq_getElem_cons hj
  have h2 : j - ((S.take j).map f).length = 0 := by simp; omega
  rw [List.set_append_right _ _ (by simp; omega), h2, h1, List.set_cons_zero, List.take_succ_eq_append_getElem hj, List.map_append, List.append_assoc]
  rfl
theorem bwd_bd {m : Nat} (hm : m ≤ 40) : ∀ x ∈ bwdL m 1, 0 ≤ x ∧ x ≤ 400000000 := by
  intro x hx
  unfold bwdL at hx
  obtain ⟨q, hq, rfl⟩ := List.mem_map.1 hx
  have hq := List.mem_range.1 hq
  split
  · omega
  · split
    · omega
    · have : min q (m - 1 - q) ≤ 40 := by omega
      omega
/-- a row of numbers of the call's own -/
structure OwI (w wr : World) (g m : Nat) (L : List Int) : Prop where
  b : Below w.heap.size w wr
  o : wr.ownsRow w.heap.size 3 1 (.slice (some ⟨g, 0, none⟩) m m) m (L.map (Value.int .i64))
theorem OwI.go {w wr w' : World} {g m : Nat} {L : List Int} (h : OwI w wr g m L) (hb : Below wr.heap.size wr w') : OwI w w' g m L := ⟨h.b.trans (hb.mono h.b.size), own_grow h.o hb⟩
theorem OwI.put {w wr : World} {g m : Nat} {L L' : List Int} (h : OwI w wr g m L) (i : Nat) (u : Int) (hL : L.set i u = L') : OwI w (wr.setCell ⟨g, i, none⟩ (.int .i64 u)) g m L' := by
  have hs := (h.o.stored i (.int .i64 u)).1
  rw [← List.map_set, hL] at hs
  exact ⟨h.b.setCell (own_block h.o g rfl).1 _, hs⟩
def spdL (m : Nat) : List Int := (bwdL m 1).map fun x => sqR x 32 0
def Sp1 (w : World) (g m k : Nat) (v : Value) (wr : World) : Prop :=
  ∃ j : Nat, v = .int .i64 j ∧ j + k = m ∧ OwI w wr g m (((bwdL m 1).take j).map (fun x => sqR x 32 0) ++ (bwdL m 1).drop j)
set_option maxRecDepth 100000 in
set_option maxHeartbeats 6400000 in
theorem speeds_ex (A : Option Addr) (n c st : Nat) (w : World) (h : CelR w A n) (hst : st + 2 ≤ n) (hn : n ≤ 1000) (h40 : n ≤ st + 39) (hc : n ≤ c) (m : Nat) (hm : m = n - st + 1) :
    Calls Tryz.prog 163 #[.slice A n c, .int .i64 st, stkV] w fun e w' => ∃ g, e = .returned (.tuple #[.slice (some ⟨g, 0, none⟩) m m, .int .i64 0]) ∧ OwI w w' g m (spdL m) := by
  have H := Lib.hid h
  have HM := Lib.hid hm
  have hm1 : m ≤ 40 := by omega
  clear h hm
  go_enter Tryz.func163, Tryz.ntmps163
  go_upto_region 1 with fail
  refine world_gen (fun w0 => Below w.heap.size w w0 ∧ Blk w0 w.heap.size 46 stkC) ⟨(by repeat (first | exact Below.refl _ _ | (with_reducible refine Below.drew ?_) | (with_reducible refine below_drewN ?_ _) | (with_reducible refine Below.alloc ?_ (by first | omega | (simp; done) | (simp; omega)) _) | (with_reducible refine Below.setCell ?_ (by first | omega | (simp; done) | (simp; omega)) _) | (refine Below.trans ?_ (Below.mono (by with_reducible assumption) (by first | omega | (simp; done) | (simp; omega)))))), Blk.new _ _ _⟩ ?_
  rintro w0 ⟨hb0, hx0⟩
  have HB0 := Lib.hid hb0
  have HX0 := Lib.hid hx0
  clear hb0 hx0
  have x0 := HX0.out.cell 0
  have x1 := HX0.out.cell 1
  have x2 := HX0.out.cell 2
  have x3 := HX0.out.cell 3
  have x4 := HX0.out.cell 4
  simp [stkC] at x0 x1 x2 x3 x4
  go_wp2_with fail
  refine (crun_ex A n c st w0 (H.out.go HB0.out) hst hn).mono ?_
  rintro e w1 ⟨rfl, hb1⟩
  have HX1 := Lib.hid (HX0.out.bel hb1)
  have HB1 := Lib.hid (HB0.out.trans (hb1.mono HB0.out.size))
  clear hb1 HX0 HB0 x0 x1 x2 x3 x4
  have x0 := HX1.out.cell 0
  have x1 := HX1.out.cell 1
  have x2 := HX1.out.cell 2
  have x3 := HX1.out.cell 3
  have x4 := HX1.out.cell 4
  simp [stkC] at x0 x1 x2 x3 x4
  go_wp2_with fail
  refine (squares_ex A n c st w1 (H.out.go HB1.out) hst hn h40 hc m HM.out).mono ?_
  rintro e w2 ⟨g, rfl, ho2, hb2⟩
  have HO2 := Lib.hid (show OwI w w2 g m (bwdL m 1) from ⟨HB1.out.trans (hb2.mono HB1.out.size), own_base ho2 HB1.out.size⟩)
  clear ho2 hb2 HX1 x0 x1 x2 x3 x4
  go_wp2_with fail
  go_loopg [10, 11, 25] m (fun q _ _ v wr => Sp1 w g m q v wr)
  case atStart => exact ⟨0, rfl, by omega, by simpa using HO2.out⟩
  case round =>
    obtain ⟨j, rfl, hj, ho⟩ := hrel
    have HO := Lib.hid ho
    have Hj := Lib.hid hj
    clear ho hj HO2
    by_cases hlt : j < m
    · have hlb : j < (bwdL m 1).length := by rw [bwd_len]; exact hlt
      obtain ⟨x, hx⟩ : ∃ x, (bwdL m 1)[j] = x := ⟨_, rfl⟩
      have hxb := bwd_bd hm1 _ (List.getElem_mem hlb)
      rw [hx] at hxb
      have dq : wr.cell? ⟨g, j, none⟩ = some (.int .i64 x) := by
        rw [HO.out.o.cellAt j (by omega), List.getElem?_map, half_get hlb, hx]
        rfl
      have hgl := (own_block HO.out.o g rfl).2
      have fq := HO.out.o.frozenAt j
      have HO3 := Lib.hid (HO.out.put j (sqR x 32 0) (L' := ((bwdL m 1).take (j + 1)).map (fun x => sqR x 32 0) ++ (bwdL m 1).drop (j + 1)) (by rw [← hx]; exact half_set (f := fun x => sqR x 32 0) hlb))
      clear hx hlb
      go_wp2_with fail
      refine (sqrt_any x wr hxb.1 (by omega)).mono ?_
      rintro e w3 ⟨rfl, hw3⟩
      obtain rfl := hw3
      generalize sqR x 32 0 = y at *
      go_wp2_with fail
      go_roundg (m - j - 1)
      case measure => have := Hj.out; omega
      case rel => exact ⟨j + 1, by first | rfl | go_num, by have := Hj.out; omega, HO3.out⟩
    · obtain rfl : j = m := by have := Hj.out; omega
      have HE := Lib.hid (show OwI w wr g j (spdL j) by
        have := HO.out
        rw [List.take_of_length_le (by rw [bwd_len]; exact Nat.le_refl _), List.drop_eq_nil_of_le (by rw [bwd_len]; exact Nat.le_refl _), List.append_nil] at this
        exact this)
      go_wp2_with fail
      go_ret2
      exact ⟨g, rfl, HE.out⟩
end Go.Proofs.YtinjdcefagaaeaaGreatDoor
namespace Go.Proofs.YtinjdcefagaaeaaGreatDoor
open Go.RowKit
def preL (f : Nat → Int) (m i : Nat) : List Int := (List.range m).map fun q => if q < i then f q else 0
section
variable {f : Nat → Int} {m i q : Nat}
theorem pre_len : (preL f m i).length = m := by simp [preL]
theorem pre_get (h : q < m) : (preL f m i)[q]? = some (if q < i then f q else 0) := by simp [preL, h]
theorem pre_set : (preL f m i).set i (f i) = preL f m (i + 1) := by
  apply List.ext_getElem?
  intro q
  rw [List.getElem?_set]
  by_cases hq : q < m
  · rw [pre_get hq, pre_get hq, pre_len]
    by_cases e : i = q
    · subst e
      rw [if_pos rfl, if_pos hq, if_pos (by omega)]
    · rw [if_neg e]
      by_cases h2 : q < i
      · rw [if_pos h2, if_pos (by omega)]
      · rw [if_neg h2, if_neg (by omega)]
  · have h1 : (preL f m i)[q]? = none := List.getElem?_eq_none (by rw [pre_len]; omega)
    have h2 : (preL f m (i + 1))[q]? = none := List.getElem?_eq_none (by rw [pre_len]; omega)
    rw [h1, h2, pre_len]
    split
    · rw [if_neg (by omega)]
    · rfl
theorem pre_one (h0 : f 0 = 0) : preL f m 1 = List.replicate m 0 := by
  apply List.ext_getElem?
  intro q
  by_cases hq : q < m
  · rw [pre_get hq, List.getElem?_replicate, if_pos hq]
    split
    · rename_i h; rw [show q = 0 by omega, h0]
    · rfl
  · rw [List.getElem?_eq_none (by rw [pre_len]; omega), List.getElem?_eq_none (by simpa using hq)]
end
/-- the moment at boundary i, in milliseconds -/
def tiF (S : List Int) : Nat → Int
  | 0 => 0
  | i + 1 => tiF S i + cdiv 20000000 (S.getD i 0 + S.getD (i + 1) 0)
/-- what the speeds of the example know -/
structure SpdOk (S : List Int) (m : Nat) : Prop where
  len : S.length = m
  pos : ∀ i, i < m - 1 → 1 ≤ S.getD i 0 + S.getD (i + 1) 0
  bd : ∀ i, i < m → 0 ≤ S.getD i 0 ∧ S.getD i 0 ≤ 100000
  ti : ∀ i, i < m → 0 ≤ tiF S i ∧ tiF S i ≤ 1000000000
  cd : ∀ i, i < m - 1 → 0 ≤ cdiv 20000000 (S.getD i 0 + S.getD (i + 1) 0) ∧ cdiv 20000000 (S.getD i 0 + S.getD (i + 1) 0) ≤ 1000000000
theorem spd_ok : SpdOk (spdL 21) 21 := ⟨by decide +kernel, by decide +kernel, by decide +kernel, by decide +kernel, by decide +kernel⟩
structure TiS (w wr : World) (g g2 m : Nat) (S T : List Int) : Prop where
  s : OwI w wr g m S
  t : OwI w wr g2 m T
  n : g ≠ g2
theorem TiS.go {w wr w' : World} {g g2 m : Nat} {S T : List Int} (h : TiS w wr g g2 m S T) (hb : Below wr.heap.size wr w') : TiS w w' g g2 m S T := ⟨h.s.go hb, h.t.go hb, h.n⟩
theorem TiS.put {w wr : World} {g g2 m : Nat} {S T T' : List Int} (h : TiS w wr g g2 m S T) (i : Nat) (u : Int) (hL : T.set i u = T') : TiS w (wr.setCell ⟨g2, i, none⟩ (.int .i64 u)) g g2 m S T' :=
  have ht := h.t.put i u hL
  ⟨⟨ht.b, own_far h.s.o (by simp [Value.ownBlock]; exact h.n)⟩, ht, h.n⟩
def Ti1 (w : World) (g g2 m : Nat) (S : List Int) (k : Nat) (v : Value) (wr : World) : Prop :=
  ∃ i : Nat, v = .int .i64 (i : Int) ∧ 1 ≤ i ∧ i + k = m ∧ TiS w wr g g2 m S (preL (tiF S) m i)
set_option maxRecDepth 100000 in
set_option maxHeartbeats 6400000 in
theorem times_ex (A : Option Addr) (n c st : Nat) (w : World) (h : CelR w A n) (hst : st + 2 ≤ n) (hn : n ≤ 1000) (h40 : n ≤ st + 39) (hc : n ≤ c) (m : Nat) (hm : m = n - st + 1) (S : List Int) (hS : S = spdL m) (hok : SpdOk S m) :
    Calls Tryz.prog 93 #[.slice A n c, .int .i64 st, stkV] w fun e w' => ∃ g, e = .returned (.tuple #[.slice (some ⟨g, 0, none⟩) m m, .int .i64 0]) ∧ OwI w w' g m (preL (tiF S) m m) := by
  have H := Lib.hid h
  have HM := Lib.hid hm
  have HOK := Lib.hid hok
  have hm1 : m ≤ 40 := by omega
  have hm2 : 1 ≤ m := by omega
  clear h hm hok
  obtain ⟨i0, b1, b2, b3, b4⟩ := info_parts infoI
  have HI := Lib.hid (And.intro b1 (And.intro b2 (And.intro b3 b4)))
  clear b1 b2 b3 b4
  go_enter Tryz.func93, Tryz.ntmps93
  go_upto_region 1 with fail
  refine world_gen (fun w0 => Below w.heap.size w w0 ∧ Blk w0 w.heap.size 46 stkC) ⟨(by repeat (first | exact Below.refl _ _ | (with_reducible refine Below.drew ?_) | (with_reducible refine below_drewN ?_ _) | (with_reducible refine Below.alloc ?_ (by first | omega | (simp; done) | (simp; omega)) _) | (with_reducible refine Below.setCell ?_ (by first | omega | (simp; done) | (simp; omega)) _) | (refine Below.trans ?_ (Below.mono (by with_reducible assumption) (by first | omega | (simp; done) | (simp; omega)))))), Blk.new _ _ _⟩ ?_
  rintro w0 ⟨hb0, hx0⟩
  have HB0 := Lib.hid hb0
  have HX0 := Lib.hid hx0
  clear hb0 hx0
  have x0 := HX0.out.cell 0
  have x1 := HX0.out.cell 1
  have x2 := HX0.out.cell 2
  have x3 := HX0.out.cell 3
  have x4 := HX0.out.cell 4
  simp [stkC] at x0 x1 x2 x3 x4
  go_wp2_with fail
  refine (speeds_ex A n c st w0 (H.out.go HB0.out) hst hn h40 hc m HM.out).mono ?_
  rintro e w2 ⟨g, rfl, ho2⟩
  have HO2 := Lib.hid (show OwI w w2 g m S from ⟨HB0.out.trans (ho2.b.mono HB0.out.size), by rw [hS]; exact own_base ho2.o HB0.out.size⟩)
  clear ho2 HX0 x0 x1 x2 x3 x4
  go_upto_region 5 with (at_make; refine wpList_make_full _ rfl _ _ 47 rfl (w.heap.size) 3 i0 _ 1 Tryz.underlying47 HI.out.1 HI.out.2.1 HI.out.2.2.1 .i64 .i64 _ _ m rfl rfl rfl rfl ?m1 ?m2 ?m3 ?_; rotate_right; intro w3 ho3 hg3)
  case m1 => rw [HI.out.2.2.2]; omega
  case m2 => simp only [maxLen]; omega
  case m3 => exact HO2.out.b.size
  have hb3 := bel_grow hg3
  have HT3 := Lib.hid (show TiS w w3 g w2.heap.size m S (preL (tiF S) m 1) from ⟨HO2.out.go hb3, ⟨HO2.out.b.trans (hb3.mono HO2.out.b.size), by
    have h := ho3
    rw [Nat.mul_one, show (Value.int .i64 0).cells = #[.int .i64 0] from rfl, toList_madeCells_one] at h
    rw [pre_one (f := tiF S) rfl, List.map_replicate]
    exact h⟩, by have := (own_block HO2.out.o g rfl).2; omega⟩)
  clear ho3 hg3 hb3 HO2
  generalize w2.heap.size = g2 at *
  go_wp2_with fail
  go_loopg [11, 12, 13] (m - 1) (fun q v _ _ wr => Ti1 w g g2 m S q v wr)
  case atStart => exact ⟨1, rfl, by omega, by omega, HT3.out⟩
  case round =>
    obtain ⟨i, rfl, hi1, hik, hs⟩ := hrel
    have HS := Lib.hid hs
    have Hik := Lib.hid hik
    clear hs hik HT3
    by_cases hlt : i < m
    · obtain ⟨q, hq⟩ : ∃ q, i = q + 1 := ⟨i - 1, by omega⟩
      have e1 : (i : Int) - 1 = (q : Int) := by omega
      have hqm : q < m := by omega
      have hp1 := HOK.out.pos q (by omega)
      have hd1 := HOK.out.cd q (by omega)
      have hb1 := HOK.out.bd q hqm
      have hb2 := HOK.out.bd i hlt
      have ht1 := HOK.out.ti q hqm
      rw [← hq] at hp1 hd1
      have HT := Lib.hid (show tiF S i = tiF S q + cdiv 20000000 (S.getD q 0 + S.getD i 0) by rw [hq]; rfl)
      have sg : ∀ j, j < m → S[j]? = some (S.getD j 0) := fun j hj => by
        have hl : j < S.length := by rw [HOK.out.len]; exact hj
        rw [List.getD_eq_getElem?_getD, List.getElem?_eq_getElem hl]
        rfl
      have d0 : wr.cell? ⟨g, q, none⟩ = some (.int .i64 (S.getD q 0)) := by
        rw [HS.out.s.o.cellAt q (by omega), List.getElem?_map, sg q hqm]; rfl
      have d1 : wr.cell? ⟨g, i, none⟩ = some (.int .i64 (S.getD i 0)) := by
        rw [HS.out.s.o.cellAt i (by omega), List.getElem?_map, sg i hlt]; rfl
      clear sg
      generalize S.getD q 0 = a at *
      generalize S.getD i 0 = b at *
      have hgl := (own_block HS.out.s.o g rfl).2
      have HQ := Lib.hid hq
      clear hq
      have hcd : ∀ W, Calls Tryz.prog 95 #[.int .i64 20000000, .int .i64 (a + b)] W fun e w' => e = .returned (.tuple #[.int .i64 (cdiv 20000000 (a + b)), .int .i64 0]) ∧ Below W.heap.size W w' := fun W => (ceil_any 20000000 (a + b) W hp1 (by omega) (by omega)).mono fun e w' h => ⟨h.1, by rw [← h.2]; exact Below.refl _ _⟩
      have HCD := Lib.hid hcd
      clear hcd
      generalize cdiv 20000000 (a + b) = d at *
      go_upto_region 8 with fail
      refine wp_region_overL (by kernel_rfl) (by kernel_rfl) ?_
      repeat (go_big_quiet_step ((go_at_call 95; exact callsOver (HCD.out _))))
      refine wpQuiet_nil ?_
      intro w4 hb4
      have HS4 := Lib.hid (HS.out.go hb4)
      have dt : w4.cell? ⟨g2, q, none⟩ = some (.int .i64 (tiF S q)) := by
        rw [HS4.out.t.o.cellAt q (by omega), List.getElem?_map, pre_get hqm, if_pos (by have := HQ.out; omega)]; rfl
      have c4 := HS4.out.t.o.cellAt i (by omega)
      rw [List.getElem?_map, pre_get hlt] at c4
      have c4' : w4.cell? ⟨g2, i, none⟩ = some (.int .i64 (if i < i then tiF S i else 0)) := c4
      have f4 := HS4.out.t.o.frozenAt i
      have hg4 := (own_block HS4.out.t.o g2 rfl).2
      have HS5 := Lib.hid (HS4.out.put i (tiF S q + d) (T' := preL (tiF S) m (i + 1)) (by rw [← HT.out]; exact pre_set))
      clear c4 HS HS4 d0 d1 hgl hb4 HCD HT
      generalize tiF S q = x at *
      go_wp2_with fail
      go_roundg (m - i - 1)
      case measure => have := Hik.out; omega
      case rel => exact ⟨i + 1, by first | rfl | go_num, by omega, by have := Hik.out; omega, HS5.out⟩
    · obtain rfl : i = m := by have := Hik.out; omega
      go_wp2_with fail
      go_ret2
      exact ⟨g2, rfl, HS.out.t⟩
end Go.Proofs.YtinjdcefagaaeaaGreatDoor
