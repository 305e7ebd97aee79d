import Derived.Test.YtinjdcefagaaeaaGreatDoorQNe
import Derived.Test.YtinjdcefagaaeaaGreatDoorQCe
import Derived.Test.YtinjdcefagaaeaaGreatDoorQSh
import Derived.Test.YtinjdcefagaaeaaGreatDoorQCu
import Derived.Laws.EntriesVeiled
set_option linter.unusedVariables false
set_option linter.unusedSimpArgs false
namespace Go.Proofs.YtinjdcefagaaeaaGreatDoor
open Go.RowKit
/-! cycles: partitions; sorting and searching a row of one number -/
abbrev i2 (a b : Int) : Array Value := #[.int .i64 a, .int .i64 b]
def NpL (w : World) (g : Nat) (k : Nat) (v : Value) (wr : World) : Prop := ∃ j : Nat, v = .int .i64 j ∧ j + k = 2 ∧ w.heap.size ≤ g ∧ Below w.heap.size w wr ∧ Blk wr g 3 (i2 0 (if j = 2 then 1 else 0))
set_option maxRecDepth 100000 in
set_option maxHeartbeats 3200000 in
theorem newpart_ok (w : World) : Calls Tryz.prog 56 #[.int .i64 2] w fun e w' => ∃ g, e = .returned (.slice (some ⟨g, 0, none⟩) 2 2) ∧ Blk w' g 3 (i2 0 1) ∧ w.heap.size ≤ g ∧ Below w.heap.size w w' := by
  obtain ⟨i0, b1, b2, b3, b4⟩ := info_parts infoI
  have HI := Lib.hid (And.intro b1 (And.intro b2 (And.intro b3 b4)))
  clear b1 b2 b3 b4
  go_enter Tryz.func56, Tryz.ntmps56
  go_upto_region 2 with (at_make; refine wpList_make_full _ rfl _ _ 150 rfl (w.heap.size) 3 i0 _ 1 Tryz.underlying150 HI.out.1 HI.out.2.1 HI.out.2.2.1 .i64 .i64 _ _ 2 rfl rfl rfl rfl ?m1 ?m2 ?m3 ?_; rotate_right; intro w3 ho3 hg3)
  case m1 => rw [HI.out.2.2.2]; omega
  case m2 => simp only [maxLen]; omega
  case m3 => exact Nat.le_refl _
  have hmc : (madeCells (Value.int .i64 0).cells (2 * 1)).toList = [.int .i64 0, .int .i64 0] := by first | rfl | decide | kernel_rfl
  rw [hmc] at ho3
  have HX := Lib.hid (show Blk w3 w.heap.size 3 (i2 0 0) from own_full ho3)
  have HB := Lib.hid (bel_grow hg3)
  clear hmc ho3 hg3
  generalize hG : w.heap.size = G at *
  have HG := Lib.hid hG
  clear hG
  go_wp2_with fail
  go_loopg [9] 2 (fun k v wr => NpL w G k v wr)
  case atStart => exact ⟨0, rfl, rfl, by rw [HG.out]; exact Nat.le_refl _, by rw [HG.out]; exact HB.out, HX.out⟩
  case round =>
    obtain ⟨j, rfl, hj, hg, hb, hx⟩ := hrel
    have Hj := Lib.hid hj
    have HB1 := Lib.hid hb
    have HX1 := Lib.hid hx
    have x0 := hx.cell 0
    have x1 := hx.cell 1
    have f0 := hx.frozen 0
    have f1 := hx.frozen 1
    have xl := hx.lt
    clear hj hb hx HB HX
    have hj3 : j = 0 ∨ j = 1 ∨ j = 2 := by have := Hj.out; omega
    rcases hj3 with rfl | rfl | rfl
    · simp at x0 x1
      go_wp2_with fail
      go_roundg 1
      case measure => have := Hj.out; omega
      case rel => exact ⟨1, rfl, by have := Hj.out; omega, hg, HB1.out.setCell hg _, HX1.out.set_ 0 (.int .i64 0)⟩
    · simp at x0 x1
      go_wp2_with fail
      go_roundg 0
      case measure => have := Hj.out; omega
      case rel => exact ⟨2, rfl, by have := Hj.out; omega, hg, HB1.out.setCell hg _, HX1.out.set_ 1 (.int .i64 1)⟩
    · simp at x0 x1
      go_wp2_with fail
      go_ret
      exact ⟨G, rfl, HX1.out, hg, HB1.out⟩
set_option maxRecDepth 100000 in
set_option maxHeartbeats 1600000 in
theorem find_self (g : Nat) (i : Int) (a b : Int) (w : World) (h : Blk w g 3 (i2 a b)) (hi : (i = 0 ∧ a = 0) ∨ (i = 1 ∧ b = 1)) : Calls Tryz.prog 117 #[.slice (some ⟨g, 0, none⟩) 2 2, .int .i64 i] w fun e w' => e = .returned (.int .i64 i) ∧ w' = w := by
  have x0 := h.cell 0
  have x1 := h.cell 1
  have xl := h.lt
  clear h
  rcases hi with ⟨rfl, rfl⟩ | ⟨rfl, rfl⟩
  all_goals
    simp at x0 x1
    go_enter Tryz.func117, Tryz.ntmps117
    go_wp2_with fail
  · go_loopg [1] 0 (fun k v wr => v = .int .i64 0 ∧ wr = w)
    case atStart => exact ⟨rfl, rfl⟩
    case round =>
      obtain ⟨rfl, hw⟩ := hrel
      obtain rfl := hw
      go_wp2_with fail
      go_ret
      exact ⟨rfl, rfl⟩
  · go_loopg [1] 0 (fun k v wr => v = .int .i64 1 ∧ wr = w)
    case atStart => exact ⟨rfl, rfl⟩
    case round =>
      obtain ⟨rfl, hw⟩ := hrel
      obtain rfl := hw
      go_wp2_with fail
      go_ret
      exact ⟨rfl, rfl⟩
set_option maxRecDepth 100000 in
set_option maxHeartbeats 1600000 in
theorem find_root (g : Nat) (w : World) (h : Blk w g 3 (i2 0 0)) : Calls Tryz.prog 117 #[.slice (some ⟨g, 0, none⟩) 2 2, .int .i64 1] w fun e w' => e = .returned (.int .i64 0) ∧ w' = w := by
  have x0 := h.cell 0
  have x1 := h.cell 1
  have xl := h.lt
  clear h
  simp at x0 x1
  go_enter Tryz.func117, Tryz.ntmps117
  go_wp2_with fail
  go_loopg [1] 1 (fun k v wr => wr = w ∧ ((k = 1 ∧ v = .int .i64 1) ∨ (k = 0 ∧ v = .int .i64 0)))
  case atStart => exact ⟨rfl, .inl ⟨rfl, rfl⟩⟩
  case round =>
    obtain ⟨hw, ⟨rfl, rfl⟩ | ⟨rfl, rfl⟩⟩ := hrel
    · obtain rfl := hw
      go_wp2_with fail
      go_roundg 0
      case measure => omega
      case rel => exact ⟨rfl, .inr ⟨rfl, rfl⟩⟩
    · obtain rfl := hw
      go_wp2_with fail
      go_ret
      exact ⟨rfl, rfl⟩
set_option maxRecDepth 100000 in
set_option maxHeartbeats 1600000 in
theorem join_ok (g : Nat) (w : World) (h : Blk w g 3 (i2 0 1)) : Calls Tryz.prog 57 #[.slice (some ⟨g, 0, none⟩) 2 2, .int .i64 0, .int .i64 1] w fun e w' => e = .returned (.bool true) ∧ Blk w' g 3 (i2 0 0) ∧ Tw g w w' := by
  have H := Lib.hid h
  have x1 := h.cell 1
  have f1 := h.frozen 1
  have xl := h.lt
  clear h
  simp at x1
  have hmx : max (0 : Int) 1 = 1 := by decide
  have hmn : min (0 : Int) 1 = 0 := by decide
  go_enter Tryz.func57, Tryz.ntmps57
  go_wp2_with fail
  refine (find_self g 0 0 1 w H.out (.inl ⟨rfl, rfl⟩)).mono ?_
  rintro e w1 ⟨rfl, hw⟩
  subst hw
  go_wp2_with fail
  refine (find_self g 1 0 1 _ H.out (.inr ⟨rfl, rfl⟩)).mono ?_
  rintro e w2 ⟨rfl, hw⟩
  subst hw
  go_wp2_with fail
  go_ret
  exact ⟨rfl, H.out.set_ 1 (.int .i64 0), Tw.set _ _ _ _⟩
set_option maxRecDepth 100000 in
set_option maxHeartbeats 1600000 in
theorem insO_ok (s : Value) (w : World) : Calls Tryz.prog 176 #[s, .int .i64 0, .int .i64 1] w fun e w' => (∃ v, e = .returned v) ∧ w' = w := by
  go_enter Tryz.func176, Tryz.ntmps176
  go_wp2_with fail
  go_loopg [6] 0 (fun k v wr => v = .int .i64 1 ∧ wr = w)
  case atStart => exact ⟨rfl, rfl⟩
  case round =>
    obtain ⟨rfl, hw⟩ := hrel
    obtain rfl := hw
    go_wp2_with fail
    go_end0
    exact ⟨⟨_, rfl⟩, rfl⟩
set_option maxRecDepth 100000 in
set_option maxHeartbeats 1600000 in
theorem pdq_ok (s : Value) (l : Int) (w : World) : Calls Tryz.prog 122 #[s, .int .i64 0, .int .i64 1, .int .i64 l] w fun e w' => (∃ v, e = .returned v) ∧ w' = w := by
  go_enter Tryz.func122, Tryz.ntmps122
  go_wp2_with fail
  go_loopg [1, 2] 0 (fun k v1 v2 wr => v1 = .int .i64 0 ∧ v2 = .int .i64 1 ∧ wr = w)
  case atStart => exact ⟨rfl, rfl, rfl⟩
  case round =>
    obtain ⟨rfl, rfl, hw⟩ := hrel
    obtain rfl := hw
    go_wp2_with fail
    refine (insO_ok s _).mono ?_
    rintro e w1 ⟨⟨v1, rfl⟩, hw⟩
    subst hw
    go_wp2_with fail
    refine bodyPost_ret (results_none rfl _ _ _) rfl ?_
    exact ⟨⟨_, rfl⟩, rfl⟩
end Go.Proofs.YtinjdcefagaaeaaGreatDoor
namespace Go.Proofs.YtinjdcefagaaeaaGreatDoor
open Go.RowKit
/-! cycles: sorting, Tree, Components -/
set_option maxRecDepth 100000 in
set_option maxHeartbeats 1600000 in
theorem sort_ok (A : Option Addr) (c : Nat) (w : World) : Calls Tryz.prog 58 #[.slice A 1 c] w fun e w' => (∃ v, e = .returned v) ∧ w' = w := by
  go_enter Tryz.func58, Tryz.ntmps58
  go_wp2_with fail
  refine (Tryz.bits_Len 1 _ (by omega) (by omega)).mono ?_
  rintro e w1 ⟨rfl, hw⟩
  subst hw
  go_wp2_with fail
  refine (pdq_ok _ _ _).mono ?_
  rintro e w2 ⟨⟨v2, rfl⟩, hw⟩
  subst hw
  go_wp2_with fail
  go_end0
  exact ⟨⟨_, rfl⟩, rfl⟩
set_option maxRecDepth 100000 in
set_option maxHeartbeats 1600000 in
theorem insC_ok (s f : Value) (w : World) : Calls Tryz.prog 174 #[s, .int .i64 0, .int .i64 1, f] w fun e w' => (∃ v, e = .returned v) ∧ w' = w := by
  go_enter Tryz.func174, Tryz.ntmps174
  go_wp2_with fail
  go_loopg [8] 0 (fun k v wr => v = .int .i64 1 ∧ wr = w)
  case atStart => exact ⟨rfl, rfl⟩
  case round =>
    obtain ⟨rfl, hw⟩ := hrel
    obtain rfl := hw
    go_wp2_with fail
    go_end0
    exact ⟨⟨_, rfl⟩, rfl⟩
set_option maxRecDepth 100000 in
set_option maxHeartbeats 1600000 in
theorem stabC_ok (s f : Value) (w : World) : Calls Tryz.prog 121 #[s, .int .i64 1, f] w fun e w' => (∃ v, e = .returned v) ∧ w' = w := by
  go_enter Tryz.func121, Tryz.ntmps121
  go_wp2_with fail
  go_loopg [7, 8] 0 (fun k v7 v8 wr => v7 = .int .i64 0 ∧ v8 = .int .i64 20 ∧ wr = w)
  case atStart => exact ⟨rfl, rfl, rfl⟩
  case round =>
    obtain ⟨rfl, rfl, hw⟩ := hrel
    obtain rfl := hw
    go_wp2_with fail
    refine (insC_ok s f _).mono ?_
    rintro e w1 ⟨⟨v1, rfl⟩, hw⟩
    subst hw
    go_wp2_with fail
    go_loopg [6] 0 (fun k v wr => v = .int .i64 20 ∧ wr = w1)
    case atStart => exact ⟨rfl, rfl⟩
    case round =>
      obtain ⟨rfl, hw⟩ := hrel
      obtain rfl := hw
      go_wp2_with fail
      go_end0
      exact ⟨⟨_, rfl⟩, rfl⟩
set_option maxRecDepth 100000 in
set_option maxHeartbeats 1600000 in
theorem sortst_ok (A : Option Addr) (c : Nat) (f : Value) (w : World) : Calls Tryz.prog 54 #[.slice A 1 c, f] w fun e w' => (∃ v, e = .returned v) ∧ w' = w := by
  go_enter Tryz.func54, Tryz.ntmps54
  go_wp2_with fail
  refine (stabC_ok _ _ _).mono ?_
  rintro e w1 ⟨⟨v1, rfl⟩, hw⟩
  subst hw
  go_wp2_with fail
  go_end0
  exact ⟨⟨_, rfl⟩, rfl⟩
set_option maxRecDepth 100000 in
set_option maxHeartbeats 1600000 in
theorem isnan_ok (a : Int) (w : World) : Calls Tryz.prog 119 #[.int .i64 a] w fun e w' => e = .returned (.bool false) ∧ w' = w := by
  go_enter Tryz.func119, Tryz.ntmps119
  go_wp2_with fail
  go_ret
  exact ⟨by simp, rfl⟩
set_option maxRecDepth 100000 in
set_option maxHeartbeats 1600000 in
theorem isnan2_ok (a : Int) (w : World) : Calls Tryz.prog 173 #[.int .i64 a] w fun e w' => e = .returned (.bool false) ∧ w' = w := by
  go_enter Tryz.func173, Tryz.ntmps173
  go_wp2_with fail
  go_ret
  exact ⟨by simp, rfl⟩
set_option maxRecDepth 100000 in
set_option maxHeartbeats 1600000 in
theorem less_ok (w : World) : Calls Tryz.prog 118 #[.int .i64 0, .int .i64 0] w fun e w' => e = .returned (.bool false) ∧ w' = w := by
  go_enter Tryz.func118, Tryz.ntmps118
  go_wp2_with fail
  refine (isnan2_ok _ _).mono ?_
  rintro e w1 ⟨rfl, hw⟩
  subst hw
  go_wp2_with fail
  go_ret
  exact ⟨rfl, rfl⟩
set_option maxRecDepth 100000 in
set_option maxHeartbeats 1600000 in
theorem bins_ok (g c : Nat) (w : World) (h : Cs w g [.int .i64 0]) : Calls Tryz.prog 50 #[.slice (some ⟨g, 0, none⟩) 1 c, .int .i64 0] w fun e w' => e = .returned (.tuple #[.int .i64 0, .bool true]) ∧ w' = w := by
  have x0 : w.cell? ⟨g, 0, none⟩ = some (.int .i64 0) := h.c 0 _ rfl
  have xl := h.lt
  clear h
  go_enter Tryz.func50, Tryz.ntmps50
  go_wp2_with fail
  go_loopg [7, 8] 1 (fun k v7 v8 wr => v7 = .int .i64 0 ∧ wr = w ∧ ((k = 1 ∧ v8 = .int .i64 1) ∨ (k = 0 ∧ v8 = .int .i64 0)))
  case atStart => exact ⟨rfl, rfl, .inl ⟨rfl, rfl⟩⟩
  case round =>
    obtain ⟨rfl, hw, ⟨rfl, rfl⟩ | ⟨rfl, rfl⟩⟩ := hrel
    · obtain rfl := hw
      go_wp2_with fail
      refine (less_ok _).mono ?_
      rintro e w1 ⟨rfl, hw⟩
      subst hw
      go_wp2_with fail
      go_roundg 0
      case measure => omega
      case rel => exact ⟨rfl, rfl, .inr ⟨rfl, rfl⟩⟩
    · obtain rfl := hw
      go_wp2_with fail
      go_ret2
      exact ⟨rfl, rfl⟩
end Go.Proofs.YtinjdcefagaaeaaGreatDoor
namespace Go.Proofs.YtinjdcefagaaeaaGreatDoor
open Go.RowKit
/-! cycles.Components, Tree -/
structure CmS (w wr : World) (N : NtA) (gp : Nat) (a b : Int) : Prop where
  s : NcS w wr N
  p : Blk wr gp 3 (i2 a b)
  g : w.heap.size < gp
theorem CmS.go {w wr w' : World} {N : NtA} {gp : Nat} {a b : Int} (h : CmS w wr N gp a b) (hb : Below wr.heap.size wr w') : CmS w w' N gp a b := ⟨h.s.go hb, h.p.same (hb.block _ h.p.lt), h.g⟩
theorem CmS.tw {w wr w' : World} {N : NtA} {gp : Nat} {a b a' b' : Int} (h : CmS w wr N gp a b) (ht : Tw gp wr w') (hp : Blk w' gp 3 (i2 a' b')) : CmS w w' N gp a' b' :=
  ⟨⟨ht.below h.s.b (by have := h.g; omega) h.s.b.size, h.s.x.same (ht.block _ h.s.x.lt (by have := h.g; omega))⟩, hp, h.g⟩
def Cm1 (w : World) (N : NtA) (gp : Nat) (k : Nat) (v : Value) (wr : World) : Prop := (k = 1 ∧ v = .int .i64 0 ∧ CmS w wr N gp 0 1) ∨ (k = 0 ∧ v = .int .i64 1 ∧ CmS w wr N gp 0 0)
structure CnS (w wr : World) (N : NtA) (gp gc : Nat) : Prop where
  s : CmS w wr N gp 0 0
  c : Blk wr gc 3 (i2 0 0)
  g : w.heap.size < gc
  n : gc ≠ gp
def Cm2 (w : World) (N : NtA) (gp gc : Nat) (k : Nat) (v7 v : Value) (wr : World) : Prop := CnS w wr N gp gc ∧ ((k = 2 ∧ v = .int .i64 0 ∧ v7 = .int .i64 0) ∨ (k = 1 ∧ v = .int .i64 1 ∧ v7 = .int .i64 1) ∨ (k = 0 ∧ v = .int .i64 2 ∧ v7 = .int .i64 1))
set_option maxRecDepth 100000 in
set_option maxHeartbeats 6400000 in
theorem comps_ok (N : NtA) (w : World) (h : NtM w N) : Calls Tryz.prog 171 #[N.v] w fun e w' => ∃ g, e = .returned (.slice (some ⟨g, 0, none⟩) 2 2) ∧ Cs w' g [.int .i64 0, .int .i64 0] ∧ Below w.heap.size w w' := by
  have H := Lib.hid h
  clear h
  obtain ⟨i0, b1, b2, b3, b4⟩ := info_parts infoI
  have HI := Lib.hid (And.intro b1 (And.intro b2 (And.intro b3 b4)))
  clear b1 b2 b3 b4
  go_enter Tryz.func171, Tryz.ntmps171
  go_upto_region 1 with fail
  refine world_gen (fun w0 => NcS w w0 N) ⟨(by repeat (first | exact Below.refl _ _ | (with_reducible refine Below.drew ?_) | (with_reducible refine below_drewN ?_ _) | (with_reducible refine Below.alloc ?_ (by first | omega | (simp; done) | (simp; omega)) _) | (with_reducible refine Below.setCell ?_ (by first | omega | (simp; done) | (simp; omega)) _) | (refine Below.trans ?_ (Below.mono (by with_reducible assumption) (by first | omega | (simp; done) | (simp; omega)))))), (by repeat (first | (refine Blk.new' _ _ _ _ ?_; first | rfl | (simp <;> omega)) | refine Blk.al ?_ _ | refine Blk.dr ?_ | refine Blk.drN ?_ _ | refine Blk.far ?_ (by first | omega | (simp; omega))))⟩ ?_
  rintro w0 hs0
  have HS0 := Lib.hid hs0
  have x0 := (hs0).x.cell 0
  have x1 := (hs0).x.cell 1
  have x2 := (hs0).x.cell 2
  have xl := (hs0).x.lt
  simp at x0 x1 x2
  clear hs0
  go_wp2_with fail
  refine (ncheck_ok N _ (H.out.go HS0.out.b)).mono ?_
  rintro e w1 ⟨rfl, hb1⟩
  have HS1 := Lib.hid (HS0.out.go hb1)
  clear hb1 HS0
  clear x0 x1 x2 xl
  have x0 := (HS1.out).x.cell 0
  have x1 := (HS1.out).x.cell 1
  have x2 := (HS1.out).x.cell 2
  have xl := (HS1.out).x.lt
  simp at x0 x1 x2
  go_wp2_with fail
  refine (newpart_ok _).mono ?_
  rintro e w2 ⟨gp, rfl, hp2, hg2, hb2⟩
  have HC2 := Lib.hid (show CmS w w2 N gp 0 1 from ⟨HS1.out.go hb2, hp2, Nat.lt_of_lt_of_le HS1.out.x.lt hg2⟩)
  clear hp2 hg2 hb2 HS1
  clear x0 x1 x2 xl
  have x0 := (HC2.out.s).x.cell 0
  have x1 := (HC2.out.s).x.cell 1
  have x2 := (HC2.out.s).x.cell 2
  have xl := (HC2.out.s).x.lt
  simp at x0 x1 x2
  go_wp2_with fail
  clear x0 x1 x2 xl
  go_loopg [20] 1 (fun k v wr => Cm1 w N gp k v wr)
  case atStart => exact .inl ⟨rfl, rfl, HC2.out⟩
  case round =>
    rcases hrel with ⟨rfl, rfl, hs⟩ | ⟨rfl, rfl, hs⟩
    · have HS := Lib.hid hs
      clear hs HC2
      have hnm := H.out.go HS.out.s.b
      obtain ⟨a0, a1, a2, a3, a4, a5⟩ := (hnm).act
      have al := (hnm).ac.lt
      clear hnm
      go_upto_region 7 with fail
      refine world_gen (fun w3 => CmS w w3 N gp 0 1 ∧ Blk w3 wr.heap.size 138 acL.toArray) ⟨HS.out.go ((Below.refl _ _).alloc (Nat.le_refl _) _), (by repeat (first | (refine Blk.new' _ _ _ _ ?_; first | rfl | (simp <;> omega)) | refine Blk.al ?_ _ | refine Blk.dr ?_ | refine Blk.drN ?_ _ | refine Blk.far ?_ (by first | omega | (simp; omega))))⟩ ?_
      rintro w3 ⟨hs3, hz3⟩
      have HS3 := Lib.hid hs3
      have z1 := hz3.cell 1
      have z2 := hz3.cell 2
      have zl := hz3.lt
      simp at z1 z2
      clear hs3 hz3 HS
      clear a0 a1 a2 a3 a4 a5 al
      generalize wr.heap.size = Z at *
      go_wp2_with fail
      refine (join_ok gp _ HS3.out.p).mono ?_
      rintro e w4 ⟨rfl, hp4, ht4⟩
      have HS4 := Lib.hid (HS3.out.tw ht4 hp4)
      clear hp4 ht4 HS3 z1 z2 zl
      go_wp2_with fail
      go_roundg 0
      case measure => omega
      case rel => exact .inr ⟨rfl, rfl, HS4.out⟩
    · have HS := Lib.hid hs
      clear hs HC2
      have x0 := (HS.out.s).x.cell 0
      have x1 := (HS.out.s).x.cell 1
      have x2 := (HS.out.s).x.cell 2
      have xl := (HS.out.s).x.lt
      simp at x0 x1 x2
      go_upto_region 10 with (at_make; refine wpList_make_full _ rfl _ _ 47 rfl (wr.heap.size) 3 i0 _ 1 Tryz.underlying47 HI.out.1 HI.out.2.1 HI.out.2.2.1 .i64 .i64 _ _ 2 rfl rfl rfl rfl ?m1 ?m2 ?m3 ?_; rotate_right; intro w3 ho3 hg3)
      case m1 => rw [HI.out.2.2.2]; omega
      case m2 => simp only [maxLen]; omega
      case m3 => exact Nat.le_refl _
      have hmc : (madeCells (Value.int .i64 0).cells (2 * 1)).toList = [.int .i64 0, .int .i64 0] := by first | rfl | decide | kernel_rfl
      rw [hmc] at ho3
      have HN3 := Lib.hid (show CnS w w3 N gp wr.heap.size from ⟨HS.out.go (bel_grow hg3), own_full ho3, Nat.lt_trans HS.out.g HS.out.p.lt, by have := HS.out.p.lt; omega⟩)
      clear hmc ho3 hg3 HS
      clear x0 x1 x2 xl
      generalize wr.heap.size = gc at *
      go_wp2_with fail
      go_loopg [7, 37] 2 (fun k v7 v wr => Cm2 w N gp gc k v7 v wr)
      case atStart => exact ⟨HN3.out, .inl ⟨rfl, rfl, rfl⟩⟩
      case round =>
        obtain ⟨hs, hor⟩ := hrel
        have HS := Lib.hid hs
        clear hs HN3
        have c0 := HS.out.c.cell 0
        have c1 := HS.out.c.cell 1
        have f0 := HS.out.c.frozen 0
        have f1 := HS.out.c.frozen 1
        have cl := HS.out.c.lt
        simp at c0 c1
        have hbl : Below w.heap.size w wr := HS.out.s.s.b
        have key : ∀ (i : Nat), i < 2 → CnS w (wr.setCell ⟨gc, i, none⟩ (.int .i64 0)) N gp gc := fun i hi => by
          have ht : Tw gc wr (wr.setCell ⟨gc, i, none⟩ (.int .i64 0)) := Tw.set _ _ _ _
          have hg := HS.out.g
          refine ⟨⟨⟨ht.below hbl (by omega) hbl.size, HS.out.s.s.x.same (ht.block _ HS.out.s.s.x.lt (by omega))⟩, HS.out.s.p.same (ht.block _ HS.out.s.p.lt (fun e => HS.out.n e.symm)), HS.out.s.g⟩, ?_, HS.out.g, HS.out.n⟩
          match i, hi with
          | 0, _ => exact HS.out.c.set_ 0 (.int .i64 0)
          | 1, _ => exact HS.out.c.set_ 1 (.int .i64 0)
        have HKY := Lib.hid key
        clear key hbl
        rcases hor with ⟨rfl, rfl, rfl⟩ | ⟨rfl, rfl, rfl⟩ | ⟨rfl, rfl, rfl⟩
        · go_wp2_with fail
          refine (find_self gp 0 0 0 _ HS.out.s.p (.inl ⟨rfl, rfl⟩)).mono ?_
          rintro e w5 ⟨rfl, hw⟩
          subst hw
          go_wp2_with fail
          go_roundg 1
          case measure => omega
          case rel => exact ⟨HKY.out 0 (by omega), .inr (.inl ⟨rfl, rfl, rfl⟩)⟩
        · go_wp2_with fail
          refine (find_root gp _ HS.out.s.p).mono ?_
          rintro e w5 ⟨rfl, hw⟩
          subst hw
          go_wp2_with fail
          go_roundg 0
          case measure => omega
          case rel => exact ⟨HKY.out 1 (by omega), .inr (.inr ⟨rfl, rfl, rfl⟩)⟩
        · go_wp2_with fail
          go_ret
          exact ⟨gc, rfl, ⟨cl, fun i v hi => (HS.out.c.cell i).trans (by simpa using hi)⟩, HS.out.s.s.b⟩
end Go.Proofs.YtinjdcefagaaeaaGreatDoor
