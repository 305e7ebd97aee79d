import Derived.Test.YtinjdcefagaaeaaGreatDoorQNv
import Derived.Test.YtinjdcefagaaeaaGreatDoorQAr
set_option linter.unusedVariables false
set_option linter.unusedSimpArgs false
namespace Go.Proofs.YtinjdcefagaaeaaGreatDoor
open Go.RowKit
/-! network.Check and what reads times, at the example's network and times -/
/-- a function that has the network as its first parameter, boxed in its first block -/
structure NcS (w wr : World) (N : NtA) : Prop where
  b : Below w.heap.size w wr
  x : Blk wr w.heap.size 68 N.cells
theorem NcS.go {w wr w' : World} {N : NtA} (h : NcS w wr N) (hb : Below wr.heap.size wr w') : NcS w w' N := ⟨h.b.trans (hb.mono h.b.size), h.x.same (hb.block _ h.x.lt)⟩
def NcL (w : World) (N : NtA) (n : Nat) (k : Nat) (v : Value) (wr : World) : Prop := ∃ j : Nat, v = .int .i64 j ∧ j + k = n ∧ NcS w wr N
abbrev tmL : List Value := [.int .i64 0, .int .i64 41]
set_option maxRecDepth 100000 in
set_option maxHeartbeats 1600000 in
theorem isev_ok (N : NtA) (i : Int) (w : World) (h0 : 0 ≤ i) (h1 : i < 2) : Calls Tryz.prog 114 #[N.v, .int .i64 i] w fun e w' => e = .returned (.bool true) ∧ Below w.heap.size w w' := by
  go_enter Tryz.func114, Tryz.ntmps114
  go_wp2_with fail
  go_ret
  exact ⟨rfl, (by repeat (first | exact Below.refl _ _ | (with_reducible refine Below.drew ?_) | (with_reducible refine below_drewN ?_ _) | (with_reducible refine Below.alloc ?_ (by first | omega | (simp; done) | (simp; omega)) _) | (with_reducible refine Below.setCell ?_ (by first | omega | (simp; done) | (simp; omega)) _) | (refine Below.trans ?_ (Below.mono (by with_reducible assumption) (by first | omega | (simp; done) | (simp; omega))))))⟩
set_option maxRecDepth 100000 in
set_option maxHeartbeats 3200000 in
theorem ncheck_ok (N : NtA) (w : World) (h : NtM w N) : Calls Tryz.prog 44 #[N.v] w fun e w' => e = .returned (.bool true) ∧ Below w.heap.size w w' := by
  have H := Lib.hid h
  clear h
  go_enter Tryz.func44, Tryz.ntmps44
  go_upto_region 1 with fail
  refine world_gen (fun w0 => NcS w w0 N) ⟨(by repeat (first | exact Below.refl _ _ | (with_reducible refine Below.drew ?_) | (with_reducible refine below_drewN ?_ _) | (with_reducible refine Below.alloc ?_ (by first | omega | (simp; done) | (simp; omega)) _) | (with_reducible refine Below.setCell ?_ (by first | omega | (simp; done) | (simp; omega)) _) | (refine Below.trans ?_ (Below.mono (by with_reducible assumption) (by first | omega | (simp; done) | (simp; omega)))))), (by repeat (first | (refine Blk.new' _ _ _ _ ?_; first | rfl | (simp <;> omega)) | refine Blk.al ?_ _ | refine Blk.dr ?_ | refine Blk.drN ?_ _ | refine Blk.far ?_ (by first | omega | (simp; omega))))⟩ ?_
  rintro w0 hs0
  have HS0 := Lib.hid hs0
  have x0 := (hs0).x.cell 0
  have x1 := (hs0).x.cell 1
  have x2 := (hs0).x.cell 2
  have xl := (hs0).x.lt
  simp at x0 x1 x2
  clear hs0
  go_wp2_with fail
  clear x0 x1 x2 xl
  go_loopg [28] 1 (fun k v wr => NcL w N 1 k v wr)
  case atStart => exact ⟨0, rfl, rfl, HS0.out⟩
  case round =>
    obtain ⟨j, rfl, hj, hs⟩ := hrel
    have HS := Lib.hid hs
    have Hj := Lib.hid hj
    clear hs hj HS0
    by_cases hlt : j < 1
    · obtain rfl : j = 0 := by omega
      have hnm := H.out.go HS.out.b
      obtain ⟨a0, a1, a2, a3, a4, a5⟩ := (hnm).act
      have al := (hnm).ac.lt
      clear hnm
      have x0 := (HS.out).x.cell 0
      have x1 := (HS.out).x.cell 1
      have x2 := (HS.out).x.cell 2
      have xl := (HS.out).x.lt
      simp at x0 x1 x2
      go_upto_region 6 with fail
      refine world_gen (fun w2 => NcS w w2 N ∧ Blk w2 wr.heap.size 138 acL.toArray) ⟨HS.out.go ((Below.refl _ _).alloc (Nat.le_refl _) _), (by repeat (first | (refine Blk.new' _ _ _ _ ?_; first | rfl | (simp <;> omega)) | refine Blk.al ?_ _ | refine Blk.dr ?_ | refine Blk.drN ?_ _ | refine Blk.far ?_ (by first | omega | (simp; omega))))⟩ ?_
      rintro w2 ⟨hs2, hz2⟩
      have HS2 := Lib.hid hs2
      have HZ2 := Lib.hid hz2
      clear hs2 hz2 HS
      clear a0 a1 a2 a3 a4 a5 al
      clear x0 x1 x2 xl
      have x0 := (HS2.out).x.cell 0
      have x1 := (HS2.out).x.cell 1
      have x2 := (HS2.out).x.cell 2
      have xl := (HS2.out).x.lt
      simp at x0 x1 x2
      have z0 := HZ2.out.cell 0
      have z1 := HZ2.out.cell 1
      have z2 := HZ2.out.cell 2
      have z3 := HZ2.out.cell 3
      have z4 := HZ2.out.cell 4
      have z5 := HZ2.out.cell 5
      have zl := HZ2.out.lt
      simp at z0 z1 z2 z3 z4 z5
      generalize wr.heap.size = Z at *
      go_wp2_with fail
      refine (isev_ok N 0 _ (by omega) (by omega)).mono ?_
      rintro e w3 ⟨rfl, hb3⟩
      have HS3 := Lib.hid (HS2.out.go hb3)
      have HZ3 := Lib.hid (HZ2.out.same (hb3.block _ HZ2.out.lt))
      clear hb3 HS2 HZ2 z0 z1 z2 z3 z4 z5 zl
      clear x0 x1 x2 xl
      have x0 := (HS3.out).x.cell 0
      have x1 := (HS3.out).x.cell 1
      have x2 := (HS3.out).x.cell 2
      have xl := (HS3.out).x.lt
      simp at x0 x1 x2
      have z0 := HZ3.out.cell 0
      have z1 := HZ3.out.cell 1
      have z2 := HZ3.out.cell 2
      have zl := HZ3.out.lt
      simp at z0 z1 z2
      go_wp2_with fail
      refine (isev_ok N 1 _ (by omega) (by omega)).mono ?_
      rintro e w4 ⟨rfl, hb4⟩
      have HS4 := Lib.hid (HS3.out.go hb4)
      have HZ4 := Lib.hid (HZ3.out.same (hb4.block _ HZ3.out.lt))
      clear hb4 HS3 HZ3 z0 z1 z2 zl
      clear x0 x1 x2 xl
      have x0 := (HS4.out).x.cell 0
      have x1 := (HS4.out).x.cell 1
      have x2 := (HS4.out).x.cell 2
      have xl := (HS4.out).x.lt
      simp at x0 x1 x2
      have z0 := HZ4.out.cell 0
      have z1 := HZ4.out.cell 1
      have z2 := HZ4.out.cell 2
      have z3 := HZ4.out.cell 3
      have z4 := HZ4.out.cell 4
      have z5 := HZ4.out.cell 5
      have zl := HZ4.out.lt
      simp at z0 z1 z2 z3 z4 z5
      go_wp2_with fail
      go_roundg 0
      case measure => have := Hj.out; omega
      case rel => exact ⟨1, rfl, by have := Hj.out; omega, HS4.out⟩
    · obtain rfl : j = 1 := by have := Hj.out; omega
      go_wp2_with fail
      go_ret
      exact ⟨rfl, HS.out.b⟩
set_option maxRecDepth 100000 in
set_option maxHeartbeats 3200000 in
theorem ngood_ok (N : NtA) (g c : Nat) (w : World) (h : NtM w N) (ht : Cs w g tmL) (hc : 2 ≤ c) : Calls Tryz.prog 65 #[N.v, .slice (some ⟨g, 0, none⟩) 2 c] w fun e w' => e = .returned (.bool true) ∧ Below w.heap.size w w' := by
  have H := Lib.hid h
  have HT := Lib.hid ht
  clear h ht
  go_enter Tryz.func65, Tryz.ntmps65
  go_upto_region 1 with fail
  refine world_gen (fun w0 => NcS w w0 N) ⟨(by repeat (first | exact Below.refl _ _ | (with_reducible refine Below.drew ?_) | (with_reducible refine below_drewN ?_ _) | (with_reducible refine Below.alloc ?_ (by first | omega | (simp; done) | (simp; omega)) _) | (with_reducible refine Below.setCell ?_ (by first | omega | (simp; done) | (simp; omega)) _) | (refine Below.trans ?_ (Below.mono (by with_reducible assumption) (by first | omega | (simp; done) | (simp; omega)))))), (by repeat (first | (refine Blk.new' _ _ _ _ ?_; first | rfl | (simp <;> omega)) | refine Blk.al ?_ _ | refine Blk.dr ?_ | refine Blk.drN ?_ _ | refine Blk.far ?_ (by first | omega | (simp; omega))))⟩ ?_
  rintro w0 hs0
  have HS0 := Lib.hid hs0
  have x0 := (hs0).x.cell 0
  have x1 := (hs0).x.cell 1
  have x2 := (hs0).x.cell 2
  have xl := (hs0).x.lt
  simp at x0 x1 x2
  clear hs0
  go_wp2_with fail
  refine (ncheck_ok N _ (H.out.go HS0.out.b)).mono ?_
  rintro e w1 ⟨rfl, hb1⟩
  have HS1 := Lib.hid (HS0.out.go hb1)
  clear hb1 HS0
  clear x0 x1 x2 xl
  have x0 := (HS1.out).x.cell 0
  have x1 := (HS1.out).x.cell 1
  have x2 := (HS1.out).x.cell 2
  have xl := (HS1.out).x.lt
  simp at x0 x1 x2
  go_wp2_with fail
  clear x0 x1 x2 xl
  go_loopg [20] 2 (fun k v wr => NcL w N 2 k v wr)
  case atStart => exact ⟨0, rfl, rfl, HS1.out⟩
  case round =>
    obtain ⟨j, rfl, hj, hs⟩ := hrel
    have HS := Lib.hid hs
    have Hj := Lib.hid hj
    clear hs hj HS1
    have htm := HT.out.go HS.out.b
    have t0 : wr.cell? ⟨g, 0, none⟩ = some (.int .i64 0) := htm.c 0 _ rfl
    have t1 : wr.cell? ⟨g, 1, none⟩ = some (.int .i64 41) := htm.c 1 _ rfl
    have tl := htm.lt
    clear htm
    have x0 := (HS.out).x.cell 0
    have x1 := (HS.out).x.cell 1
    have x2 := (HS.out).x.cell 2
    have xl := (HS.out).x.lt
    simp at x0 x1 x2
    have hj3 : j = 0 ∨ j = 1 ∨ j = 2 := by have := Hj.out; omega
    rcases hj3 with rfl | rfl | rfl
    · go_wp2_with fail
      go_roundg 1
      case measure => have := Hj.out; omega
      case rel => exact ⟨1, rfl, by have := Hj.out; omega, HS.out⟩
    · go_wp2_with fail
      go_roundg 0
      case measure => have := Hj.out; omega
      case rel => exact ⟨2, rfl, by have := Hj.out; omega, HS.out⟩
    · go_wp2_with fail
      go_ret
      exact ⟨rfl, HS.out.b⟩
set_option maxRecDepth 100000 in
set_option maxHeartbeats 3200000 in
theorem ndur_ok (N : NtA) (g c : Nat) (w : World) (ht : Cs w g tmL) (hc : 2 ≤ c) : Calls Tryz.prog 66 #[N.v, .slice (some ⟨g, 0, none⟩) 2 c, .agg acL.toArray] w fun e w' => e = .returned (.int .i64 41) ∧ Below w.heap.size w w' := by
  have HT := Lib.hid ht
  clear ht
  go_enter Tryz.func66, Tryz.ntmps66
  go_upto_region 1 with fail
  refine world_gen (fun w0 => NcS w w0 N ∧ Blk w0 (w.heap.size + 1) 138 acL.toArray) ⟨⟨(by repeat (first | exact Below.refl _ _ | (with_reducible refine Below.drew ?_) | (with_reducible refine below_drewN ?_ _) | (with_reducible refine Below.alloc ?_ (by first | omega | (simp; done) | (simp; omega)) _) | (with_reducible refine Below.setCell ?_ (by first | omega | (simp; done) | (simp; omega)) _) | (refine Below.trans ?_ (Below.mono (by with_reducible assumption) (by first | omega | (simp; done) | (simp; omega)))))), (by repeat (first | (refine Blk.new' _ _ _ _ ?_; first | rfl | (simp <;> omega)) | refine Blk.al ?_ _ | refine Blk.dr ?_ | refine Blk.drN ?_ _ | refine Blk.far ?_ (by first | omega | (simp; omega))))⟩, (by repeat (first | (refine Blk.new' _ _ _ _ ?_; first | rfl | (simp <;> omega)) | refine Blk.al ?_ _ | refine Blk.dr ?_ | refine Blk.drN ?_ _ | refine Blk.far ?_ (by first | omega | (simp; omega))))⟩ ?_
  rintro w0 ⟨hs0, hz0⟩
  have HS0 := Lib.hid hs0
  have x0 := (hs0).x.cell 0
  have x1 := (hs0).x.cell 1
  have x2 := (hs0).x.cell 2
  have xl := (hs0).x.lt
  simp at x0 x1 x2
  have z0 := hz0.cell 0
  have z1 := hz0.cell 1
  have z2 := hz0.cell 2
  have z3 := hz0.cell 3
  have zl := hz0.lt
  have htm := HT.out.go hs0.b
  have t0 : w0.cell? ⟨g, 0, none⟩ = some (.int .i64 0) := htm.c 0 _ rfl
  have t1 : w0.cell? ⟨g, 1, none⟩ = some (.int .i64 41) := htm.c 1 _ rfl
  have tl := htm.lt
  simp at z0 z1 z2 z3
  clear hs0 hz0 htm
  have hm : (0 : Int) % 300 = 0 := by decide
  have HM : ∀ W, Calls Tryz.prog 62 #[.int .i64 0, .int .i64 300] W fun e w' => e = .returned (.int .i64 0) ∧ W = w' := fun W => by
    have := mod_any 0 300 W (by omega) (by omega)
    rw [hm] at this
    exact this
  have HM' := Lib.hid HM
  clear hm HM
  refine wp_region_overL (by kernel_rfl) (by kernel_rfl) ?_
  repeat (go_big_quiet_step ((go_at_call 62; exact callsOverSame (HM'.out _))))
  refine wpQuiet_nil ?_
  intro w1 hb1
  have HB1 := Lib.hid (HS0.out.go hb1).b
  clear hb1
  clear x0 x1 x2 xl
  clear z0 z1 z2 z3 zl t0 t1 tl HS0
  go_wp2_with fail
  go_ret
  exact ⟨rfl, HB1.out⟩
set_option maxRecDepth 100000 in
set_option maxHeartbeats 3200000 in
theorem nfirst_ok (N : NtA) (g c : Nat) (w : World) (h : NtM w N) (ht : Cs w g tmL) (hc : 2 ≤ c) : Calls Tryz.prog 64 #[N.v, .slice (some ⟨g, 0, none⟩) 2 c] w fun e w' => e = .returned (.tuple #[.int .i64 0, .bool false]) ∧ Below w.heap.size w w' := by
  have H := Lib.hid h
  have HT := Lib.hid ht
  clear h ht
  go_enter Tryz.func64, Tryz.ntmps64
  go_upto_region 1 with fail
  refine world_gen (fun w0 => NcS w w0 N) ⟨(by repeat (first | exact Below.refl _ _ | (with_reducible refine Below.drew ?_) | (with_reducible refine below_drewN ?_ _) | (with_reducible refine Below.alloc ?_ (by first | omega | (simp; done) | (simp; omega)) _) | (with_reducible refine Below.setCell ?_ (by first | omega | (simp; done) | (simp; omega)) _) | (refine Below.trans ?_ (Below.mono (by with_reducible assumption) (by first | omega | (simp; done) | (simp; omega)))))), (by repeat (first | (refine Blk.new' _ _ _ _ ?_; first | rfl | (simp <;> omega)) | refine Blk.al ?_ _ | refine Blk.dr ?_ | refine Blk.drN ?_ _ | refine Blk.far ?_ (by first | omega | (simp; omega))))⟩ ?_
  rintro w0 hs0
  have HS0 := Lib.hid hs0
  have x0 := (hs0).x.cell 0
  have x1 := (hs0).x.cell 1
  have x2 := (hs0).x.cell 2
  have xl := (hs0).x.lt
  simp at x0 x1 x2
  clear hs0
  go_wp2_with fail
  refine (ngood_ok N g c _ (H.out.go HS0.out.b) (HT.out.go HS0.out.b) hc).mono ?_
  rintro e w1 ⟨rfl, hb1⟩
  have HS1 := Lib.hid (HS0.out.go hb1)
  clear hb1 HS0
  clear x0 x1 x2 xl
  have x0 := (HS1.out).x.cell 0
  have x1 := (HS1.out).x.cell 1
  have x2 := (HS1.out).x.cell 2
  have xl := (HS1.out).x.lt
  simp at x0 x1 x2
  go_wp2_with fail
  clear x0 x1 x2 xl
  go_loopg [15] 1 (fun k v wr => NcL w N 1 k v wr)
  case atStart => exact ⟨0, rfl, rfl, HS1.out⟩
  case round =>
    obtain ⟨j, rfl, hj, hs⟩ := hrel
    have HS := Lib.hid hs
    have Hj := Lib.hid hj
    clear hs hj HS1
    by_cases hlt : j < 1
    · obtain rfl : j = 0 := by omega
      have hnm := H.out.go HS.out.b
      obtain ⟨a0, a1, a2, a3, a4, a5⟩ := (hnm).act
      have al := (hnm).ac.lt
      clear hnm
      go_upto_region 6 with fail
      refine world_gen (fun w2 => NcS w w2 N ∧ Blk w2 wr.heap.size 138 acL.toArray) ⟨HS.out.go ((Below.refl _ _).alloc (Nat.le_refl _) _), (by repeat (first | (refine Blk.new' _ _ _ _ ?_; first | rfl | (simp <;> omega)) | refine Blk.al ?_ _ | refine Blk.dr ?_ | refine Blk.drN ?_ _ | refine Blk.far ?_ (by first | omega | (simp; omega))))⟩ ?_
      rintro w2 ⟨hs2, hz2⟩
      have HS2 := Lib.hid hs2
      have HZ2 := Lib.hid hz2
      clear hs2 hz2 HS
      clear a0 a1 a2 a3 a4 a5 al
      have x0 := (HS2.out).x.cell 0
      have x1 := (HS2.out).x.cell 1
      have x2 := (HS2.out).x.cell 2
      have xl := (HS2.out).x.lt
      simp at x0 x1 x2
      have z0 := HZ2.out.cell 0
      have z1 := HZ2.out.cell 1
      have z2 := HZ2.out.cell 2
      have z3 := HZ2.out.cell 3
      have z4 := HZ2.out.cell 4
      have z5 := HZ2.out.cell 5
      have zl := HZ2.out.lt
      simp at z0 z1 z2 z3 z4 z5
      generalize wr.heap.size = Z at *
      have HT2 := Lib.hid (HT.out.go HS2.out.b)
      refine wp_region_overL (by kernel_rfl) (by kernel_rfl) ?_
      repeat (go_big_quiet_step ((go_at_call 66; exact callsOver (ndur_ok N g c _ (HT2.out.go (over_below _ _)) hc))))
      refine wpQuiet_nil ?_
      intro w3 hb3
      have HS3 := Lib.hid (HS2.out.go hb3)
      clear hb3 HS2 HZ2 HT2 z0 z1 z2 z3 z4 z5 zl
      clear x0 x1 x2 xl
      go_wp2_with fail
      go_roundg 0
      case measure => have := Hj.out; omega
      case rel => exact ⟨1, rfl, by have := Hj.out; omega, HS3.out⟩
    · obtain rfl : j = 1 := by have := Hj.out; omega
      go_wp2_with fail
      go_ret2
      exact ⟨rfl, HS.out.b⟩
set_option maxRecDepth 100000 in
set_option maxHeartbeats 3200000 in
theorem nfeas_ok (N : NtA) (g c : Nat) (w : World) (h : NtM w N) (ht : Cs w g tmL) (hc : 2 ≤ c) : Calls Tryz.prog 22 #[N.v, .slice (some ⟨g, 0, none⟩) 2 c] w fun e w' => e = .returned (.bool true) ∧ Below w.heap.size w w' := by
  have H := Lib.hid h
  have HT := Lib.hid ht
  clear h ht
  go_enter Tryz.func22, Tryz.ntmps22
  go_upto_region 1 with fail
  refine world_gen (fun w0 => NcS w w0 N) ⟨(by repeat (first | exact Below.refl _ _ | (with_reducible refine Below.drew ?_) | (with_reducible refine below_drewN ?_ _) | (with_reducible refine Below.alloc ?_ (by first | omega | (simp; done) | (simp; omega)) _) | (with_reducible refine Below.setCell ?_ (by first | omega | (simp; done) | (simp; omega)) _) | (refine Below.trans ?_ (Below.mono (by with_reducible assumption) (by first | omega | (simp; done) | (simp; omega)))))), (by repeat (first | (refine Blk.new' _ _ _ _ ?_; first | rfl | (simp <;> omega)) | refine Blk.al ?_ _ | refine Blk.dr ?_ | refine Blk.drN ?_ _ | refine Blk.far ?_ (by first | omega | (simp; omega))))⟩ ?_
  rintro w0 hs0
  have HS0 := Lib.hid hs0
  have x0 := (hs0).x.cell 0
  have x1 := (hs0).x.cell 1
  have x2 := (hs0).x.cell 2
  have xl := (hs0).x.lt
  simp at x0 x1 x2
  clear hs0
  go_wp2_with fail
  refine (nfirst_ok N g c _ (H.out.go HS0.out.b) (HT.out.go HS0.out.b) hc).mono ?_
  rintro e w1 ⟨rfl, hb1⟩
  have HS1 := Lib.hid (HS0.out.go hb1)
  clear hb1 HS0
  clear x0 x1 x2 xl
  have x0 := (HS1.out).x.cell 0
  have x1 := (HS1.out).x.cell 1
  have x2 := (HS1.out).x.cell 2
  have xl := (HS1.out).x.lt
  simp at x0 x1 x2
  go_wp2_with fail
  refine (ngood_ok N g c _ (H.out.go HS1.out.b) (HT.out.go HS1.out.b) hc).mono ?_
  rintro e w2 ⟨rfl, hb2⟩
  have HS2 := Lib.hid (HS1.out.go hb2)
  clear hb2 HS1
  go_wp2_with fail
  go_ret
  exact ⟨rfl, HS2.out.b⟩
def NkL (w : World) (N : NtA) (k : Nat) (v6 v : Value) (wr : World) : Prop := NcS w wr N ∧ ((k = 1 ∧ v = .int .i64 0 ∧ v6 = .int .i64 0) ∨ (k = 0 ∧ v = .int .i64 1 ∧ v6 = .int .i64 82))
set_option maxRecDepth 100000 in
set_option maxHeartbeats 3200000 in
theorem ncost_ok (N : NtA) (g c : Nat) (w : World) (h : NtM w N) (ht : Cs w g tmL) (hc : 2 ≤ c) : Calls Tryz.prog 23 #[N.v, .slice (some ⟨g, 0, none⟩) 2 c] w fun e w' => e = .returned (.tuple #[.int .i64 82, .int .i64 0]) ∧ Below w.heap.size w w' := by
  have H := Lib.hid h
  have HT := Lib.hid ht
  clear h ht
  go_enter Tryz.func23, Tryz.ntmps23
  go_upto_region 1 with fail
  refine world_gen (fun w0 => NcS w w0 N) ⟨(by repeat (first | exact Below.refl _ _ | (with_reducible refine Below.drew ?_) | (with_reducible refine below_drewN ?_ _) | (with_reducible refine Below.alloc ?_ (by first | omega | (simp; done) | (simp; omega)) _) | (with_reducible refine Below.setCell ?_ (by first | omega | (simp; done) | (simp; omega)) _) | (refine Below.trans ?_ (Below.mono (by with_reducible assumption) (by first | omega | (simp; done) | (simp; omega)))))), (by repeat (first | (refine Blk.new' _ _ _ _ ?_; first | rfl | (simp <;> omega)) | refine Blk.al ?_ _ | refine Blk.dr ?_ | refine Blk.drN ?_ _ | refine Blk.far ?_ (by first | omega | (simp; omega))))⟩ ?_
  rintro w0 hs0
  have HS0 := Lib.hid hs0
  have x0 := (hs0).x.cell 0
  have x1 := (hs0).x.cell 1
  have x2 := (hs0).x.cell 2
  have xl := (hs0).x.lt
  simp at x0 x1 x2
  clear hs0
  go_wp2_with fail
  refine (ngood_ok N g c _ (H.out.go HS0.out.b) (HT.out.go HS0.out.b) hc).mono ?_
  rintro e w1 ⟨rfl, hb1⟩
  have HS1 := Lib.hid (HS0.out.go hb1)
  clear hb1 HS0
  clear x0 x1 x2 xl
  have x0 := (HS1.out).x.cell 0
  have x1 := (HS1.out).x.cell 1
  have x2 := (HS1.out).x.cell 2
  have xl := (HS1.out).x.lt
  simp at x0 x1 x2
  go_wp2_with fail
  clear x0 x1 x2 xl
  go_loopg [6, 16] 1 (fun k v6 v wr => NkL w N k v6 v wr)
  case atStart => exact ⟨HS1.out, .inl ⟨rfl, rfl, rfl⟩⟩
  case round =>
    obtain ⟨hs, hor⟩ := hrel
    have HS := Lib.hid hs
    clear hs HS1
    rcases hor with ⟨rfl, rfl, rfl⟩ | ⟨rfl, rfl, rfl⟩
    · have hnm := H.out.go HS.out.b
      obtain ⟨a0, a1, a2, a3, a4, a5⟩ := (hnm).act
      have al := (hnm).ac.lt
      clear hnm
      go_upto_region 7 with fail
      refine world_gen (fun w2 => NcS w w2 N ∧ Blk w2 wr.heap.size 138 acL.toArray) ⟨HS.out.go ((Below.refl _ _).alloc (Nat.le_refl _) _), (by repeat (first | (refine Blk.new' _ _ _ _ ?_; first | rfl | (simp <;> omega)) | refine Blk.al ?_ _ | refine Blk.dr ?_ | refine Blk.drN ?_ _ | refine Blk.far ?_ (by first | omega | (simp; omega))))⟩ ?_
      rintro w2 ⟨hs2, hz2⟩
      have HS2 := Lib.hid hs2
      have HZ2 := Lib.hid hz2
      clear hs2 hz2 HS
      clear a0 a1 a2 a3 a4 a5 al
      have x0 := (HS2.out).x.cell 0
      have x1 := (HS2.out).x.cell 1
      have x2 := (HS2.out).x.cell 2
      have xl := (HS2.out).x.lt
      simp at x0 x1 x2
      have z0 := HZ2.out.cell 0
      have z1 := HZ2.out.cell 1
      have z2 := HZ2.out.cell 2
      have z3 := HZ2.out.cell 3
      have z4 := HZ2.out.cell 4
      have z5 := HZ2.out.cell 5
      have zl := HZ2.out.lt
      simp at z0 z1 z2 z3 z4 z5
      generalize wr.heap.size = Z at *
      have HT2 := Lib.hid (HT.out.go HS2.out.b)
      refine wp_region_overL (by kernel_rfl) (by kernel_rfl) ?_
      repeat (go_big_quiet_step ((go_at_call 66; exact callsOver (ndur_ok N g c _ (HT2.out.go (over_below _ _)) hc))))
      refine wpQuiet_nil ?_
      intro w3 hb3
      have HS3 := Lib.hid (HS2.out.go hb3)
      clear hb3 HS2 HZ2 HT2 z0 z1 z2 z3 z4 z5 zl
      clear x0 x1 x2 xl
      go_wp2_with fail
      go_roundg 0
      case measure => omega
      case rel => exact ⟨HS3.out, .inr ⟨rfl, rfl, rfl⟩⟩
    · go_wp2_with fail
      go_ret2
      exact ⟨rfl, HS.out.b⟩
end Go.Proofs.YtinjdcefagaaeaaGreatDoor
