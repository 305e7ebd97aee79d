import Derived.Test.YtinjdcefagaaeaaGreatDoorQBk
set_option linter.unusedVariables false
set_option linter.unusedSimpArgs false
namespace Go.Proofs.YtinjdcefagaaeaaGreatDoor
open Go.RowKit
/-! the example's plan in memory; plan: small functions -/
structure PlA where
  sk : Nat
  ro : Nat
  sp : Nat
  li : Nat
  ri : Nat
  de : Nat
  c1 : Nat
  c2 : Nat
  c3 : Nat
  c4 : Nat
  cs : Nat
  cr : Nat
abbrev PlA.cells (P : PlA) : Array Value := #[.int .i64 300, .slice (some ⟨P.sk, 0, none⟩) 1 P.c1, .slice (some ⟨P.ro, 0, none⟩) 1 P.c2, .slice (some ⟨P.li, 0, none⟩) 1 P.c3, .slice none 0 0, .slice none 0 0, .slice none 0 0, .slice (some ⟨P.de, 0, none⟩) 1 P.c4]
abbrev PlA.v (P : PlA) : Value := .agg P.cells
abbrev PlA.lC (P : PlA) : Array Value := #[.string ⟨#[65]⟩, .int .i64 0, .int .i64 2, .slice (some ⟨P.ri, 0, none⟩) 1 P.cr]
abbrev PlA.lv (P : PlA) : Value := .agg P.lC
structure PlM (w : World) (P : PlA) : Prop where
  sk : Cs w P.sk stkC.toList
  ro : Cs w P.ro (rtC P.sp P.cs).toList
  sp : Cs w P.sp stpL
  li : Cs w P.li P.lC.toList
  ri : Cs w P.ri [.int .i64 0, .int .i64 5, .int .i64 0, .int .i64 0]
  de : Cs w P.de [.int .i64 0, .int .i64 1, .int .i64 3]
  c : 3 ≤ P.cs
theorem PlM.go {w w' : World} {P : PlA} (h : PlM w P) (hb : Below w.heap.size w w') : PlM w' P := ⟨h.sk.go hb, h.ro.go hb, h.sp.go hb, h.li.go hb, h.ri.go hb, h.de.go hb, h.c⟩
structure PcS (w wr : World) (L : LyA) (P : PlA) : Prop where
  b : Below w.heap.size w wr
  x : Blk wr w.heap.size 26 L.cs
  y : Blk wr (w.heap.size + 1) 35 P.cells
theorem PcS.go {w wr w' : World} {L : LyA} {P : PlA} (h : PcS w wr L P) (hb : Below wr.heap.size wr w') : PcS w w' L P := ⟨h.b.trans (hb.mono h.b.size), h.x.same (hb.block _ h.x.lt), h.y.same (hb.block _ h.y.lt)⟩
def PcL (w : World) (L : LyA) (P : PlA) (n : Nat) (k : Nat) (v : Value) (wr : World) : Prop := ∃ j : Nat, v = .int .i64 j ∧ j + k = n ∧ PcS w wr L P
set_option maxRecDepth 100000 in
set_option maxHeartbeats 1600000 in
theorem weight_ok (v : Int) (w : World) (h0 : 0 ≤ v) (h1 : v ≤ 1048576) : Calls Tryz.prog 153 #[.int .i64 v] w fun e w' => e = .returned (.bool true) ∧ w' = w := by
  go_enter Tryz.func153, Tryz.ntmps153
  go_wp2_with fail
  go_ret
  exact ⟨rfl, rfl⟩
set_option maxRecDepth 100000 in
set_option maxHeartbeats 1600000 in
theorem bounds_ok (P : PlA) (w : World) : Calls Tryz.prog 156 #[P.v, .int .i64 0, .int .i64 0] w fun e w' => e = .returned (.bool true) ∧ Below w.heap.size w w' := by
  go_enter Tryz.func156, Tryz.ntmps156
  go_wp2_with fail
  go_ret
  exact ⟨rfl, (by repeat (first | exact Below.refl _ _ | (with_reducible refine Below.drew ?_) | (with_reducible refine below_drewN ?_ _) | (with_reducible refine Below.alloc ?_ (by first | omega | (simp; done) | (simp; omega)) _) | (with_reducible refine Below.setCell ?_ (by first | omega | (simp; done) | (simp; omega)) _) | (refine Below.trans ?_ (Below.mono (by with_reducible assumption) (by first | omega | (simp; done) | (simp; omega))))))⟩
set_option maxRecDepth 100000 in
set_option maxHeartbeats 3200000 in
theorem pchg_ok (L : LyA) (P : PlA) (w : World) : Calls Tryz.prog 88 #[L.v, P.v] w fun e w' => e = .returned (.int .i64 0) ∧ Below w.heap.size w w' := by
  go_enter Tryz.func88, Tryz.ntmps88
  go_upto_region 1 with fail
  refine world_gen (fun w0 => PcS w w0 L P) ⟨(by repeat (first | exact Below.refl _ _ | (with_reducible refine Below.drew ?_) | (with_reducible refine below_drewN ?_ _) | (with_reducible refine Below.alloc ?_ (by first | omega | (simp; done) | (simp; omega)) _) | (with_reducible refine Below.setCell ?_ (by first | omega | (simp; done) | (simp; omega)) _) | (refine Below.trans ?_ (Below.mono (by with_reducible assumption) (by first | omega | (simp; done) | (simp; omega)))))), (by repeat (first | (refine Blk.new' _ _ _ _ ?_; first | rfl | (simp <;> omega)) | refine Blk.al ?_ _ | refine Blk.dr ?_ | refine Blk.drN ?_ _ | refine Blk.far ?_ (by first | omega | (simp; omega)))), (by repeat (first | (refine Blk.new' _ _ _ _ ?_; first | rfl | (simp <;> omega)) | refine Blk.al ?_ _ | refine Blk.dr ?_ | refine Blk.drN ?_ _ | refine Blk.far ?_ (by first | omega | (simp; omega))))⟩ ?_
  rintro w0 hs0
  have HS0 := Lib.hid hs0
  have x0 := (hs0).x.cell 0
  have x1 := (hs0).x.cell 1
  have x2 := (hs0).x.cell 2
  have x3 := (hs0).x.cell 3
  have y0 := (hs0).y.cell 0
  have y1 := (hs0).y.cell 1
  have y2 := (hs0).y.cell 2
  have y3 := (hs0).y.cell 3
  have y4 := (hs0).y.cell 4
  have y5 := (hs0).y.cell 5
  have y6 := (hs0).y.cell 6
  have y7 := (hs0).y.cell 7
  have xl := (hs0).x.lt
  have yl := (hs0).y.lt
  simp at x0 x1 x2 x3 y0 y1 y2 y3 y4 y5 y6 y7
  clear hs0
  go_wp2_with fail
  clear x0 x1 x2 x3 y0 y1 y2 y3 y4 y5 y6 y7 xl yl
  go_loopg [12] 0 (fun k v wr => PcL w L P 0 k v wr)
  case atStart => exact ⟨0, rfl, rfl, HS0.out⟩
  case round =>
    obtain ⟨j, rfl, hj, hs⟩ := hrel
    obtain rfl : j = 0 := by omega
    have HS := Lib.hid hs
    clear hs hj HS0
    go_wp2_with fail
    go_ret
    exact ⟨rfl, HS.out.b⟩
set_option maxRecDepth 100000 in
set_option maxHeartbeats 3200000 in
theorem psizes_ok (L : LyA) (P : PlA) (w : World) (h : LayM w L) (hp : PlM w P) : Calls Tryz.prog 84 #[L.v, P.v] w fun e w' => e = .returned (.int .i64 0) ∧ Below w.heap.size w w' := by
  have H := Lib.hid h
  have HP := Lib.hid hp
  clear h hp
  go_enter Tryz.func84, Tryz.ntmps84
  go_upto_region 1 with fail
  refine world_gen (fun w0 => PcS w w0 L P) ⟨(by repeat (first | exact Below.refl _ _ | (with_reducible refine Below.drew ?_) | (with_reducible refine below_drewN ?_ _) | (with_reducible refine Below.alloc ?_ (by first | omega | (simp; done) | (simp; omega)) _) | (with_reducible refine Below.setCell ?_ (by first | omega | (simp; done) | (simp; omega)) _) | (refine Below.trans ?_ (Below.mono (by with_reducible assumption) (by first | omega | (simp; done) | (simp; omega)))))), (by repeat (first | (refine Blk.new' _ _ _ _ ?_; first | rfl | (simp <;> omega)) | refine Blk.al ?_ _ | refine Blk.dr ?_ | refine Blk.drN ?_ _ | refine Blk.far ?_ (by first | omega | (simp; omega)))), (by repeat (first | (refine Blk.new' _ _ _ _ ?_; first | rfl | (simp <;> omega)) | refine Blk.al ?_ _ | refine Blk.dr ?_ | refine Blk.drN ?_ _ | refine Blk.far ?_ (by first | omega | (simp; omega))))⟩ ?_
  rintro w0 hs0
  have HS0 := Lib.hid hs0
  have x0 := (hs0).x.cell 0
  have x1 := (hs0).x.cell 1
  have x2 := (hs0).x.cell 2
  have x3 := (hs0).x.cell 3
  have y0 := (hs0).y.cell 0
  have y1 := (hs0).y.cell 1
  have y2 := (hs0).y.cell 2
  have y3 := (hs0).y.cell 3
  have y4 := (hs0).y.cell 4
  have y5 := (hs0).y.cell 5
  have y6 := (hs0).y.cell 6
  have y7 := (hs0).y.cell 7
  have xl := (hs0).x.lt
  have yl := (hs0).y.lt
  simp at x0 x1 x2 x3 y0 y1 y2 y3 y4 y5 y6 y7
  clear hs0
  go_wp2_with fail
  refine (lcheck_ok L _ (H.out.go HS0.out.b)).mono ?_
  rintro e w1 ⟨rfl, hb1⟩
  have HS1 := Lib.hid (HS0.out.go hb1)
  clear hb1 HS0
  clear x0 x1 x2 x3 y0 y1 y2 y3 y4 y5 y6 y7 xl yl
  have x0 := (HS1.out).x.cell 0
  have x1 := (HS1.out).x.cell 1
  have x2 := (HS1.out).x.cell 2
  have x3 := (HS1.out).x.cell 3
  have y0 := (HS1.out).y.cell 0
  have y1 := (HS1.out).y.cell 1
  have y2 := (HS1.out).y.cell 2
  have y3 := (HS1.out).y.cell 3
  have y4 := (HS1.out).y.cell 4
  have y5 := (HS1.out).y.cell 5
  have y6 := (HS1.out).y.cell 6
  have y7 := (HS1.out).y.cell 7
  have xl := (HS1.out).x.lt
  have yl := (HS1.out).y.lt
  simp at x0 x1 x2 x3 y0 y1 y2 y3 y4 y5 y6 y7
  go_wp2_with fail
  clear x0 x1 x2 x3 y0 y1 y2 y3 y4 y5 y6 y7 xl yl
  go_loopg [43] 1 (fun k v wr => PcL w L P 1 k v wr)
  case atStart => exact ⟨0, rfl, rfl, HS1.out⟩
  case round =>
    obtain ⟨j, rfl, hj, hs⟩ := hrel
    have HS := Lib.hid hs
    have Hj := Lib.hid hj
    clear hs hj HS1
    by_cases hlt : j < 1
    · obtain rfl : j = 0 := by omega
      have hpm := HP.out.go HS.out.b
      have d0 : wr.cell? ⟨P.li, 0, none⟩ = some (.string ⟨#[65]⟩) := hpm.li.c 0 _ rfl
      have d1 : wr.cell? ⟨P.li, 1, none⟩ = some (.int .i64 0) := hpm.li.c 1 _ rfl
      have d2 : wr.cell? ⟨P.li, 2, none⟩ = some (.int .i64 2) := hpm.li.c 2 _ rfl
      have d3 : wr.cell? ⟨P.li, 3, none⟩ = some (.slice (some ⟨P.ri, 0, none⟩) 1 P.cr) := hpm.li.c 3 _ rfl
      have dl := hpm.li.lt
      clear hpm
      have HS2 := Lib.hid (HS.out.go (w' := wr.alloc (.cells P.lC 167)) ((Below.refl _ _).alloc (Nat.le_refl _) _))
      go_wp2_with fail
      go_roundg 0
      case measure => have := Hj.out; omega
      case rel => exact ⟨1, rfl, by have := Hj.out; omega, HS2.out⟩
    · obtain rfl : j = 1 := by have := Hj.out; omega
      have x0 := (HS.out).x.cell 0
      have x1 := (HS.out).x.cell 1
      have x2 := (HS.out).x.cell 2
      have x3 := (HS.out).x.cell 3
      have y0 := (HS.out).y.cell 0
      have y1 := (HS.out).y.cell 1
      have y2 := (HS.out).y.cell 2
      have y3 := (HS.out).y.cell 3
      have y4 := (HS.out).y.cell 4
      have y5 := (HS.out).y.cell 5
      have y6 := (HS.out).y.cell 6
      have y7 := (HS.out).y.cell 7
      have xl := (HS.out).x.lt
      have yl := (HS.out).y.lt
      simp at x0 x1 x2 x3 y0 y1 y2 y3 y4 y5 y6 y7
      go_wp2_with fail
      go_ret
      exact ⟨rfl, HS.out.b⟩
set_option maxRecDepth 100000 in
set_option maxHeartbeats 3200000 in
theorem proutes_ok (L : LyA) (P : PlA) (w : World) (h : LayM w L) (hp : PlM w P) : Calls Tryz.prog 86 #[L.v, P.v] w fun e w' => e = .returned (.int .i64 0) ∧ Below w.heap.size w w' := by
  have H := Lib.hid h
  have HP := Lib.hid hp
  clear h hp
  go_enter Tryz.func86, Tryz.ntmps86
  go_upto_region 1 with fail
  refine world_gen (fun w0 => PcS w w0 L P) ⟨(by repeat (first | exact Below.refl _ _ | (with_reducible refine Below.drew ?_) | (with_reducible refine below_drewN ?_ _) | (with_reducible refine Below.alloc ?_ (by first | omega | (simp; done) | (simp; omega)) _) | (with_reducible refine Below.setCell ?_ (by first | omega | (simp; done) | (simp; omega)) _) | (refine Below.trans ?_ (Below.mono (by with_reducible assumption) (by first | omega | (simp; done) | (simp; omega)))))), (by repeat (first | (refine Blk.new' _ _ _ _ ?_; first | rfl | (simp <;> omega)) | refine Blk.al ?_ _ | refine Blk.dr ?_ | refine Blk.drN ?_ _ | refine Blk.far ?_ (by first | omega | (simp; omega)))), (by repeat (first | (refine Blk.new' _ _ _ _ ?_; first | rfl | (simp <;> omega)) | refine Blk.al ?_ _ | refine Blk.dr ?_ | refine Blk.drN ?_ _ | refine Blk.far ?_ (by first | omega | (simp; omega))))⟩ ?_
  rintro w0 hs0
  have HS0 := Lib.hid hs0
  have x0 := (hs0).x.cell 0
  have x1 := (hs0).x.cell 1
  have x2 := (hs0).x.cell 2
  have x3 := (hs0).x.cell 3
  have y0 := (hs0).y.cell 0
  have y1 := (hs0).y.cell 1
  have y2 := (hs0).y.cell 2
  have y3 := (hs0).y.cell 3
  have y4 := (hs0).y.cell 4
  have y5 := (hs0).y.cell 5
  have y6 := (hs0).y.cell 6
  have y7 := (hs0).y.cell 7
  have xl := (hs0).x.lt
  have yl := (hs0).y.lt
  simp at x0 x1 x2 x3 y0 y1 y2 y3 y4 y5 y6 y7
  clear hs0
  go_wp2_with fail
  clear x0 x1 x2 x3 y0 y1 y2 y3 y4 y5 y6 y7 xl yl
  go_loopg [11] 1 (fun k v wr => PcL w L P 1 k v wr)
  case atStart => exact ⟨0, rfl, rfl, HS0.out⟩
  case round =>
    obtain ⟨j, rfl, hj, hs⟩ := hrel
    have HS := Lib.hid hs
    have Hj := Lib.hid hj
    clear hs hj HS0
    by_cases hlt : j < 1
    · obtain rfl : j = 0 := by omega
      have hpm := HP.out.go HS.out.b
      have d0 : wr.cell? ⟨P.ro, 0, none⟩ = some (.slice (some ⟨P.sp, 0, none⟩) 3 P.cs) := hpm.ro.c 0 _ rfl
      have d1 : wr.cell? ⟨P.ro, 1, none⟩ = some (.int .i64 0) := hpm.ro.c 1 _ rfl
      have dl := hpm.ro.lt
      clear hpm
      have x0 := (HS.out).x.cell 0
      have x1 := (HS.out).x.cell 1
      have x2 := (HS.out).x.cell 2
      have x3 := (HS.out).x.cell 3
      have y0 := (HS.out).y.cell 0
      have y1 := (HS.out).y.cell 1
      have y2 := (HS.out).y.cell 2
      have y3 := (HS.out).y.cell 3
      have y4 := (HS.out).y.cell 4
      have y5 := (HS.out).y.cell 5
      have y6 := (HS.out).y.cell 6
      have y7 := (HS.out).y.cell 7
      have xl := (HS.out).x.lt
      have yl := (HS.out).y.lt
      simp at x0 x1 x2 x3 y0 y1 y2 y3 y4 y5 y6 y7
      go_wp2_with fail
      have HS2 := Lib.hid (HS.out.go (w' := wr.alloc (.cells (rtC P.sp P.cs) 44)) ((Below.refl _ _).alloc (Nat.le_refl _) _))
      have HP2 := Lib.hid (HP.out.go HS2.out.b)
      have HL2 := Lib.hid (H.out.go HS2.out.b)
      refine (rcheck_ok L P.sp P.cs _ HL2.out HP2.out.sp HP2.out.c).mono ?_
      rintro e w3 ⟨rfl, hb3⟩
      have HS3 := Lib.hid (HS2.out.go hb3)
      clear hb3 HS2 HP2 HL2 d0 d1
      clear x0 x1 x2 x3 y0 y1 y2 y3 y4 y5 y6 y7 xl yl
      go_wp2_with fail
      go_roundg 0
      case measure => have := Hj.out; omega
      case rel => exact ⟨1, rfl, by have := Hj.out; omega, HS3.out⟩
    · obtain rfl : j = 1 := by have := Hj.out; omega
      go_wp2_with fail
      go_ret
      exact ⟨rfl, HS.out.b⟩
set_option maxRecDepth 100000 in
set_option maxHeartbeats 3200000 in
theorem pdem_ok (L : LyA) (P : PlA) (w : World) (hp : PlM w P) : Calls Tryz.prog 91 #[L.v, P.v] w fun e w' => e = .returned (.int .i64 0) ∧ Below w.heap.size w w' := by
  have HP := Lib.hid hp
  clear hp
  go_enter Tryz.func91, Tryz.ntmps91
  go_upto_region 1 with fail
  refine world_gen (fun w0 => PcS w w0 L P) ⟨(by repeat (first | exact Below.refl _ _ | (with_reducible refine Below.drew ?_) | (with_reducible refine below_drewN ?_ _) | (with_reducible refine Below.alloc ?_ (by first | omega | (simp; done) | (simp; omega)) _) | (with_reducible refine Below.setCell ?_ (by first | omega | (simp; done) | (simp; omega)) _) | (refine Below.trans ?_ (Below.mono (by with_reducible assumption) (by first | omega | (simp; done) | (simp; omega)))))), (by repeat (first | (refine Blk.new' _ _ _ _ ?_; first | rfl | (simp <;> omega)) | refine Blk.al ?_ _ | refine Blk.dr ?_ | refine Blk.drN ?_ _ | refine Blk.far ?_ (by first | omega | (simp; omega)))), (by repeat (first | (refine Blk.new' _ _ _ _ ?_; first | rfl | (simp <;> omega)) | refine Blk.al ?_ _ | refine Blk.dr ?_ | refine Blk.drN ?_ _ | refine Blk.far ?_ (by first | omega | (simp; omega))))⟩ ?_
  rintro w0 hs0
  have HS0 := Lib.hid hs0
  have x0 := (hs0).x.cell 0
  have x1 := (hs0).x.cell 1
  have x2 := (hs0).x.cell 2
  have x3 := (hs0).x.cell 3
  have y0 := (hs0).y.cell 0
  have y1 := (hs0).y.cell 1
  have y2 := (hs0).y.cell 2
  have y3 := (hs0).y.cell 3
  have y4 := (hs0).y.cell 4
  have y5 := (hs0).y.cell 5
  have y6 := (hs0).y.cell 6
  have y7 := (hs0).y.cell 7
  have xl := (hs0).x.lt
  have yl := (hs0).y.lt
  simp at x0 x1 x2 x3 y0 y1 y2 y3 y4 y5 y6 y7
  clear hs0
  go_wp2_with fail
  clear x0 x1 x2 x3 y0 y1 y2 y3 y4 y5 y6 y7 xl yl
  go_loopg [10] 1 (fun k v wr => PcL w L P 1 k v wr)
  case atStart => exact ⟨0, rfl, rfl, HS0.out⟩
  case round =>
    obtain ⟨j, rfl, hj, hs⟩ := hrel
    have HS := Lib.hid hs
    have Hj := Lib.hid hj
    clear hs hj HS0
    by_cases hlt : j < 1
    · obtain rfl : j = 0 := by omega
      have hpm := HP.out.go HS.out.b
      have d0 : wr.cell? ⟨P.de, 0, none⟩ = some (.int .i64 0) := hpm.de.c 0 _ rfl
      have d1 : wr.cell? ⟨P.de, 1, none⟩ = some (.int .i64 1) := hpm.de.c 1 _ rfl
      have d2 : wr.cell? ⟨P.de, 2, none⟩ = some (.int .i64 3) := hpm.de.c 2 _ rfl
      have dl := hpm.de.lt
      clear hpm
      have x0 := (HS.out).x.cell 0
      have x1 := (HS.out).x.cell 1
      have x2 := (HS.out).x.cell 2
      have x3 := (HS.out).x.cell 3
      have y0 := (HS.out).y.cell 0
      have y1 := (HS.out).y.cell 1
      have y2 := (HS.out).y.cell 2
      have y3 := (HS.out).y.cell 3
      have y4 := (HS.out).y.cell 4
      have y5 := (HS.out).y.cell 5
      have y6 := (HS.out).y.cell 6
      have y7 := (HS.out).y.cell 7
      have xl := (HS.out).x.lt
      have yl := (HS.out).y.lt
      simp at x0 x1 x2 x3 y0 y1 y2 y3 y4 y5 y6 y7
      have HS2 := Lib.hid (HS.out.go (w' := wr.alloc (.cells #[.int .i64 0, .int .i64 1, .int .i64 3] 85)) ((Below.refl _ _).alloc (Nat.le_refl _) _))
      go_wp2_with fail
      go_roundg 0
      case measure => have := Hj.out; omega
      case rel => exact ⟨1, rfl, by have := Hj.out; omega, HS2.out⟩
    · obtain rfl : j = 1 := by have := Hj.out; omega
      go_wp2_with fail
      go_ret
      exact ⟨rfl, HS.out.b⟩
end Go.Proofs.YtinjdcefagaaeaaGreatDoor
namespace Go.Proofs.YtinjdcefagaaeaaGreatDoor
open Go.RowKit
/-! plan.Check -/
set_option maxRecDepth 100000 in
set_option maxHeartbeats 3200000 in
theorem ptrn_ok (L : LyA) (P : PlA) (w : World) : Calls Tryz.prog 89 #[L.v, P.v] w fun e w' => e = .returned (.int .i64 0) ∧ Below w.heap.size w w' := by
  go_enter Tryz.func89, Tryz.ntmps89
  go_upto_region 1 with fail
  refine world_gen (fun w0 => PcS w w0 L P) ⟨(by repeat (first | exact Below.refl _ _ | (with_reducible refine Below.drew ?_) | (with_reducible refine below_drewN ?_ _) | (with_reducible refine Below.alloc ?_ (by first | omega | (simp; done) | (simp; omega)) _) | (with_reducible refine Below.setCell ?_ (by first | omega | (simp; done) | (simp; omega)) _) | (refine Below.trans ?_ (Below.mono (by with_reducible assumption) (by first | omega | (simp; done) | (simp; omega)))))), (by repeat (first | (refine Blk.new' _ _ _ _ ?_; first | rfl | (simp <;> omega)) | refine Blk.al ?_ _ | refine Blk.dr ?_ | refine Blk.drN ?_ _ | refine Blk.far ?_ (by first | omega | (simp; omega)))), (by repeat (first | (refine Blk.new' _ _ _ _ ?_; first | rfl | (simp <;> omega)) | refine Blk.al ?_ _ | refine Blk.dr ?_ | refine Blk.drN ?_ _ | refine Blk.far ?_ (by first | omega | (simp; omega))))⟩ ?_
  rintro w0 hs0
  have HS0 := Lib.hid hs0
  have x0 := (hs0).x.cell 0
  have x1 := (hs0).x.cell 1
  have x2 := (hs0).x.cell 2
  have x3 := (hs0).x.cell 3
  have y0 := (hs0).y.cell 0
  have y1 := (hs0).y.cell 1
  have y2 := (hs0).y.cell 2
  have y3 := (hs0).y.cell 3
  have y4 := (hs0).y.cell 4
  have y5 := (hs0).y.cell 5
  have y6 := (hs0).y.cell 6
  have y7 := (hs0).y.cell 7
  have xl := (hs0).x.lt
  have yl := (hs0).y.lt
  simp at x0 x1 x2 x3 y0 y1 y2 y3 y4 y5 y6 y7
  clear hs0
  go_wp2_with fail
  clear x0 x1 x2 x3 y0 y1 y2 y3 y4 y5 y6 y7 xl yl
  go_loopg [12] 0 (fun k v wr => PcL w L P 0 k v wr)
  case atStart => exact ⟨0, rfl, rfl, HS0.out⟩
  case round =>
    obtain ⟨j, rfl, hj, hs⟩ := hrel
    obtain rfl : j = 0 := by omega
    have HS := Lib.hid hs
    clear hs hj HS0
    go_wp2_with fail
    go_ret
    exact ⟨rfl, HS.out.b⟩
set_option maxRecDepth 100000 in
set_option maxHeartbeats 3200000 in
theorem psyn_ok (L : LyA) (P : PlA) (w : World) : Calls Tryz.prog 90 #[L.v, P.v] w fun e w' => e = .returned (.int .i64 0) ∧ Below w.heap.size w w' := by
  go_enter Tryz.func90, Tryz.ntmps90
  go_upto_region 1 with fail
  refine world_gen (fun w0 => PcS w w0 L P) ⟨(by repeat (first | exact Below.refl _ _ | (with_reducible refine Below.drew ?_) | (with_reducible refine below_drewN ?_ _) | (with_reducible refine Below.alloc ?_ (by first | omega | (simp; done) | (simp; omega)) _) | (with_reducible refine Below.setCell ?_ (by first | omega | (simp; done) | (simp; omega)) _) | (refine Below.trans ?_ (Below.mono (by with_reducible assumption) (by first | omega | (simp; done) | (simp; omega)))))), (by repeat (first | (refine Blk.new' _ _ _ _ ?_; first | rfl | (simp <;> omega)) | refine Blk.al ?_ _ | refine Blk.dr ?_ | refine Blk.drN ?_ _ | refine Blk.far ?_ (by first | omega | (simp; omega)))), (by repeat (first | (refine Blk.new' _ _ _ _ ?_; first | rfl | (simp <;> omega)) | refine Blk.al ?_ _ | refine Blk.dr ?_ | refine Blk.drN ?_ _ | refine Blk.far ?_ (by first | omega | (simp; omega))))⟩ ?_
  rintro w0 hs0
  have HS0 := Lib.hid hs0
  have x0 := (hs0).x.cell 0
  have x1 := (hs0).x.cell 1
  have x2 := (hs0).x.cell 2
  have x3 := (hs0).x.cell 3
  have y0 := (hs0).y.cell 0
  have y1 := (hs0).y.cell 1
  have y2 := (hs0).y.cell 2
  have y3 := (hs0).y.cell 3
  have y4 := (hs0).y.cell 4
  have y5 := (hs0).y.cell 5
  have y6 := (hs0).y.cell 6
  have y7 := (hs0).y.cell 7
  have xl := (hs0).x.lt
  have yl := (hs0).y.lt
  simp at x0 x1 x2 x3 y0 y1 y2 y3 y4 y5 y6 y7
  clear hs0
  go_wp2_with fail
  clear x0 x1 x2 x3 y0 y1 y2 y3 y4 y5 y6 y7 xl yl
  go_loopg [10] 0 (fun k v wr => PcL w L P 0 k v wr)
  case atStart => exact ⟨0, rfl, rfl, HS0.out⟩
  case round =>
    obtain ⟨j, rfl, hj, hs⟩ := hrel
    obtain rfl : j = 0 := by omega
    have HS := Lib.hid hs
    clear hs hj HS0
    go_wp2_with fail
    go_ret
    exact ⟨rfl, HS.out.b⟩
def IfL (w : World) (k : Nat) (v : Value) (wr : World) : Prop := k = 0 ∧ v = .int .i64 0 ∧ wr = w
set_option maxRecDepth 100000 in
set_option maxHeartbeats 1600000 in
theorem idxS_no (A : Option Addr) (c : Nat) (f : Value) (w : World) : Calls Tryz.prog 142 #[.slice A 0 c, f] w fun e w' => e = .returned (.int .i64 (-1)) ∧ w' = w := by
  go_enter Tryz.func142, Tryz.ntmps142
  go_wp2_with fail
  go_loopg [8] 0 (fun k v wr => IfL w k v wr)
  case atStart => exact ⟨rfl, rfl, rfl⟩
  case round =>
    obtain ⟨hk, rfl, hw⟩ := hrel
    obtain rfl := hw
    go_wp2_with fail
    go_ret
    exact ⟨rfl, rfl⟩
set_option maxRecDepth 100000 in
set_option maxHeartbeats 1600000 in
theorem conS_no (A : Option Addr) (c : Nat) (f : Value) (w : World) : Calls Tryz.prog 147 #[.slice A 0 c, f] w fun e w' => e = .returned (.bool false) ∧ w' = w := by
  go_enter Tryz.func147, Tryz.ntmps147
  go_wp2_with fail
  refine (idxS_no A c f _).mono ?_
  rintro e w2 ⟨rfl, hw⟩
  obtain rfl := hw
  go_wp2_with fail
  go_ret
  exact ⟨rfl, rfl⟩
set_option maxRecDepth 100000 in
set_option maxHeartbeats 1600000 in
theorem idxL_no (A : Option Addr) (c : Nat) (f : Value) (w : World) : Calls Tryz.prog 145 #[.slice A 0 c, f] w fun e w' => e = .returned (.int .i64 (-1)) ∧ w' = w := by
  go_enter Tryz.func145, Tryz.ntmps145
  go_wp2_with fail
  go_loopg [8] 0 (fun k v wr => IfL w k v wr)
  case atStart => exact ⟨rfl, rfl, rfl⟩
  case round =>
    obtain ⟨hk, rfl, hw⟩ := hrel
    obtain rfl := hw
    go_wp2_with fail
    go_ret
    exact ⟨rfl, rfl⟩
set_option maxRecDepth 100000 in
set_option maxHeartbeats 1600000 in
theorem conL_no (A : Option Addr) (c : Nat) (f : Value) (w : World) : Calls Tryz.prog 151 #[.slice A 0 c, f] w fun e w' => e = .returned (.bool false) ∧ w' = w := by
  go_enter Tryz.func151, Tryz.ntmps151
  go_wp2_with fail
  refine (idxL_no A c f _).mono ?_
  rintro e w2 ⟨rfl, hw⟩
  obtain rfl := hw
  go_wp2_with fail
  go_ret
  exact ⟨rfl, rfl⟩
set_option maxRecDepth 100000 in
set_option maxHeartbeats 6400000 in
theorem pstk_ok (L : LyA) (P : PlA) (w : World) (hp : PlM w P) : Calls Tryz.prog 85 #[L.v, P.v] w fun e w' => e = .returned (.int .i64 0) ∧ Below w.heap.size w w' := by
  have HP := Lib.hid hp
  clear hp
  go_enter Tryz.func85, Tryz.ntmps85
  go_upto_region 1 with fail
  refine world_gen (fun w0 => PcS w w0 L P) ⟨(by repeat (first | exact Below.refl _ _ | (with_reducible refine Below.drew ?_) | (with_reducible refine below_drewN ?_ _) | (with_reducible refine Below.alloc ?_ (by first | omega | (simp; done) | (simp; omega)) _) | (with_reducible refine Below.setCell ?_ (by first | omega | (simp; done) | (simp; omega)) _) | (refine Below.trans ?_ (Below.mono (by with_reducible assumption) (by first | omega | (simp; done) | (simp; omega)))))), (by repeat (first | (refine Blk.new' _ _ _ _ ?_; first | rfl | (simp <;> omega)) | refine Blk.al ?_ _ | refine Blk.dr ?_ | refine Blk.drN ?_ _ | refine Blk.far ?_ (by first | omega | (simp; omega)))), (by repeat (first | (refine Blk.new' _ _ _ _ ?_; first | rfl | (simp <;> omega)) | refine Blk.al ?_ _ | refine Blk.dr ?_ | refine Blk.drN ?_ _ | refine Blk.far ?_ (by first | omega | (simp; omega))))⟩ ?_
  rintro w0 hs0
  have HS0 := Lib.hid hs0
  have x0 := (hs0).x.cell 0
  have x1 := (hs0).x.cell 1
  have x2 := (hs0).x.cell 2
  have x3 := (hs0).x.cell 3
  have y0 := (hs0).y.cell 0
  have y1 := (hs0).y.cell 1
  have y2 := (hs0).y.cell 2
  have y3 := (hs0).y.cell 3
  have y4 := (hs0).y.cell 4
  have y5 := (hs0).y.cell 5
  have y6 := (hs0).y.cell 6
  have y7 := (hs0).y.cell 7
  have xl := (hs0).x.lt
  have yl := (hs0).y.lt
  simp at x0 x1 x2 x3 y0 y1 y2 y3 y4 y5 y6 y7
  clear hs0
  go_wp2_with fail
  clear x0 x1 x2 x3 y0 y1 y2 y3 y4 y5 y6 y7 xl yl
  go_loopg [10] 1 (fun k v wr => PcL w L P 1 k v wr)
  case atStart => exact ⟨0, rfl, rfl, HS0.out⟩
  case round =>
    obtain ⟨j, rfl, hj, hs⟩ := hrel
    have HS := Lib.hid hs
    have Hj := Lib.hid hj
    clear hs hj HS0
    by_cases hlt : j < 1
    · obtain rfl : j = 0 := by omega
      have hpm := HP.out.go HS.out.b
      have d0 : wr.cell? ⟨P.sk, 0, none⟩ = some (.string ⟨#[83]⟩) := hpm.sk.c 0 _ rfl
      have d1 : wr.cell? ⟨P.sk, 1, none⟩ = some (.int .i64 5) := hpm.sk.c 1 _ rfl
      have d2 : wr.cell? ⟨P.sk, 2, none⟩ = some (.int .i64 20000) := hpm.sk.c 2 _ rfl
      have d3 : wr.cell? ⟨P.sk, 3, none⟩ = some (.int .i64 500) := hpm.sk.c 3 _ rfl
      have d4 : wr.cell? ⟨P.sk, 4, none⟩ = some (.int .i64 500) := hpm.sk.c 4 _ rfl
      have dl := hpm.sk.lt
      clear hpm
      go_upto_region 4 with fail
      refine world_gen (fun w1 => PcS w w1 L P ∧ Blk w1 wr.heap.size 46 stkC) ⟨HS.out.go ((Below.refl _ _).alloc (Nat.le_refl _) _), (by repeat (first | (refine Blk.new' _ _ _ _ ?_; first | rfl | (simp <;> omega)) | refine Blk.al ?_ _ | refine Blk.dr ?_ | refine Blk.drN ?_ _ | refine Blk.far ?_ (by first | omega | (simp; omega))))⟩ ?_
      rintro w1 ⟨hs1, hz1⟩
      have HS1 := Lib.hid hs1
      have HZ1 := Lib.hid hz1
      have z0 := hz1.cell 0
      have z1 := hz1.cell 1
      have z2 := hz1.cell 2
      have z3 := hz1.cell 3
      have z4 := hz1.cell 4
      have x0 := (hs1).x.cell 0
      have x1 := (hs1).x.cell 1
      have x2 := (hs1).x.cell 2
      have x3 := (hs1).x.cell 3
      have y0 := (hs1).y.cell 0
      have y1 := (hs1).y.cell 1
      have y2 := (hs1).y.cell 2
      have y3 := (hs1).y.cell 3
      have y4 := (hs1).y.cell 4
      have y5 := (hs1).y.cell 5
      have y6 := (hs1).y.cell 6
      have y7 := (hs1).y.cell 7
      have xl := (hs1).x.lt
      have yl := (hs1).y.lt
      simp at x0 x1 x2 x3 y0 y1 y2 y3 y4 y5 y6 y7
      simp [stkC] at z0 z1 z2 z3 z4
      clear hs1 hz1 d0 d1 d2 d3 d4 HS
      go_wp2_with fail
      refine (name1_any 83 _ rfl).mono ?_
      rintro e w2 ⟨rfl, hw⟩
      obtain rfl := hw
      go_wp2_with fail
      refine (conS_no _ _ _ _).mono ?_
      rintro e w3 ⟨rfl, hw⟩
      obtain rfl := hw
      go_wp2_with fail
      refine (dchk_ex _).mono ?_
      rintro e w4 ⟨rfl, hb4⟩
      have HS4 := Lib.hid (HS1.out.go hb4)
      clear hb4 HS1 HZ1 z0 z1 z2 z3 z4
      clear x0 x1 x2 x3 y0 y1 y2 y3 y4 y5 y6 y7 xl yl
      go_wp2_with fail
      go_roundg 0
      case measure => have := Hj.out; omega
      case rel => exact ⟨1, rfl, by have := Hj.out; omega, HS4.out⟩
    · obtain rfl : j = 1 := by have := Hj.out; omega
      go_wp2_with fail
      go_ret
      exact ⟨rfl, HS.out.b⟩
set_option maxRecDepth 100000 in
set_option maxHeartbeats 6400000 in
theorem pride_ok (L : LyA) (P : PlA) (w : World) (h : LayM w L) (hp : PlM w P) : Calls Tryz.prog 154 #[L.v, P.v, P.lv, .int .i64 0] w fun e w' => e = .returned (.int .i64 0) ∧ Below w.heap.size w w' := by
  have H := Lib.hid h
  have HP := Lib.hid hp
  clear h hp
  go_enter Tryz.func154, Tryz.ntmps154
  go_upto_region 1 with fail
  refine world_gen (fun w0 => PcS w w0 L P ∧ Blk w0 (w.heap.size + 1 + 1) 167 P.lC) ⟨⟨(by repeat (first | exact Below.refl _ _ | (with_reducible refine Below.drew ?_) | (with_reducible refine below_drewN ?_ _) | (with_reducible refine Below.alloc ?_ (by first | omega | (simp; done) | (simp; omega)) _) | (with_reducible refine Below.setCell ?_ (by first | omega | (simp; done) | (simp; omega)) _) | (refine Below.trans ?_ (Below.mono (by with_reducible assumption) (by first | omega | (simp; done) | (simp; omega)))))), (by repeat (first | (refine Blk.new' _ _ _ _ ?_; first | rfl | (simp <;> omega)) | refine Blk.al ?_ _ | refine Blk.dr ?_ | refine Blk.drN ?_ _ | refine Blk.far ?_ (by first | omega | (simp; omega)))), (by repeat (first | (refine Blk.new' _ _ _ _ ?_; first | rfl | (simp <;> omega)) | refine Blk.al ?_ _ | refine Blk.dr ?_ | refine Blk.drN ?_ _ | refine Blk.far ?_ (by first | omega | (simp; omega))))⟩, (by repeat (first | (refine Blk.new' _ _ _ _ ?_; first | rfl | (simp <;> omega)) | refine Blk.al ?_ _ | refine Blk.dr ?_ | refine Blk.drN ?_ _ | refine Blk.far ?_ (by first | omega | (simp; omega))))⟩ ?_
  rintro w0 ⟨hs0, hl0⟩
  have HS0 := Lib.hid hs0
  have HL0 := Lib.hid hl0
  have hpm := HP.out.go hs0.b
  have d0 : w0.cell? ⟨P.ri, 0, none⟩ = some (.int .i64 0) := hpm.ri.c 0 _ rfl
  have d1 : w0.cell? ⟨P.ri, 1, none⟩ = some (.int .i64 5) := hpm.ri.c 1 _ rfl
  have d2 : w0.cell? ⟨P.ri, 2, none⟩ = some (.int .i64 0) := hpm.ri.c 2 _ rfl
  have d3 : w0.cell? ⟨P.ri, 3, none⟩ = some (.int .i64 0) := hpm.ri.c 3 _ rfl
  have dl := hpm.ri.lt
  have l3 := hl0.cell 3
  have ll := hl0.lt
  simp at l3
  clear hs0 hl0 hpm
  generalize hB2 : w.heap.size + 1 + 1 = B2 at *
  go_upto_region 2 with fail
  refine world_gen (fun w1 => PcS w w1 L P ∧ Blk w1 B2 167 P.lC ∧ Blk w1 w0.heap.size 164 #[.int .i64 0, .int .i64 5, .int .i64 0, .int .i64 0]) ⟨HS0.out.go ((Below.refl _ _).alloc (Nat.le_refl _) _), (by have hblk := HL0.out; repeat (first | exact hblk | refine Blk.al ?_ _ | refine Blk.dr ?_ | refine Blk.drN ?_ _)), (by repeat (first | (refine Blk.new' _ _ _ _ ?_; first | rfl | (simp <;> omega)) | refine Blk.al ?_ _ | refine Blk.dr ?_ | refine Blk.drN ?_ _ | refine Blk.far ?_ (by first | omega | (simp; omega))))⟩ ?_
  rintro w1 ⟨hs1, hl1, hr1⟩
  have HS1 := Lib.hid hs1
  have HL1 := Lib.hid hl1
  have HR1 := Lib.hid hr1
  have r0 := hr1.cell 0
  have r1 := hr1.cell 1
  have r2 := hr1.cell 2
  have r3 := hr1.cell 3
  have x0 := (hs1).x.cell 0
  have x1 := (hs1).x.cell 1
  have x2 := (hs1).x.cell 2
  have x3 := (hs1).x.cell 3
  have y0 := (hs1).y.cell 0
  have y1 := (hs1).y.cell 1
  have y2 := (hs1).y.cell 2
  have y3 := (hs1).y.cell 3
  have y4 := (hs1).y.cell 4
  have y5 := (hs1).y.cell 5
  have y6 := (hs1).y.cell 6
  have y7 := (hs1).y.cell 7
  have xl := (hs1).x.lt
  have yl := (hs1).y.lt
  simp at x0 x1 x2 x3 y0 y1 y2 y3 y4 y5 y6 y7
  simp at r0 r1 r2 r3
  clear hs1 hl1 hr1 HS0 HL0 d0 d1 d2 d3 l3 ll dl
  generalize w0.heap.size = Z at *
  go_wp2_with fail
  refine (bounds_ok P _).mono ?_
  rintro e w2 ⟨rfl, hb2⟩
  have HS2 := Lib.hid (HS1.out.go hb2)
  have HL2 := Lib.hid (HL1.out.same (hb2.block _ HL1.out.lt))
  have HR2 := Lib.hid (HR1.out.same (hb2.block _ HR1.out.lt))
  clear hb2 HS1 HL1 HR1 r0 r1 r2 r3
  clear x0 x1 x2 x3 y0 y1 y2 y3 y4 y5 y6 y7 xl yl
  have x0 := (HS2.out).x.cell 0
  have x1 := (HS2.out).x.cell 1
  have x2 := (HS2.out).x.cell 2
  have x3 := (HS2.out).x.cell 3
  have y0 := (HS2.out).y.cell 0
  have y1 := (HS2.out).y.cell 1
  have y2 := (HS2.out).y.cell 2
  have y3 := (HS2.out).y.cell 3
  have y4 := (HS2.out).y.cell 4
  have y5 := (HS2.out).y.cell 5
  have y6 := (HS2.out).y.cell 6
  have y7 := (HS2.out).y.cell 7
  have xl := (HS2.out).x.lt
  have yl := (HS2.out).y.lt
  simp at x0 x1 x2 x3 y0 y1 y2 y3 y4 y5 y6 y7
  have r0 := HR2.out.cell 0
  have r1 := HR2.out.cell 1
  have r2 := HR2.out.cell 2
  have r3 := HR2.out.cell 3
  have rl := HR2.out.lt
  have l1 := HL2.out.cell 1
  have l3 := HL2.out.cell 3
  have ll := HL2.out.lt
  have hpm := HP.out.go HS2.out.b
  have d0 : w2.cell? ⟨P.ro, 0, none⟩ = some (.slice (some ⟨P.sp, 0, none⟩) 3 P.cs) := hpm.ro.c 0 _ rfl
  have d1 : w2.cell? ⟨P.ro, 1, none⟩ = some (.int .i64 0) := hpm.ro.c 1 _ rfl
  have dl := hpm.ro.lt
  have s0 : w2.cell? ⟨P.sk, 0, none⟩ = some (.string ⟨#[83]⟩) := hpm.sk.c 0 _ rfl
  have s1 : w2.cell? ⟨P.sk, 1, none⟩ = some (.int .i64 5) := hpm.sk.c 1 _ rfl
  have s2 : w2.cell? ⟨P.sk, 2, none⟩ = some (.int .i64 20000) := hpm.sk.c 2 _ rfl
  have s3 : w2.cell? ⟨P.sk, 3, none⟩ = some (.int .i64 500) := hpm.sk.c 3 _ rfl
  have s4 : w2.cell? ⟨P.sk, 4, none⟩ = some (.int .i64 500) := hpm.sk.c 4 _ rfl
  have sl := hpm.sk.lt
  have HPM := Lib.hid hpm
  have HLM := Lib.hid (H.out.go HS2.out.b)
  simp at r0 r1 r2 r3 l1 l3
  clear hpm
  go_wp2_with fail
  refine wp_region_overL (by kernel_rfl) (by kernel_rfl) ?_
  repeat (go_big_quiet_step ((go_at_call 166; exact callsOver (fits_ok L P.sp P.cs _ (HLM.out.go (over_below _ _)) (HPM.out.go (over_below _ _)).sp HPM.out.c))))
  refine wpQuiet_nil ?_
  intro w3 hb3
  have HS3 := Lib.hid (HS2.out.go hb3)
  clear hb3 HS2 HL2 HR2 HPM HLM r0 r1 r2 r3 rl l1 l3 ll d0 d1 dl s0 s1 s2 s3 s4 sl
  clear x0 x1 x2 x3 y0 y1 y2 y3 y4 y5 y6 y7 xl yl
  go_wp2_with fail
  refine wp_region_overL (by kernel_rfl) (by kernel_rfl) ?_
  repeat (go_big_quiet_step (fail))
  refine wpQuiet_nil ?_
  intro w4 hb4
  have HS4 := Lib.hid (HS3.out.go hb4)
  clear hb4 HS3
  go_wp2_with fail
  go_ret
  exact ⟨rfl, HS4.out.b⟩
def PlL2 (w : World) (L : LyA) (P : PlA) (Z : Nat) (k : Nat) (v : Value) (wr : World) : Prop := ∃ j : Nat, v = .int .i64 j ∧ j + k = 1 ∧ PcS w wr L P ∧ Blk wr Z 167 P.lC
set_option maxRecDepth 100000 in
set_option maxHeartbeats 6400000 in
theorem plin_ok (L : LyA) (P : PlA) (w : World) (h : LayM w L) (hp : PlM w P) : Calls Tryz.prog 87 #[L.v, P.v] w fun e w' => e = .returned (.int .i64 0) ∧ Below w.heap.size w w' := by
  have H := Lib.hid h
  have HP := Lib.hid hp
  clear h hp
  go_enter Tryz.func87, Tryz.ntmps87
  go_upto_region 1 with fail
  refine world_gen (fun w0 => PcS w w0 L P) ⟨(by repeat (first | exact Below.refl _ _ | (with_reducible refine Below.drew ?_) | (with_reducible refine below_drewN ?_ _) | (with_reducible refine Below.alloc ?_ (by first | omega | (simp; done) | (simp; omega)) _) | (with_reducible refine Below.setCell ?_ (by first | omega | (simp; done) | (simp; omega)) _) | (refine Below.trans ?_ (Below.mono (by with_reducible assumption) (by first | omega | (simp; done) | (simp; omega)))))), (by repeat (first | (refine Blk.new' _ _ _ _ ?_; first | rfl | (simp <;> omega)) | refine Blk.al ?_ _ | refine Blk.dr ?_ | refine Blk.drN ?_ _ | refine Blk.far ?_ (by first | omega | (simp; omega)))), (by repeat (first | (refine Blk.new' _ _ _ _ ?_; first | rfl | (simp <;> omega)) | refine Blk.al ?_ _ | refine Blk.dr ?_ | refine Blk.drN ?_ _ | refine Blk.far ?_ (by first | omega | (simp; omega))))⟩ ?_
  rintro w0 hs0
  have HS0 := Lib.hid hs0
  have x0 := (hs0).x.cell 0
  have x1 := (hs0).x.cell 1
  have x2 := (hs0).x.cell 2
  have x3 := (hs0).x.cell 3
  have y0 := (hs0).y.cell 0
  have y1 := (hs0).y.cell 1
  have y2 := (hs0).y.cell 2
  have y3 := (hs0).y.cell 3
  have y4 := (hs0).y.cell 4
  have y5 := (hs0).y.cell 5
  have y6 := (hs0).y.cell 6
  have y7 := (hs0).y.cell 7
  have xl := (hs0).x.lt
  have yl := (hs0).y.lt
  simp at x0 x1 x2 x3 y0 y1 y2 y3 y4 y5 y6 y7
  clear hs0
  go_wp2_with fail
  clear x0 x1 x2 x3 y0 y1 y2 y3 y4 y5 y6 y7 xl yl
  go_loopg [12] 1 (fun k v wr => PcL w L P 1 k v wr)
  case atStart => exact ⟨0, rfl, rfl, HS0.out⟩
  case round =>
    obtain ⟨j, rfl, hj, hs⟩ := hrel
    have HS := Lib.hid hs
    have Hj := Lib.hid hj
    clear hs hj HS0
    by_cases hlt : j < 1
    · obtain rfl : j = 0 := by omega
      have hpm := HP.out.go HS.out.b
      have d0 : wr.cell? ⟨P.li, 0, none⟩ = some (.string ⟨#[65]⟩) := hpm.li.c 0 _ rfl
      have d1 : wr.cell? ⟨P.li, 1, none⟩ = some (.int .i64 0) := hpm.li.c 1 _ rfl
      have d2 : wr.cell? ⟨P.li, 2, none⟩ = some (.int .i64 2) := hpm.li.c 2 _ rfl
      have d3 : wr.cell? ⟨P.li, 3, none⟩ = some (.slice (some ⟨P.ri, 0, none⟩) 1 P.cr) := hpm.li.c 3 _ rfl
      have dl := hpm.li.lt
      clear hpm
      go_upto_region 4 with fail
      refine world_gen (fun w1 => PcS w w1 L P ∧ Blk w1 wr.heap.size 167 P.lC) ⟨HS.out.go ((Below.refl _ _).alloc (Nat.le_refl _) _), (by repeat (first | (refine Blk.new' _ _ _ _ ?_; first | rfl | (simp <;> omega)) | refine Blk.al ?_ _ | refine Blk.dr ?_ | refine Blk.drN ?_ _ | refine Blk.far ?_ (by first | omega | (simp; omega))))⟩ ?_
      rintro w1 ⟨hs1, hz1⟩
      have HS1 := Lib.hid hs1
      have HZ1 := Lib.hid hz1
      have z0 := hz1.cell 0
      have z1 := hz1.cell 1
      have z2 := hz1.cell 2
      have z3 := hz1.cell 3
      have zl := hz1.lt
      have x0 := (hs1).x.cell 0
      have x1 := (hs1).x.cell 1
      have x2 := (hs1).x.cell 2
      have x3 := (hs1).x.cell 3
      have y0 := (hs1).y.cell 0
      have y1 := (hs1).y.cell 1
      have y2 := (hs1).y.cell 2
      have y3 := (hs1).y.cell 3
      have y4 := (hs1).y.cell 4
      have y5 := (hs1).y.cell 5
      have y6 := (hs1).y.cell 6
      have y7 := (hs1).y.cell 7
      have xl := (hs1).x.lt
      have yl := (hs1).y.lt
      simp at x0 x1 x2 x3 y0 y1 y2 y3 y4 y5 y6 y7
      simp at z0 z1 z2 z3
      clear hs1 hz1 d0 d1 d2 d3 HS
      generalize wr.heap.size = Z at *
      go_wp2_with fail
      refine (name1_any 65 _ rfl).mono ?_
      rintro e w2 ⟨rfl, hw⟩
      obtain rfl := hw
      go_wp2_with fail
      refine (conL_no _ _ _ _).mono ?_
      rintro e w3 ⟨rfl, hw⟩
      obtain rfl := hw
      go_wp2_with fail
      refine (weight_ok 2 _ (by omega) (by omega)).mono ?_
      rintro e w4 ⟨rfl, hw⟩
      obtain rfl := hw
      go_wp2_with fail
      clear z0 z1 z2 z3 zl
      clear x0 x1 x2 x3 y0 y1 y2 y3 y4 y5 y6 y7 xl yl
      go_loopg [51] 1 (fun k v wr => PlL2 w L P Z k v wr)
      case atStart => exact ⟨0, rfl, rfl, HS1.out, HZ1.out⟩
      case round =>
        obtain ⟨q, rfl, hq, hs, hz⟩ := hrel
        have HS := Lib.hid hs
        have HZ := Lib.hid hz
        have Hq := Lib.hid hq
        clear hs hq hz HS1 HZ1
        by_cases hql : q < 1
        · obtain rfl : q = 0 := by omega
          have x0 := (HS.out).x.cell 0
          have x1 := (HS.out).x.cell 1
          have x2 := (HS.out).x.cell 2
          have x3 := (HS.out).x.cell 3
          have y0 := (HS.out).y.cell 0
          have y1 := (HS.out).y.cell 1
          have y2 := (HS.out).y.cell 2
          have y3 := (HS.out).y.cell 3
          have y4 := (HS.out).y.cell 4
          have y5 := (HS.out).y.cell 5
          have y6 := (HS.out).y.cell 6
          have y7 := (HS.out).y.cell 7
          have xl := (HS.out).x.lt
          have yl := (HS.out).y.lt
          simp at x0 x1 x2 x3 y0 y1 y2 y3 y4 y5 y6 y7
          have z0 := HZ.out.cell 0
          have z1 := HZ.out.cell 1
          have z2 := HZ.out.cell 2
          have z3 := HZ.out.cell 3
          have zl := HZ.out.lt
          simp at z0 z1 z2 z3
          go_wp2_with fail
          refine (pride_ok L P _ (H.out.go HS.out.b) (HP.out.go HS.out.b)).mono ?_
          rintro e w5 ⟨rfl, hb5⟩
          have HS5 := Lib.hid (HS.out.go hb5)
          have HZ5 := Lib.hid (HZ.out.same (hb5.block _ HZ.out.lt))
          clear hb5 HS HZ z0 z1 z2 z3 zl
          clear x0 x1 x2 x3 y0 y1 y2 y3 y4 y5 y6 y7 xl yl
          go_wp2_with fail
          go_roundg 0
          case measure => have := Hq.out; omega
          case rel => exact ⟨1, rfl, by have := Hq.out; omega, HS5.out, HZ5.out⟩
        · obtain rfl : q = 1 := by have := Hq.out; omega
          go_wp2_with fail
          go_roundg 0
          case measure => have := Hj.out; omega
          case rel => exact ⟨1, rfl, by have := Hj.out; omega, HS.out⟩
    · obtain rfl : j = 1 := by have := Hj.out; omega
      go_wp2_with fail
      go_ret
      exact ⟨rfl, HS.out.b⟩
abbrev fnA : Array Value := #[.func (.func 84) #[] #[], .func (.func 85) #[] #[], .func (.func 86) #[] #[], .func (.func 87) #[] #[], .func (.func 88) #[] #[], .func (.func 89) #[] #[], .func (.func 90) #[] #[], .func (.func 91) #[] #[]]
set_option maxRecDepth 100000 in
set_option maxHeartbeats 6400000 in
theorem pcheck_ok (L : LyA) (P : PlA) (w : World) (h : LayM w L) (hp : PlM w P) : Calls Tryz.prog 29 #[L.v, P.v] w fun e w' => e = .returned (.int .i64 0) ∧ Below w.heap.size w w' := by
  have H := Lib.hid h
  have HP := Lib.hid hp
  clear h hp
  have i0 : ∀ W, (Instr.index 192 (.agg fnA) (.int .i64 0)).run Tryz.prog W = .ok (.func (.func 84) #[] #[]) W := fun W => by first | kernel_rfl | rfl
  have i1 : ∀ W, (Instr.index 192 (.agg fnA) (.int .i64 1)).run Tryz.prog W = .ok (.func (.func 85) #[] #[]) W := fun W => by first | kernel_rfl | rfl
  have i2 : ∀ W, (Instr.index 192 (.agg fnA) (.int .i64 2)).run Tryz.prog W = .ok (.func (.func 86) #[] #[]) W := fun W => by first | kernel_rfl | rfl
  have i3 : ∀ W, (Instr.index 192 (.agg fnA) (.int .i64 3)).run Tryz.prog W = .ok (.func (.func 87) #[] #[]) W := fun W => by first | kernel_rfl | rfl
  have i4 : ∀ W, (Instr.index 192 (.agg fnA) (.int .i64 4)).run Tryz.prog W = .ok (.func (.func 88) #[] #[]) W := fun W => by first | kernel_rfl | rfl
  have i5 : ∀ W, (Instr.index 192 (.agg fnA) (.int .i64 5)).run Tryz.prog W = .ok (.func (.func 89) #[] #[]) W := fun W => by first | kernel_rfl | rfl
  have i6 : ∀ W, (Instr.index 192 (.agg fnA) (.int .i64 6)).run Tryz.prog W = .ok (.func (.func 90) #[] #[]) W := fun W => by first | kernel_rfl | rfl
  have i7 : ∀ W, (Instr.index 192 (.agg fnA) (.int .i64 7)).run Tryz.prog W = .ok (.func (.func 91) #[] #[]) W := fun W => by first | kernel_rfl | rfl
  have HIX := Lib.hid (And.intro i0 (And.intro i1 (And.intro i2 (And.intro i3 (And.intro i4 (And.intro i5 (And.intro i6 i7)))))))
  clear i0 i1 i2 i3 i4 i5 i6 i7
  go_enter Tryz.func29, Tryz.ntmps29
  go_upto_region 1 with fail
  refine world_gen (fun w0 => PcS w w0 L P) ⟨(by repeat (first | exact Below.refl _ _ | (with_reducible refine Below.drew ?_) | (with_reducible refine below_drewN ?_ _) | (with_reducible refine Below.alloc ?_ (by first | omega | (simp; done) | (simp; omega)) _) | (with_reducible refine Below.setCell ?_ (by first | omega | (simp; done) | (simp; omega)) _) | (refine Below.trans ?_ (Below.mono (by with_reducible assumption) (by first | omega | (simp; done) | (simp; omega)))))), (by repeat (first | (refine Blk.new' _ _ _ _ ?_; first | rfl | (simp <;> omega)) | refine Blk.al ?_ _ | refine Blk.dr ?_ | refine Blk.drN ?_ _ | refine Blk.far ?_ (by first | omega | (simp; omega)))), (by repeat (first | (refine Blk.new' _ _ _ _ ?_; first | rfl | (simp <;> omega)) | refine Blk.al ?_ _ | refine Blk.dr ?_ | refine Blk.drN ?_ _ | refine Blk.far ?_ (by first | omega | (simp; omega))))⟩ ?_
  rintro w0 hs0
  have HS0 := Lib.hid hs0
  have x0 := (hs0).x.cell 0
  have x1 := (hs0).x.cell 1
  have x2 := (hs0).x.cell 2
  have x3 := (hs0).x.cell 3
  have y0 := (hs0).y.cell 0
  have y1 := (hs0).y.cell 1
  have y2 := (hs0).y.cell 2
  have y3 := (hs0).y.cell 3
  have y4 := (hs0).y.cell 4
  have y5 := (hs0).y.cell 5
  have y6 := (hs0).y.cell 6
  have y7 := (hs0).y.cell 7
  have xl := (hs0).x.lt
  have yl := (hs0).y.lt
  simp at x0 x1 x2 x3 y0 y1 y2 y3 y4 y5 y6 y7
  clear hs0
  clear x0 x1 x2 x3 y0 y1 y2 y3 y4 y5 y6 y7 xl yl
  have hst := fun (w : World) (a : Addr) (f : Nat) (m : Mode) => run_store Tryz.prog w a (.func (.func f) #[] #[]) m rfl
  go_wp2_with fail
  clear hst
  have HS1 := Lib.hid (HS0.out.go (w' := w0.alloc (.cells fnA 192)) ((Below.refl _ _).alloc (Nat.le_refl _) _))
  clear HS0
  generalize w0.alloc (.cells fnA 192) = w1 at *
  go_loopg [11] 8 (fun k v wr => PcL w L P 8 k v wr)
  case atStart => exact ⟨0, rfl, rfl, HS1.out⟩
  case round =>
    obtain ⟨j, rfl, hj, hs⟩ := hrel
    have HS := Lib.hid hs
    have Hj := Lib.hid hj
    clear hs hj HS1
    by_cases hlt : j < 8
    · rcases (show j = 0 ∨ j = 1 ∨ j = 2 ∨ j = 3 ∨ j = 4 ∨ j = 5 ∨ j = 6 ∨ j = 7 by omega) with rfl | rfl | rfl | rfl | rfl | rfl | rfl | rfl
      · skip
        have ii := HIX.out.1
        have x0 := (HS.out).x.cell 0
        have x1 := (HS.out).x.cell 1
        have x2 := (HS.out).x.cell 2
        have x3 := (HS.out).x.cell 3
        have y0 := (HS.out).y.cell 0
        have y1 := (HS.out).y.cell 1
        have y2 := (HS.out).y.cell 2
        have y3 := (HS.out).y.cell 3
        have y4 := (HS.out).y.cell 4
        have y5 := (HS.out).y.cell 5
        have y6 := (HS.out).y.cell 6
        have y7 := (HS.out).y.cell 7
        have xl := (HS.out).x.lt
        have yl := (HS.out).y.lt
        simp at x0 x1 x2 x3 y0 y1 y2 y3 y4 y5 y6 y7
        go_wp2_with fail
        refine (psizes_ok L P _ (H.out.go HS.out.b) (HP.out.go HS.out.b)).mono ?_
        rintro e w3 ⟨rfl, hb3⟩
        have HS3 := Lib.hid (HS.out.go hb3)
        clear hb3 HS ii
        clear x0 x1 x2 x3 y0 y1 y2 y3 y4 y5 y6 y7 xl yl
        go_wp2_with fail
        go_roundg 7
        case measure => have := Hj.out; omega
        case rel => exact ⟨0 + 1, rfl, by have := Hj.out; omega, HS3.out⟩
      · skip
        have ii := HIX.out.2.1
        have x0 := (HS.out).x.cell 0
        have x1 := (HS.out).x.cell 1
        have x2 := (HS.out).x.cell 2
        have x3 := (HS.out).x.cell 3
        have y0 := (HS.out).y.cell 0
        have y1 := (HS.out).y.cell 1
        have y2 := (HS.out).y.cell 2
        have y3 := (HS.out).y.cell 3
        have y4 := (HS.out).y.cell 4
        have y5 := (HS.out).y.cell 5
        have y6 := (HS.out).y.cell 6
        have y7 := (HS.out).y.cell 7
        have xl := (HS.out).x.lt
        have yl := (HS.out).y.lt
        simp at x0 x1 x2 x3 y0 y1 y2 y3 y4 y5 y6 y7
        go_wp2_with fail
        refine (pstk_ok L P _ (HP.out.go HS.out.b)).mono ?_
        rintro e w3 ⟨rfl, hb3⟩
        have HS3 := Lib.hid (HS.out.go hb3)
        clear hb3 HS ii
        clear x0 x1 x2 x3 y0 y1 y2 y3 y4 y5 y6 y7 xl yl
        go_wp2_with fail
        go_roundg 6
        case measure => have := Hj.out; omega
        case rel => exact ⟨1 + 1, rfl, by have := Hj.out; omega, HS3.out⟩
      · skip
        have ii := HIX.out.2.2.1
        have x0 := (HS.out).x.cell 0
        have x1 := (HS.out).x.cell 1
        have x2 := (HS.out).x.cell 2
        have x3 := (HS.out).x.cell 3
        have y0 := (HS.out).y.cell 0
        have y1 := (HS.out).y.cell 1
        have y2 := (HS.out).y.cell 2
        have y3 := (HS.out).y.cell 3
        have y4 := (HS.out).y.cell 4
        have y5 := (HS.out).y.cell 5
        have y6 := (HS.out).y.cell 6
        have y7 := (HS.out).y.cell 7
        have xl := (HS.out).x.lt
        have yl := (HS.out).y.lt
        simp at x0 x1 x2 x3 y0 y1 y2 y3 y4 y5 y6 y7
        go_wp2_with fail
        refine (proutes_ok L P _ (H.out.go HS.out.b) (HP.out.go HS.out.b)).mono ?_
        rintro e w3 ⟨rfl, hb3⟩
        have HS3 := Lib.hid (HS.out.go hb3)
        clear hb3 HS ii
        clear x0 x1 x2 x3 y0 y1 y2 y3 y4 y5 y6 y7 xl yl
        go_wp2_with fail
        go_roundg 5
        case measure => have := Hj.out; omega
        case rel => exact ⟨2 + 1, rfl, by have := Hj.out; omega, HS3.out⟩
      · skip
        have ii := HIX.out.2.2.2.1
        have x0 := (HS.out).x.cell 0
        have x1 := (HS.out).x.cell 1
        have x2 := (HS.out).x.cell 2
        have x3 := (HS.out).x.cell 3
        have y0 := (HS.out).y.cell 0
        have y1 := (HS.out).y.cell 1
        have y2 := (HS.out).y.cell 2
        have y3 := (HS.out).y.cell 3
        have y4 := (HS.out).y.cell 4
        have y5 := (HS.out).y.cell 5
        have y6 := (HS.out).y.cell 6
        have y7 := (HS.out).y.cell 7
        have xl := (HS.out).x.lt
        have yl := (HS.out).y.lt
        simp at x0 x1 x2 x3 y0 y1 y2 y3 y4 y5 y6 y7
        go_wp2_with fail
        refine (plin_ok L P _ (H.out.go HS.out.b) (HP.out.go HS.out.b)).mono ?_
        rintro e w3 ⟨rfl, hb3⟩
        have HS3 := Lib.hid (HS.out.go hb3)
        clear hb3 HS ii
        clear x0 x1 x2 x3 y0 y1 y2 y3 y4 y5 y6 y7 xl yl
        go_wp2_with fail
        go_roundg 4
        case measure => have := Hj.out; omega
        case rel => exact ⟨3 + 1, rfl, by have := Hj.out; omega, HS3.out⟩
      · skip
        have ii := HIX.out.2.2.2.2.1
        have x0 := (HS.out).x.cell 0
        have x1 := (HS.out).x.cell 1
        have x2 := (HS.out).x.cell 2
        have x3 := (HS.out).x.cell 3
        have y0 := (HS.out).y.cell 0
        have y1 := (HS.out).y.cell 1
        have y2 := (HS.out).y.cell 2
        have y3 := (HS.out).y.cell 3
        have y4 := (HS.out).y.cell 4
        have y5 := (HS.out).y.cell 5
        have y6 := (HS.out).y.cell 6
        have y7 := (HS.out).y.cell 7
        have xl := (HS.out).x.lt
        have yl := (HS.out).y.lt
        simp at x0 x1 x2 x3 y0 y1 y2 y3 y4 y5 y6 y7
        go_wp2_with fail
        refine (pchg_ok L P _).mono ?_
        rintro e w3 ⟨rfl, hb3⟩
        have HS3 := Lib.hid (HS.out.go hb3)
        clear hb3 HS ii
        clear x0 x1 x2 x3 y0 y1 y2 y3 y4 y5 y6 y7 xl yl
        go_wp2_with fail
        go_roundg 3
        case measure => have := Hj.out; omega
        case rel => exact ⟨4 + 1, rfl, by have := Hj.out; omega, HS3.out⟩
      · skip
        have ii := HIX.out.2.2.2.2.2.1
        have x0 := (HS.out).x.cell 0
        have x1 := (HS.out).x.cell 1
        have x2 := (HS.out).x.cell 2
        have x3 := (HS.out).x.cell 3
        have y0 := (HS.out).y.cell 0
        have y1 := (HS.out).y.cell 1
        have y2 := (HS.out).y.cell 2
        have y3 := (HS.out).y.cell 3
        have y4 := (HS.out).y.cell 4
        have y5 := (HS.out).y.cell 5
        have y6 := (HS.out).y.cell 6
        have y7 := (HS.out).y.cell 7
        have xl := (HS.out).x.lt
        have yl := (HS.out).y.lt
        simp at x0 x1 x2 x3 y0 y1 y2 y3 y4 y5 y6 y7
        go_wp2_with fail
        refine (ptrn_ok L P _).mono ?_
        rintro e w3 ⟨rfl, hb3⟩
        have HS3 := Lib.hid (HS.out.go hb3)
        clear hb3 HS ii
        clear x0 x1 x2 x3 y0 y1 y2 y3 y4 y5 y6 y7 xl yl
        go_wp2_with fail
        go_roundg 2
        case measure => have := Hj.out; omega
        case rel => exact ⟨5 + 1, rfl, by have := Hj.out; omega, HS3.out⟩
      · skip
        have ii := HIX.out.2.2.2.2.2.2.1
        have x0 := (HS.out).x.cell 0
        have x1 := (HS.out).x.cell 1
        have x2 := (HS.out).x.cell 2
        have x3 := (HS.out).x.cell 3
        have y0 := (HS.out).y.cell 0
        have y1 := (HS.out).y.cell 1
        have y2 := (HS.out).y.cell 2
        have y3 := (HS.out).y.cell 3
        have y4 := (HS.out).y.cell 4
        have y5 := (HS.out).y.cell 5
        have y6 := (HS.out).y.cell 6
        have y7 := (HS.out).y.cell 7
        have xl := (HS.out).x.lt
        have yl := (HS.out).y.lt
        simp at x0 x1 x2 x3 y0 y1 y2 y3 y4 y5 y6 y7
        go_wp2_with fail
        refine (psyn_ok L P _).mono ?_
        rintro e w3 ⟨rfl, hb3⟩
        have HS3 := Lib.hid (HS.out.go hb3)
        clear hb3 HS ii
        clear x0 x1 x2 x3 y0 y1 y2 y3 y4 y5 y6 y7 xl yl
        go_wp2_with fail
        go_roundg 1
        case measure => have := Hj.out; omega
        case rel => exact ⟨6 + 1, rfl, by have := Hj.out; omega, HS3.out⟩
      · skip
        have ii := HIX.out.2.2.2.2.2.2.2
        have x0 := (HS.out).x.cell 0
        have x1 := (HS.out).x.cell 1
        have x2 := (HS.out).x.cell 2
        have x3 := (HS.out).x.cell 3
        have y0 := (HS.out).y.cell 0
        have y1 := (HS.out).y.cell 1
        have y2 := (HS.out).y.cell 2
        have y3 := (HS.out).y.cell 3
        have y4 := (HS.out).y.cell 4
        have y5 := (HS.out).y.cell 5
        have y6 := (HS.out).y.cell 6
        have y7 := (HS.out).y.cell 7
        have xl := (HS.out).x.lt
        have yl := (HS.out).y.lt
        simp at x0 x1 x2 x3 y0 y1 y2 y3 y4 y5 y6 y7
        go_wp2_with fail
        refine (pdem_ok L P _ (HP.out.go HS.out.b)).mono ?_
        rintro e w3 ⟨rfl, hb3⟩
        have HS3 := Lib.hid (HS.out.go hb3)
        clear hb3 HS ii
        clear x0 x1 x2 x3 y0 y1 y2 y3 y4 y5 y6 y7 xl yl
        go_wp2_with fail
        go_roundg 0
        case measure => have := Hj.out; omega
        case rel => exact ⟨7 + 1, rfl, by have := Hj.out; omega, HS3.out⟩
    · obtain rfl : j = 8 := by have := Hj.out; omega
      go_wp2_with fail
      go_ret
      exact ⟨rfl, HS.out.b⟩
end Go.Proofs.YtinjdcefagaaeaaGreatDoor
