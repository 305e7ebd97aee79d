import Derived.Test.YtinjdcefagaaeaaGreatDoorQJo
import Derived.Test.YtinjdcefagaaeaaGreatDoorQPs
import Derived.Test.YtinjdcefagaaeaaGreatDoorQTt
import Derived.Test.YtinjdcefagaaeaaGreatDoorQBm
set_option linter.unusedVariables false
set_option linter.unusedSimpArgs false
namespace Go.Proofs.YtinjdcefagaaeaaGreatDoor
open Go.RowKit
/-! journeys.Total -/
structure TlS (w wr : World) (L : LyA) (P : PlA) (B : Nat) (A : JnA) : Prop where
  p : PcS w wr L P
  j : JnM wr B A
theorem TlS.go {w wr w' : World} {L : LyA} {P : PlA} {B : Nat} {A : JnA} (h : TlS w wr L P B A) (hb : Below wr.heap.size wr w') : TlS w w' L P B A := ⟨h.p.go hb, h.j.go hb⟩
def TlL (w : World) (L : LyA) (P : PlA) (B : Nat) (A : JnA) (k : Nat) (v10 v : Value) (wr : World) : Prop := TlS w wr L P B A ∧ ((k = 1 ∧ v = .int .i64 0 ∧ v10 = .int .i64 0) ∨ (k = 0 ∧ v = .int .i64 1 ∧ v10 = .int .i64 123))
set_option maxRecDepth 100000 in
set_option maxHeartbeats 12800000 in
theorem total_ok (L : LyA) (P : PlA) (g c : Nat) (w : World) (h : LayM w L) (hp : PlM w P) (hc : Cs w g tmL) (hcc : 2 ≤ c) : Calls Tryz.prog 7 #[L.v, P.v, .slice (some ⟨g, 0, none⟩) 2 c] w fun e w' => e = .returned (.tuple #[.int .i64 123, .int .i64 0]) ∧ Below w.heap.size w w' := by
  have H := Lib.hid h
  have HP := Lib.hid hp
  have HC := Lib.hid hc
  clear h hp hc
  go_enter Tryz.func7, Tryz.ntmps7
  go_upto_region 1 with fail
  refine world_gen (fun w0 => PcS w w0 L P) ⟨(by repeat (first | exact Below.refl _ _ | (with_reducible refine Below.drew ?_) | (with_reducible refine below_drewN ?_ _) | (with_reducible refine Below.alloc ?_ (by first | omega | (simp; done) | (simp; omega)) _) | (with_reducible refine Below.setCell ?_ (by first | omega | (simp; done) | (simp; omega)) _) | (refine Below.trans ?_ (Below.mono (by with_reducible assumption) (by first | omega | (simp; done) | (simp; omega)))))), (by repeat (first | (refine Blk.new' _ _ _ _ ?_; first | rfl | (simp <;> omega)) | refine Blk.al ?_ _ | refine Blk.dr ?_ | refine Blk.drN ?_ _ | refine Blk.far ?_ (by first | omega | (simp; omega)))), (by repeat (first | (refine Blk.new' _ _ _ _ ?_; first | rfl | (simp <;> omega)) | refine Blk.al ?_ _ | refine Blk.dr ?_ | refine Blk.drN ?_ _ | refine Blk.far ?_ (by first | omega | (simp; omega))))⟩ ?_
  rintro w0 hs0
  have HS0 := Lib.hid hs0
  have x0 := (hs0).x.cell 0
  have x1 := (hs0).x.cell 1
  have x2 := (hs0).x.cell 2
  have x3 := (hs0).x.cell 3
  have y0 := (hs0).y.cell 0
  have y1 := (hs0).y.cell 1
  have y2 := (hs0).y.cell 2
  have y3 := (hs0).y.cell 3
  have y4 := (hs0).y.cell 4
  have y5 := (hs0).y.cell 5
  have y6 := (hs0).y.cell 6
  have y7 := (hs0).y.cell 7
  have xl := (hs0).x.lt
  have yl := (hs0).y.lt
  simp at x0 x1 x2 x3 y0 y1 y2 y3 y4 y5 y6 y7
  clear hs0
  go_wp2_with fail
  refine (newsv_ok L P g c _ (H.out.go HS0.out.b) (HP.out.go HS0.out.b) (HC.out.go HS0.out.b) hcc).mono ?_
  rintro e w1 ⟨B, A, rfl, hj1, hb1⟩
  have HS1 := Lib.hid (show TlS w w1 L P B A from ⟨HS0.out.go hb1, hj1⟩)
  clear hj1 hb1 HS0
  clear x0 x1 x2 x3 y0 y1 y2 y3 y4 y5 y6 y7 xl yl
  have x0 := (HS1.out.p).x.cell 0
  have x1 := (HS1.out.p).x.cell 1
  have x2 := (HS1.out.p).x.cell 2
  have x3 := (HS1.out.p).x.cell 3
  have y0 := (HS1.out.p).y.cell 0
  have y1 := (HS1.out.p).y.cell 1
  have y2 := (HS1.out.p).y.cell 2
  have y3 := (HS1.out.p).y.cell 3
  have y4 := (HS1.out.p).y.cell 4
  have y5 := (HS1.out.p).y.cell 5
  have y6 := (HS1.out.p).y.cell 6
  have y7 := (HS1.out.p).y.cell 7
  have xl := (HS1.out.p).x.lt
  have yl := (HS1.out.p).y.lt
  simp at x0 x1 x2 x3 y0 y1 y2 y3 y4 y5 y6 y7
  go_wp2_with fail
  clear x0 x1 x2 x3 y0 y1 y2 y3 y4 y5 y6 y7 xl yl
  go_loopg [10, 27] 1 (fun k v10 v wr => TlL w L P B A k v10 v wr)
  case atStart => exact ⟨HS1.out, .inl ⟨rfl, rfl, rfl⟩⟩
  case round =>
    obtain ⟨hs, hor⟩ := hrel
    have HS := Lib.hid hs
    clear hs HS1
    rcases hor with ⟨rfl, rfl, rfl⟩ | ⟨rfl, rfl, rfl⟩
    · have hpm := HP.out.go HS.out.p.b
      have d0 : wr.cell? ⟨P.de, 0, none⟩ = some (.int .i64 0) := hpm.de.c 0 _ rfl
      have d1 : wr.cell? ⟨P.de, 1, none⟩ = some (.int .i64 1) := hpm.de.c 1 _ rfl
      have d2 : wr.cell? ⟨P.de, 2, none⟩ = some (.int .i64 3) := hpm.de.c 2 _ rfl
      have dl := hpm.de.lt
      clear hpm
      go_upto_region 8 with fail
      refine world_gen (fun w2 => TlS w w2 L P B A ∧ Blk w2 wr.heap.size 85 #[.int .i64 0, .int .i64 1, .int .i64 3]) ⟨HS.out.go ((Below.refl _ _).alloc (Nat.le_refl _) _), (by repeat (first | (refine Blk.new' _ _ _ _ ?_; first | rfl | (simp <;> omega)) | refine Blk.al ?_ _ | refine Blk.dr ?_ | refine Blk.drN ?_ _ | refine Blk.far ?_ (by first | omega | (simp; omega))))⟩ ?_
      rintro w2 ⟨hs2, hz2⟩
      have HS2 := Lib.hid hs2
      have HZ2 := Lib.hid hz2
      have z0 := hz2.cell 0
      have z1 := hz2.cell 1
      have zl := hz2.lt
      simp at z0 z1
      clear hs2 hz2 HS d0 d1 d2 dl
      generalize wr.heap.size = Z at *
      have hbd : Below w2.heap.size w2 w2.drew := (Below.refl _ _).drew
      go_region_held3 (fun W => W.cell? ⟨Z, 0, none⟩ = some (.int .i64 0) ∧ W.cell? ⟨Z, 1, none⟩ = some (.int .i64 1))
        (first | go_keep | exact ⟨z0, z1⟩ | exact ⟨cell_bel hbL z0, cell_bel hbL z1⟩ | exact ⟨cell_bel hbG z0, cell_bel hbG z1⟩ | exact ⟨cell_bel hbR z0, cell_bel hbR z1⟩)
        (first | (go_at_call 20; refine (remain_ok B A _ (HS2.out.j.go hbd)).mono ?_; rintro e w8 ⟨gr, rfl, hcr, hbR'⟩; have hbR : Below w2.heap.size w2 w8 := hbd.trans (hbR'.mono (Nat.le_refl _))) | (go_at_call 21; refine (begins_ok B A _ (HS2.out.j.go hbR)).mono ?_; rintro e w9 ⟨gb, cb, rfl, hcb, hbG'⟩; have hbG : Below w2.heap.size w2 w9 := hbR.trans (hbG'.mono hbR.size)) | (go_at_call 19; refine (least_ok B A gr gb cb _ (HS2.out.j.go hbG) (hcr.go hbG') hcb).mono ?_; rintro e w10 ⟨rfl, hw10⟩; subst hw10; have hbL := hbG))
      have HS3 := Lib.hid (HS2.out.go hbL)
      have HZ3 := Lib.hid (HZ2.out.same (hbL.block _ HZ2.out.lt))
      clear hcr hbR' hbR hcb hbG' hbG hbL hbd HS2 HZ2 z0 z1 zl
      have z2 := HZ3.out.cell 2
      have zl := HZ3.out.lt
      simp at z2
      go_wp2_with fail
      go_roundg 0
      case measure => omega
      case rel => exact ⟨HS3.out, .inr ⟨rfl, rfl, rfl⟩⟩
    · go_wp2_with fail
      go_ret2
      exact ⟨rfl, HS.out.p.b⟩
end Go.Proofs.YtinjdcefagaaeaaGreatDoor
namespace Go.Proofs.YtinjdcefagaaeaaGreatDoor
open Go.RowKit
/-! railplantop.TopPlanExamples -/
structure TqS (w wr : World) (L : LyA) (P : PlA) : Prop where
  b : Below w.heap.size w wr
  x : Blk wr w.heap.size 26 L.cs
  y : Blk wr (w.heap.size + 1) 35 P.cells
  lm : LayM wr L
  pm : PlM wr P
theorem TqS.go {w wr w' : World} {L : LyA} {P : PlA} (h : TqS w wr L P) (hb : Below wr.heap.size wr w') : TqS w w' L P := ⟨h.b.trans (hb.mono h.b.size), h.x.same (hb.block _ h.x.lt), h.y.same (hb.block _ h.y.lt), h.lm.go hb, h.pm.go hb⟩
set_option maxRecDepth 100000 in
set_option maxHeartbeats 12800000 in
theorem top_ok (w : World) (hsw : SideW w) : Calls Tryz.prog 3 #[] w fun e w' => e = .returned (.bool true) ∧ Below w.heap.size w w' := by
  have HW := Lib.hid hsw
  clear hsw
  go_enter Tryz.func3, Tryz.ntmps3
  go_wp2_with fail
  refine (read_ok w HW.out).mono ?_
  rintro e w1 ⟨L, P, rfl, hl1, hp1, hb1⟩
  have HL1 := Lib.hid hl1
  have HP1 := Lib.hid hp1
  have HB1 := Lib.hid hb1
  clear hl1 hp1 hb1
  go_upto_region 4 with fail
  refine world_gen (fun w2 => TqS w1 w2 L P) ?_ ?_
  · have hb : Below w1.heap.size w1 ((w1.alloc (.cells L.cs 26)).alloc (.cells P.cells 35)) := ((Below.refl _ _).alloc (Nat.le_refl _) _).alloc (by simp) _
    exact ⟨hb, (Blk.new w1 _ _).al _, Blk.new' _ _ _ _ (by simp), HL1.out.go hb, HP1.out.go hb⟩
  intro w2 hs2
  have HS := Lib.hid hs2
  clear hs2 HL1 HP1
  have x0 := HS.out.x.cell 0
  have x1 := HS.out.x.cell 1
  have x2 := HS.out.x.cell 2
  have x3 := HS.out.x.cell 3
  have y0 := HS.out.y.cell 0
  have y1 := HS.out.y.cell 1
  have y2 := HS.out.y.cell 2
  have y3 := HS.out.y.cell 3
  have y4 := HS.out.y.cell 4
  have y5 := HS.out.y.cell 5
  have y6 := HS.out.y.cell 6
  have y7 := HS.out.y.cell 7
  have xl := HS.out.x.lt
  have yl := HS.out.y.lt
  simp at x0 x1 x2 x3 y0 y1 y2 y3 y4 y5 y6 y7
  go_upto_region 6 with fail
  have r0 : _ = some (Value.slice (some ⟨P.sp, 0, none⟩) 3 P.cs) := HS.out.pm.ro.c 0 _ rfl
  have r1 : _ = some (Value.int .i64 0) := HS.out.pm.ro.c 1 _ rfl
  have rl := HS.out.pm.ro.lt
  have k0 : _ = some (Value.string ⟨#[83]⟩) := HS.out.pm.sk.c 0 _ rfl
  have k1 : _ = some (Value.int .i64 5) := HS.out.pm.sk.c 1 _ rfl
  have k2 : _ = some (Value.int .i64 20000) := HS.out.pm.sk.c 2 _ rfl
  have k3 : _ = some (Value.int .i64 500) := HS.out.pm.sk.c 3 _ rfl
  have k4 : _ = some (Value.int .i64 500) := HS.out.pm.sk.c 4 _ rfl
  have kl := HS.out.pm.sk.lt
  refine wp_region_overM 9 _ rfl (by kernel_rfl) (by kernel_rfl) ?_
  simp only [List.take_succ_cons, List.take_zero]
  repeat (go_big_quiet_step ((fail)))
  refine wpQuiet_nil ?_
  intro w3 hb3
  have HS3 := Lib.hid (HS.out.go hb3)
  clear hb3 r0 r1 rl k0 k1 k2 k3 k4 kl HS
  clear x0 x1 x2 x3 y0 y1 y2 y3 y4 y5 y6 y7 xl yl
  go_wp2_with (go_at_call 5; refine (stairs_ok L P.sp P.cs _ HS3.out.lm HS3.out.pm.sp HS3.out.pm.c).mono ?_; rintro e w4 ⟨v4, rfl, hb4⟩)
  have HS4 := Lib.hid (HS3.out.go hb4)
  clear hb4 HS3
  simp only [midQ, List.drop_succ_cons, List.drop_zero]
  repeat (go_big_quiet_step (fail))
  refine wpQuiet_nil ?_
  have x0 := HS4.out.x.cell 0
  have x1 := HS4.out.x.cell 1
  have x2 := HS4.out.x.cell 2
  have x3 := HS4.out.x.cell 3
  have y0 := HS4.out.y.cell 0
  have y1 := HS4.out.y.cell 1
  have y2 := HS4.out.y.cell 2
  have y3 := HS4.out.y.cell 3
  have y4 := HS4.out.y.cell 4
  have y5 := HS4.out.y.cell 5
  have y6 := HS4.out.y.cell 6
  have y7 := HS4.out.y.cell 7
  have xl := HS4.out.x.lt
  have yl := HS4.out.y.lt
  simp at x0 x1 x2 x3 y0 y1 y2 y3 y4 y5 y6 y7
  go_wp2_with fail
  refine (make_ok L P _ HS4.out.lm HS4.out.pm).mono ?_
  rintro e w5 ⟨g, c, rfl, hc2, hcg, hb5⟩
  have HS5 := Lib.hid (HS4.out.go hb5)
  have HC5 := Lib.hid hcg
  clear hb5 hcg HS4
  clear x0 x1 x2 x3 y0 y1 y2 y3 y4 y5 y6 y7 xl yl
  go_upto_region 8 with fail
  refine world_gen (fun w6 => TqS w1 w6 L P ∧ Blk w6 w5.heap.size 50 (ttC g c) ∧ Cs w6 g tmL) ?_ ?_
  · have hb : Below w5.heap.size w5 ((w5.alloc (.cells (ttC g c) 50)).alloc (.cells rf0 53)) := ((Below.refl _ _).alloc (Nat.le_refl _) _).alloc (by simp) _
    exact ⟨HS5.out.go hb, (Blk.new w5 _ _).al _, HC5.out.go hb⟩
  rintro w6 ⟨hs6, hz6, hc6⟩
  have HS6 := Lib.hid hs6
  have HZ6 := Lib.hid (And.intro hz6 hc6)
  clear hs6 hz6 hc6 HS5 HC5
  generalize w5.heap.size = Z at *
  have z1 := HZ6.out.1.cell 1
  have z2 := HZ6.out.1.cell 2
  have z3 := HZ6.out.1.cell 3
  have z4 := HZ6.out.1.cell 4
  have z0 := HZ6.out.1.cell 0
  have zl := HZ6.out.1.lt
  have u0 : _ = some (Value.int .i64 0) := HZ6.out.2.c 0 _ rfl
  have u1 : _ = some (Value.int .i64 41) := HZ6.out.2.c 1 _ rfl
  have ul := HZ6.out.2.lt
  simp at z0 z1 z2 z3 z4
  have x0 := HS6.out.x.cell 0
  have x1 := HS6.out.x.cell 1
  have x2 := HS6.out.x.cell 2
  have x3 := HS6.out.x.cell 3
  have y0 := HS6.out.y.cell 0
  have y1 := HS6.out.y.cell 1
  have y2 := HS6.out.y.cell 2
  have y3 := HS6.out.y.cell 3
  have y4 := HS6.out.y.cell 4
  have y5 := HS6.out.y.cell 5
  have y6 := HS6.out.y.cell 6
  have y7 := HS6.out.y.cell 7
  have xl := HS6.out.x.lt
  have yl := HS6.out.y.lt
  simp at x0 x1 x2 x3 y0 y1 y2 y3 y4 y5 y6 y7
  have hc2i : (2 : Int) ≤ (c : Int) := by omega
  go_wp2_with fail
  refine (total_ok L P g c _ HS6.out.lm HS6.out.pm HZ6.out.2 hc2).mono ?_
  rintro e w7 ⟨rfl, hb7⟩
  have HS7 := Lib.hid (HS6.out.go hb7)
  have HZ7 := Lib.hid (And.intro (HZ6.out.1.same (hb7.block _ HZ6.out.1.lt)) (HZ6.out.2.go hb7))
  clear hb7 HS6 HZ6 z0 z1 z2 z3 z4 zl u0 u1 ul
  clear x0 x1 x2 x3 y0 y1 y2 y3 y4 y5 y6 y7 xl yl
  have z1 := HZ7.out.1.cell 1
  have z2 := HZ7.out.1.cell 2
  have z3 := HZ7.out.1.cell 3
  have z4 := HZ7.out.1.cell 4
  have z0 := HZ7.out.1.cell 0
  have zl := HZ7.out.1.lt
  have u0 : _ = some (Value.int .i64 0) := HZ7.out.2.c 0 _ rfl
  have u1 : _ = some (Value.int .i64 41) := HZ7.out.2.c 1 _ rfl
  have ul := HZ7.out.2.lt
  simp at z0 z1 z2 z3 z4
  have x0 := HS7.out.x.cell 0
  have x1 := HS7.out.x.cell 1
  have x2 := HS7.out.x.cell 2
  have x3 := HS7.out.x.cell 3
  have y0 := HS7.out.y.cell 0
  have y1 := HS7.out.y.cell 1
  have y2 := HS7.out.y.cell 2
  have y3 := HS7.out.y.cell 3
  have y4 := HS7.out.y.cell 4
  have y5 := HS7.out.y.cell 5
  have y6 := HS7.out.y.cell 6
  have y7 := HS7.out.y.cell 7
  have xl := HS7.out.x.lt
  have yl := HS7.out.y.lt
  simp at x0 x1 x2 x3 y0 y1 y2 y3 y4 y5 y6 y7
  go_wp2_with fail
  refine (tchk_ok L P g c _ HS7.out.lm HS7.out.pm HZ7.out.2 hc2).mono ?_
  rintro e w8 ⟨rfl, hb8⟩
  have HF := Lib.hid (HB1.out.trans ((HS7.out.go hb8).b.mono HB1.out.size))
  clear hb8 HS7 HZ7 z0 z1 z2 z3 z4 zl u0 u1 ul
  clear x0 x1 x2 x3 y0 y1 y2 y3 y4 y5 y6 y7 xl yl
  go_wp2_with fail
  go_ret
  exact ⟨rfl, HF.out⟩
end Go.Proofs.YtinjdcefagaaeaaGreatDoor
