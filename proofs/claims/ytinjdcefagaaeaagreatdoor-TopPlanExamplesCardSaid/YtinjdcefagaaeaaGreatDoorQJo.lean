import Derived.Test.YtinjdcefagaaeaaGreatDoorQJn
set_option linter.unusedVariables false
set_option linter.unusedSimpArgs false
namespace Go.Proofs.YtinjdcefagaaeaaGreatDoor
open Go.RowKit
/-! journeys.newService -/
set_option maxRecDepth 100000 in
set_option maxHeartbeats 25600000 in
theorem newsv_ok (L : LyA) (P : PlA) (g c : Nat) (w : World) (h : LayM w L) (hp : PlM w P) (hc : Cs w g tmL) (hcc : 2 ≤ c) : Calls Tryz.prog 18 #[L.v, P.v, .slice (some ⟨g, 0, none⟩) 2 c] w fun e w' => ∃ B A, e = .returned (.tuple #[.pointer (some ⟨B, 0, none⟩), .int .i64 0]) ∧ JnM w' B A ∧ Below w.heap.size w w' := by
  have H := Lib.hid h
  have HP := Lib.hid hp
  have HC := Lib.hid hc
  clear h hp hc
  obtain ⟨i0, b1, b2, b3, b4⟩ := info_parts infoI
  have HI := Lib.hid (And.intro b1 (And.intro b2 (And.intro b3 b4)))
  clear b1 b2 b3 b4
  obtain ⟨iS, b1, b2, b3, b4⟩ := info_parts infoIs
  have HIS := Lib.hid (And.intro b1 (And.intro b2 (And.intro b3 b4)))
  clear b1 b2 b3 b4
  go_enter Tryz.func18, Tryz.ntmps18
  go_upto_region 1 with fail
  refine world_gen (fun w0 => PcS w w0 L P) ⟨(by repeat (first | exact Below.refl _ _ | (with_reducible refine Below.drew ?_) | (with_reducible refine below_drewN ?_ _) | (with_reducible refine Below.alloc ?_ (by first | omega | (simp; done) | (simp; omega)) _) | (with_reducible refine Below.setCell ?_ (by first | omega | (simp; done) | (simp; omega)) _) | (refine Below.trans ?_ (Below.mono (by with_reducible assumption) (by first | omega | (simp; done) | (simp; omega)))))), (by repeat (first | (refine Blk.new' _ _ _ _ ?_; first | rfl | (simp <;> omega)) | refine Blk.al ?_ _ | refine Blk.dr ?_ | refine Blk.drN ?_ _ | refine Blk.far ?_ (by first | omega | (simp; omega)))), (by repeat (first | (refine Blk.new' _ _ _ _ ?_; first | rfl | (simp <;> omega)) | refine Blk.al ?_ _ | refine Blk.dr ?_ | refine Blk.drN ?_ _ | refine Blk.far ?_ (by first | omega | (simp; omega))))⟩ ?_
  rintro w0 hs0
  have HS0 := Lib.hid hs0
  have x0 := (hs0).x.cell 0
  have x1 := (hs0).x.cell 1
  have x2 := (hs0).x.cell 2
  have x3 := (hs0).x.cell 3
  have y0 := (hs0).y.cell 0
  have y1 := (hs0).y.cell 1
  have y2 := (hs0).y.cell 2
  have y3 := (hs0).y.cell 3
  have y4 := (hs0).y.cell 4
  have y5 := (hs0).y.cell 5
  have y6 := (hs0).y.cell 6
  have y7 := (hs0).y.cell 7
  have xl := (hs0).x.lt
  have yl := (hs0).y.lt
  simp at x0 x1 x2 x3 y0 y1 y2 y3 y4 y5 y6 y7
  clear hs0
  go_upto_region 2 with (go_at_call 12; refine (build_ok L P _ (H.out.go HS0.out.b) (HP.out.go HS0.out.b)).mono ?_; rintro e w1 ⟨N, rfl, hn1, hb1⟩)
  refine world_gen (fun w2 => NvS w w2 L P N w1.heap.size) ⟨(HS0.out.go hb1).go ((Below.refl _ _).alloc (Nat.le_refl _) _), Blk.new _ _ _, hn1.go ((Below.refl _ _).alloc (Nat.le_refl _) _), (HS0.out.go hb1).y.lt, hn1.ev.lt, hn1.ac.lt⟩ ?_
  intro w2 hs2
  have HS2 := Lib.hid hs2
  clear hs2 hn1 hb1 HS0
  clear x0 x1 x2 x3 y0 y1 y2 y3 y4 y5 y6 y7 xl yl
  generalize w1.heap.size = Z at *
  have z0 := (HS2.out).z.cell 0
  have z1 := (HS2.out).z.cell 1
  have z2 := (HS2.out).z.cell 2
  have zl := (HS2.out).z.lt
  simp at z0 z1 z2
  go_wp2_with fail
  refine (nfeas_ok N g c _ HS2.out.n (HC.out.go HS2.out.p.b) hcc).mono ?_
  rintro e w3 ⟨rfl, hb3⟩
  have HS3 := Lib.hid (HS2.out.go hb3)
  clear hb3 HS2
  clear z0 z1 z2 zl
  have z0 := (HS3.out).z.cell 0
  have z1 := (HS3.out).z.cell 1
  have z2 := (HS3.out).z.cell 2
  have zl := (HS3.out).z.lt
  simp at z0 z1 z2
  have x0 := (HS3.out.p).x.cell 0
  have x1 := (HS3.out.p).x.cell 1
  have x2 := (HS3.out.p).x.cell 2
  have x3 := (HS3.out.p).x.cell 3
  have y0 := (HS3.out.p).y.cell 0
  have y1 := (HS3.out.p).y.cell 1
  have y2 := (HS3.out.p).y.cell 2
  have y3 := (HS3.out.p).y.cell 3
  have y4 := (HS3.out.p).y.cell 4
  have y5 := (HS3.out.p).y.cell 5
  have y6 := (HS3.out.p).y.cell 6
  have y7 := (HS3.out.p).y.cell 7
  have xl := (HS3.out.p).x.lt
  have yl := (HS3.out.p).y.lt
  simp at x0 x1 x2 x3 y0 y1 y2 y3 y4 y5 y6 y7
  go_upto_region 6 with fail
  refine wp_region_any (by kernel_rfl) ?_
  refine wpAny_of_held (S := fun W => W.cell? ⟨Z, 0, none⟩ = some (.int .i64 300) ∧ W.cell? ⟨Z, 1, none⟩ = some (.slice (some ⟨N.ev, 0, none⟩) 2 N.ce) ∧ W.cell? ⟨Z, 2, none⟩ = some (.slice (some ⟨N.ac, 0, none⟩) 1 N.ca) ∧ W.cell? ⟨w.heap.size, 0, none⟩ = some (.slice (some ⟨L.st, 0, none⟩) 2 L.c1)) _ _ _ _ ?_
  change wpAnyH _ _ _ _ _ 11 _ _ (World.drew w3)
  have hHeld : (fun W : World => W.cell? ⟨Z, 0, none⟩ = some (.int .i64 300) ∧ W.cell? ⟨Z, 1, none⟩ = some (.slice (some ⟨N.ev, 0, none⟩) 2 N.ce) ∧ W.cell? ⟨Z, 2, none⟩ = some (.slice (some ⟨N.ac, 0, none⟩) 1 N.ca) ∧ W.cell? ⟨w.heap.size, 0, none⟩ = some (.slice (some ⟨L.st, 0, none⟩) 2 L.c1)) (World.drew w3) := ⟨z0, z1, z2, x0⟩
  refine wpAnyH_take (i := 0) (oi := ⟨some _, _, _, _, _, _⟩) (v := ?_) rfl (by kernel_rfl) (by kernel_rfl) (by kernel_rfl) (fun _ _ _ h => h) (Or.inl ⟨by rfl, ?_⟩) (by assumption) ?_
  rotate_left
  · (intro w hSw; (try dsimp only at hSw); go_simp; try with_reducible rfl)
  simp only [Act.put, List.setIfInBounds_toArray, List.set_cons_zero, List.set_cons_succ]
  refine wpAnyH_take (i := 1) (oi := ⟨some _, _, _, _, _, _⟩) (v := ?_) rfl (by kernel_rfl) (by kernel_rfl) (by kernel_rfl) (fun _ _ _ h => h) (Or.inl ⟨by rfl, ?_⟩) (by assumption) ?_
  rotate_left
  · (intro w hSw; (try dsimp only at hSw); go_simp; try with_reducible rfl)
  simp only [Act.put, List.setIfInBounds_toArray, List.set_cons_zero, List.set_cons_succ]
  refine wpAnyH_take (i := 2) (oi := ⟨some _, _, _, _, _, _⟩) (v := ?_) rfl (by kernel_rfl) (by kernel_rfl) (by kernel_rfl) (fun _ _ _ h => h) (Or.inl ⟨by rfl, ?_⟩) (by assumption) ?_
  rotate_left
  · (intro w hSw; (try dsimp only at hSw); go_simp; try with_reducible rfl)
  simp only [Act.put, List.setIfInBounds_toArray, List.set_cons_zero, List.set_cons_succ]
  refine wpAnyH_take (i := 3) (oi := ⟨some _, _, _, _, _, _⟩) (v := ?_) rfl (by kernel_rfl) (by kernel_rfl) (by kernel_rfl) (fun _ _ _ h => h) (Or.inl ⟨by rfl, ?_⟩) (by assumption) ?_
  rotate_left
  · (intro w hSw; (try dsimp only at hSw); go_simp; try with_reducible rfl)
  simp only [Act.put, List.setIfInBounds_toArray, List.set_cons_zero, List.set_cons_succ]
  refine wpAnyH_take (i := 5) (oi := ⟨some _, _, _, _, _, _⟩) (v := ?_) rfl (by kernel_rfl) (by kernel_rfl) (by kernel_rfl) (fun _ _ _ h => h) (Or.inl ⟨by rfl, ?_⟩) (by assumption) ?_
  rotate_left
  · (intro w hSw; (try dsimp only at hSw); go_simp; try with_reducible rfl)
  simp only [Act.put, List.setIfInBounds_toArray, List.set_cons_zero, List.set_cons_succ]
  refine wpAnyH_take (i := 6) (oi := ⟨some _, _, _, _, _, _⟩) (v := ?_) rfl (by kernel_rfl) (by kernel_rfl) (by kernel_rfl) (fun _ _ _ h => h) (Or.inl ⟨by rfl, ?_⟩) (by assumption) ?_
  rotate_left
  · (intro w hSw; (try dsimp only at hSw); go_simp; try with_reducible rfl)
  simp only [Act.put, List.setIfInBounds_toArray, List.set_cons_zero, List.set_cons_succ]
  refine wpAnyH_take (i := 7) (oi := ⟨some _, _, _, _, _, _⟩) (v := ?_) rfl (by kernel_rfl) (by kernel_rfl) (by kernel_rfl) (fun _ _ _ h => h) (Or.inl ⟨by rfl, ?_⟩) (by assumption) ?_
  rotate_left
  · (intro w hSw; (try dsimp only at hSw); go_simp; try with_reducible rfl)
  simp only [Act.put, List.setIfInBounds_toArray, List.set_cons_zero, List.set_cons_succ]
  refine wpAnyH_ready (rs := [4]) (by kernel_rfl) (by simp) ?_
  refine AllReadyH.cons (o := ⟨some _, _, _, _, _, _⟩) rfl (fun K hK => ?_) AllReadyH.nil
  refine step_make_full (by rfl) _ _ 51 (by rfl) w3.heap.size 47 iS _ 1 Tryz.underlying51 HIS.out.1 HIS.out.2.1 HIS.out.2.2.1 .i64 .i64 2 rfl rfl (by rw [HIS.out.2.2.2]; omega) (by simp only [maxLen]; omega) (Nat.le_refl _) ?_
  intro w5 ho5 hg5
  have hmc : (madeCells (Value.slice none 0 0).cells (2 * 1)).toList = [.slice none 0 0, .slice none 0 0] := by first | rfl | decide | kernel_rfl
  rw [hmc] at ho5
  have hb5 : Below w3.heap.size w3 w5 := (Below.refl _ w3).drew.trans (bel_grow hg5)
  have hx5 : Blk w5 w3.heap.size 47 #[.slice none 0 0, .slice none 0 0] := own_full ho5
  refine hK.out _ _ ⟨cell_bel hb5 z0, cell_bel hb5 z1, cell_bel hb5 z2, cell_bel hb5 x0⟩ (fun hHeld => ?_)
  clear hK K
  try simp only [Act.put, List.setIfInBounds_toArray, List.set_cons_zero, List.set_cons_succ]
  refine wpAnyH_take (i := 8) (oi := ⟨some _, _, _, _, _, _⟩) (v := ?_) rfl (by kernel_rfl) (by kernel_rfl) (by kernel_rfl) (fun _ _ _ h => h) (Or.inl ⟨by rfl, ?_⟩) (by assumption) ?_
  rotate_left
  · (intro w hSw; (try dsimp only at hSw); go_simp; try with_reducible rfl)
  simp only [Act.put, List.setIfInBounds_toArray, List.set_cons_zero, List.set_cons_succ]
  refine wpAnyH_ready (rs := [9]) (by kernel_rfl) (by simp) ?_
  refine AllReadyH.cons rfl (fun K hK => ?_) AllReadyH.nil
  go_simp
  have hb6 : ∀ o, Below w3.heap.size w3 (w5.alloc o) := fun o => hb5.alloc hb5.size o
  refine hK.out _ _ ⟨cell_bel (hb6 _) z0, cell_bel (hb6 _) z1, cell_bel (hb6 _) z2, cell_bel (hb6 _) x0⟩ (fun hHeld => ?_)
  clear hK K
  try simp only [Act.put, List.setIfInBounds_toArray, List.set_cons_zero, List.set_cons_succ]
  refine wpAnyH_ready (rs := [10]) (by kernel_rfl) (by simp) ?_
  refine AllReadyH.cons rfl (fun K hK => ?_) AllReadyH.nil
  go_simp
  refine hK.out _ _ hHeld (fun hHeld => ?_)
  clear hK K
  refine wpAnyH_done (by kernel_rfl) ?_ _
  have hJ6 : JoS w (w5.alloc (.cells (jvC N (.slice (some ⟨w3.heap.size, 0, none⟩) 2 2) (.slice none 0 0) (.slice none 0 0) (.slice none 0 0)) 160)) L P N Z w3.heap.size w5.heap.size (.slice none 0 0) (.slice none 0 0) (.slice none 0 0) (.slice none 0 0) := ⟨(HS3.out.go hb5).go ((Below.refl _ _).alloc (Nat.le_refl _) _), hx5.al _, Blk.new _ _ _, HS3.out.z.lt, hx5.lt⟩
  have HJ6 := Lib.hid hJ6
  clear hJ6 hHeld hb6 hx5 hb5 ho5 hg5 hmc HS3
  clear z0 z1 z2 zl
  clear x0 x1 x2 x3 y0 y1 y2 y3 y4 y5 y6 y7 xl yl
  generalize w5.alloc (.cells (jvC N (.slice (some ⟨w3.heap.size, 0, none⟩) 2 2) (.slice none 0 0) (.slice none 0 0) (.slice none 0 0)) 160) = w6 at *
  generalize w5.heap.size = B at *
  generalize w3.heap.size = gl at *
  have z0 := (HJ6.out.v).z.cell 0
  have z1 := (HJ6.out.v).z.cell 1
  have z2 := (HJ6.out.v).z.cell 2
  have zl := (HJ6.out.v).z.lt
  simp at z0 z1 z2
  go_wp2_with fail
  clear z0 z1 z2 zl
  go_loopg [42] 1 (fun k v wr => Jo1 w L P N Z gl B k v wr)
  case atStart => exact .inl ⟨rfl, rfl, HJ6.out⟩
  case round =>
    rcases hrel with ⟨rfl, rfl, hs⟩ | ⟨rfl, rfl, gq, cq, gd, cd, hs, hgq, hgd, hB1, hB2⟩
    · have HS := Lib.hid hs
      clear hs HJ6
      have hnm := HS.out.v.n
      obtain ⟨a0, a1, a2, a3, a4, a5⟩ := (hnm).act
      have al := (hnm).ac.lt
      clear hnm
      go_upto_region 10 with fail
      refine world_gen (fun w7 => JoS w w7 L P N Z gl B (.slice none 0 0) (.slice none 0 0) (.slice none 0 0) (.slice none 0 0) ∧ Blk w7 wr.heap.size 138 acL.toArray) ⟨HS.out.go ((Below.refl _ _).alloc (Nat.le_refl _) _), (by repeat (first | (refine Blk.new' _ _ _ _ ?_; first | rfl | (simp <;> omega)) | refine Blk.al ?_ _ | refine Blk.dr ?_ | refine Blk.drN ?_ _ | refine Blk.far ?_ (by first | omega | (simp; omega))))⟩ ?_
      rintro w7 ⟨hs7, hz7⟩
      have hQB : B < wr.heap.size := HS.out.x.lt
      have HS7 := Lib.hid hs7
      have HZA := Lib.hid hz7
      clear hs7 hz7 HS
      clear a0 a1 a2 a3 a4 a5 al
      generalize wr.heap.size = Q at *
      have a0 := HZA.out.cell 0
      have a1 := HZA.out.cell 1
      have a2 := HZA.out.cell 2
      have a3 := HZA.out.cell 3
      have al := HZA.out.lt
      simp at a0 a1 a2 a3
      have b4 := HS7.out.x.cell 4
      have bl := HS7.out.x.lt
      have htm := HC.out.go HS7.out.v.p.b
      have t0 : w7.cell? ⟨g, 0, none⟩ = some (.int .i64 0) := htm.c 0 _ rfl
      have t1 : w7.cell? ⟨g, 1, none⟩ = some (.int .i64 41) := htm.c 1 _ rfl
      have tl := htm.lt
      have z0 := HS7.out.v.z.cell 0
      have zl := HS7.out.v.z.lt
      simp at b4 z0
      clear htm
      have hm0 : (0 : Int) % 300 = 0 := by decide
      have HM := Lib.hid (fun W => mod_any 0 300 W (by omega) (by omega))
      rw [hm0] at HM
      clear hm0
      have hbd : Below w7.heap.size w7 (w7.drew.alloc (.cells #[.int .i64 41] 3)) := (Below.refl _ w7).drew.alloc (Nat.le_refl _) _
      refine wp_region_cut 27 (by kernel_rfl) (by kernel_rfl) ?_
      simp only [dulled, dull, List.take_succ_cons, List.take_zero, List.drop_succ_cons, List.drop_zero, List.map_cons, List.map_nil, List.cons_append, List.nil_append]
      refine wpAny_of_held (S := fun W => W.cell? ⟨B, 4, none⟩ = some (.slice none 0 0) ∧ W.cell? ⟨Q, 1, none⟩ = some (.int .i64 0) ∧ W.cell? ⟨Q, 2, none⟩ = some (.int .i64 1) ∧ W.cell? ⟨Q, 3, none⟩ = some (.int .i64 41) ∧ W.cell? ⟨g, 0, none⟩ = some (.int .i64 0) ∧ W.cell? ⟨g, 1, none⟩ = some (.int .i64 41) ∧ W.cell? ⟨Z, 0, none⟩ = some (.int .i64 300)) _ _ _ _ ?_
      change wpAnyH _ _ _ _ _ 30 _ _ (World.drew w7)
      have hHeld : (fun W => W.cell? ⟨B, 4, none⟩ = some (.slice none 0 0) ∧ W.cell? ⟨Q, 1, none⟩ = some (.int .i64 0) ∧ W.cell? ⟨Q, 2, none⟩ = some (.int .i64 1) ∧ W.cell? ⟨Q, 3, none⟩ = some (.int .i64 41) ∧ W.cell? ⟨g, 0, none⟩ = some (.int .i64 0) ∧ W.cell? ⟨g, 1, none⟩ = some (.int .i64 41) ∧ W.cell? ⟨Z, 0, none⟩ = some (.int .i64 300)) (World.drew w7) := ⟨b4, a1, a2, a3, t0, t1, z0⟩
      refine wpAnyH_take (i := 0) (oi := ⟨some _, _, _, _, _, _⟩) (v := ?_) rfl (by kernel_rfl) (by kernel_rfl) (by kernel_rfl) (fun _ _ _ h => h) (Or.inl ⟨by rfl, ?_⟩) (by assumption) ?_
      rotate_left
      · (intro w hSw; (try dsimp only at hSw); go_simp; try with_reducible rfl)
      simp only [Act.put, List.setIfInBounds_toArray, List.set_cons_zero, List.set_cons_succ]
      refine wpAnyH_take (i := 1) (oi := ⟨some _, _, _, _, _, _⟩) (v := ?_) rfl (by kernel_rfl) (by kernel_rfl) (by kernel_rfl) (fun _ _ _ h => h) (Or.inl ⟨by rfl, ?_⟩) (by assumption) ?_
      rotate_left
      · (intro w hSw; (try dsimp only at hSw); go_simp; try with_reducible rfl)
      simp only [Act.put, List.setIfInBounds_toArray, List.set_cons_zero, List.set_cons_succ]
      refine wpAnyH_take (i := 2) (oi := ⟨some _, _, _, _, _, _⟩) (v := ?_) rfl (by kernel_rfl) (by kernel_rfl) (by kernel_rfl) (fun _ _ _ h => h) (Or.inl ⟨by rfl, ?_⟩) (by assumption) ?_
      rotate_left
      · (intro w hSw; (try dsimp only at hSw); go_simp; try with_reducible rfl)
      simp only [Act.put, List.setIfInBounds_toArray, List.set_cons_zero, List.set_cons_succ]
      refine wpAnyH_take (i := 3) (oi := ⟨some _, _, _, _, _, _⟩) (v := ?_) rfl (by kernel_rfl) (by kernel_rfl) (by kernel_rfl) (fun _ _ _ h => h) (Or.inl ⟨by rfl, ?_⟩) (by assumption) ?_
      rotate_left
      · (intro w hSw; (try dsimp only at hSw); go_simp; try with_reducible rfl)
      simp only [Act.put, List.setIfInBounds_toArray, List.set_cons_zero, List.set_cons_succ]
      refine wpAnyH_take (i := 4) (oi := ⟨some _, _, _, _, _, _⟩) (v := ?_) rfl (by kernel_rfl) (by kernel_rfl) (by kernel_rfl) (fun _ _ _ h => h) (Or.inl ⟨by rfl, ?_⟩) (by assumption) ?_
      rotate_left
      · (intro w hSw; (try dsimp only at hSw); go_simp; try with_reducible rfl)
      simp only [Act.put, List.setIfInBounds_toArray, List.set_cons_zero, List.set_cons_succ]
      refine wpAnyH_take (i := 5) (oi := ⟨some _, _, _, _, _, _⟩) (v := ?_) rfl (by kernel_rfl) (by kernel_rfl) (by kernel_rfl) (fun _ _ _ h => h) (Or.inl ⟨by rfl, ?_⟩) (by assumption) ?_
      rotate_left
      · (intro w hSw; (try dsimp only at hSw); go_simp; try with_reducible rfl)
      simp only [Act.put, List.setIfInBounds_toArray, List.set_cons_zero, List.set_cons_succ]
      refine wpAnyH_take (i := 6) (oi := ⟨some _, _, _, _, _, _⟩) (v := ?_) rfl (by kernel_rfl) (by kernel_rfl) (by kernel_rfl) (fun _ _ _ h => h) (Or.inl ⟨by rfl, ?_⟩) (by assumption) ?_
      rotate_left
      · (intro w hSw; (try dsimp only at hSw); go_simp; try with_reducible rfl)
      simp only [Act.put, List.setIfInBounds_toArray, List.set_cons_zero, List.set_cons_succ]
      refine wpAnyH_take (i := 7) (oi := ⟨some _, _, _, _, _, _⟩) (v := ?_) rfl (by kernel_rfl) (by kernel_rfl) (by kernel_rfl) (fun _ _ _ h => h) (Or.inl ⟨by rfl, ?_⟩) (by assumption) ?_
      rotate_left
      · (intro w hSw; (try dsimp only at hSw); go_simp; try with_reducible rfl)
      simp only [Act.put, List.setIfInBounds_toArray, List.set_cons_zero, List.set_cons_succ]
      refine wpAnyH_take (i := 8) (oi := ⟨some _, _, _, _, _, _⟩) (v := ?_) rfl (by kernel_rfl) (by kernel_rfl) (by kernel_rfl) (fun _ _ _ h => h) (Or.inl ⟨by rfl, ?_⟩) (by assumption) ?_
      rotate_left
      · (intro w hSw; (try dsimp only at hSw); go_simp; try with_reducible rfl)
      simp only [Act.put, List.setIfInBounds_toArray, List.set_cons_zero, List.set_cons_succ]
      refine wpAnyH_take (i := 9) (oi := ⟨some _, _, _, _, _, _⟩) (v := ?_) rfl (by kernel_rfl) (by kernel_rfl) (by kernel_rfl) (fun _ _ _ h => h) (Or.inl ⟨by rfl, ?_⟩) (by assumption) ?_
      rotate_left
      · (intro w hSw; (try dsimp only at hSw); go_simp; try with_reducible rfl)
      simp only [Act.put, List.setIfInBounds_toArray, List.set_cons_zero, List.set_cons_succ]
      refine wpAnyH_take (i := 10) (oi := ⟨some _, _, _, _, _, _⟩) (v := ?_) rfl (by kernel_rfl) (by kernel_rfl) (by kernel_rfl) (fun _ _ _ h => h) (Or.inl ⟨by rfl, ?_⟩) (by assumption) ?_
      rotate_left
      · (intro w hSw; (try dsimp only at hSw); go_simp; try with_reducible rfl)
      simp only [Act.put, List.setIfInBounds_toArray, List.set_cons_zero, List.set_cons_succ]
      refine wpAnyH_take (i := 11) (oi := ⟨some _, _, _, _, _, _⟩) (v := ?_) rfl (by kernel_rfl) (by kernel_rfl) (by kernel_rfl) (fun _ _ _ h => h) (Or.inl ⟨by rfl, ?_⟩) (by assumption) ?_
      rotate_left
      · (intro w hSw; (try dsimp only at hSw); go_simp; try with_reducible rfl)
      simp only [Act.put, List.setIfInBounds_toArray, List.set_cons_zero, List.set_cons_succ]
      refine wpAnyH_take (i := 12) (oi := ⟨some _, _, _, _, _, _⟩) (v := ?_) rfl (by kernel_rfl) (by kernel_rfl) (by kernel_rfl) (fun _ _ _ h => h) (Or.inl ⟨by rfl, ?_⟩) (by assumption) ?_
      rotate_left
      · (intro w hSw; (try dsimp only at hSw); go_simp; try with_reducible rfl)
      simp only [Act.put, List.setIfInBounds_toArray, List.set_cons_zero, List.set_cons_succ]
      refine wpAnyH_take (i := 13) (oi := ⟨some _, _, _, _, _, _⟩) (v := ?_) rfl (by kernel_rfl) (by kernel_rfl) (by kernel_rfl) (fun _ _ _ h => h) (Or.inl ⟨by rfl, ?_⟩) (by assumption) ?_
      rotate_left
      · (intro w hSw; (try dsimp only at hSw); go_simp; try with_reducible rfl)
      simp only [Act.put, List.setIfInBounds_toArray, List.set_cons_zero, List.set_cons_succ]
      refine wpAnyH_take (i := 14) (oi := ⟨some _, _, _, _, _, _⟩) (v := ?_) rfl (by kernel_rfl) (by kernel_rfl) (by kernel_rfl) (fun _ _ _ h => h) (Or.inl ⟨by rfl, ?_⟩) (by assumption) ?_
      rotate_left
      · (intro w hSw; (try dsimp only at hSw); go_simp; try with_reducible rfl)
      simp only [Act.put, List.setIfInBounds_toArray, List.set_cons_zero, List.set_cons_succ]
      refine wpAnyH_take (i := 15) (oi := ⟨some _, _, _, _, _, _⟩) (v := ?_) rfl (by kernel_rfl) (by kernel_rfl) (by kernel_rfl) (fun _ _ _ h => h) (Or.inl ⟨by rfl, ?_⟩) (by assumption) ?_
      rotate_left
      · (intro w hSw; (try dsimp only at hSw); go_simp; try with_reducible rfl)
      simp only [Act.put, List.setIfInBounds_toArray, List.set_cons_zero, List.set_cons_succ]
      refine wpAnyH_take (i := 16) (oi := ⟨some _, _, _, _, _, _⟩) (v := ?_) rfl (by kernel_rfl) (by kernel_rfl) (by kernel_rfl) (fun _ _ _ h => h) (Or.inl ⟨by rfl, ?_⟩) (by assumption) ?_
      rotate_left
      · (intro w hSw; (try dsimp only at hSw); go_simp; try with_reducible rfl)
      simp only [Act.put, List.setIfInBounds_toArray, List.set_cons_zero, List.set_cons_succ]
      refine wpAnyH_take (i := 17) (oi := ⟨some _, _, _, _, _, _⟩) (v := ?_) rfl (by kernel_rfl) (by kernel_rfl) (by kernel_rfl) (fun _ _ _ h => h) (Or.inl ⟨by rfl, ?_⟩) (by assumption) ?_
      rotate_left
      · (intro w hSw; (try dsimp only at hSw); go_simp; try with_reducible rfl)
      simp only [Act.put, List.setIfInBounds_toArray, List.set_cons_zero, List.set_cons_succ]
      refine wpAnyH_take (i := 18) (oi := ⟨some _, _, _, _, _, _⟩) (v := ?_) rfl (by kernel_rfl) (by kernel_rfl) (by kernel_rfl) (fun _ _ _ h => h) (Or.inl ⟨by rfl, ?_⟩) (by assumption) ?_
      rotate_left
      · (intro w hSw; (try dsimp only at hSw); go_simp; try with_reducible rfl)
      simp only [Act.put, List.setIfInBounds_toArray, List.set_cons_zero, List.set_cons_succ]
      refine wpAnyH_take (i := 19) (oi := ⟨some _, _, _, _, _, _⟩) (v := ?_) rfl (by kernel_rfl) (by kernel_rfl) (by kernel_rfl) (fun _ _ _ h => h) (Or.inl ⟨by rfl, ?_⟩) (by assumption) ?_
      rotate_left
      · (intro w hSw; (try dsimp only at hSw); go_simp; try with_reducible rfl)
      simp only [Act.put, List.setIfInBounds_toArray, List.set_cons_zero, List.set_cons_succ]
      refine wpAnyH_take (i := 20) (oi := ⟨some _, _, _, _, _, _⟩) (v := ?_) rfl (by kernel_rfl) (by kernel_rfl) (by kernel_rfl) (fun _ _ _ h => h) (Or.inl ⟨by rfl, ?_⟩) (by assumption) ?_
      rotate_left
      · (intro w hSw; (try dsimp only at hSw); go_simp; try with_reducible rfl)
      simp only [Act.put, List.setIfInBounds_toArray, List.set_cons_zero, List.set_cons_succ]
      refine wpAnyH_take (i := 21) (oi := ⟨some _, _, _, _, _, _⟩) (v := ?_) rfl (by kernel_rfl) (by kernel_rfl) (by kernel_rfl) (fun _ _ _ h => h) (Or.inl ⟨by rfl, ?_⟩) (by assumption) ?_
      rotate_left
      · (intro w hSw; (try dsimp only at hSw); go_simp; try with_reducible rfl)
      simp only [Act.put, List.setIfInBounds_toArray, List.set_cons_zero, List.set_cons_succ]
      refine wpAnyH_take (i := 22) (oi := ⟨some _, _, _, _, _, _⟩) (v := ?_) rfl (by kernel_rfl) (by kernel_rfl) (by kernel_rfl) (fun _ _ _ h => h) (Or.inl ⟨by rfl, ?_⟩) (by assumption) ?_
      rotate_left
      · (intro w hSw; (try dsimp only at hSw); go_simp; try with_reducible rfl)
      simp only [Act.put, List.setIfInBounds_toArray, List.set_cons_zero, List.set_cons_succ]
      refine wpAnyH_ready (rs := [23]) (by kernel_rfl) (by simp) ?_
      refine AllReadyH.cons rfl (fun K hK => ?_) AllReadyH.nil
      go_simp
      go_at_call 62
      refine (HM.out _).mono ?_
      rintro e w8 ⟨rfl, hw8⟩
      subst hw8
      refine hK.out _ _ hHeld (fun hHeld => ?_)
      clear hK K
      try simp only [Act.put, List.setIfInBounds_toArray, List.set_cons_zero, List.set_cons_succ]
      refine wpAnyH_take (i := 24) (oi := ⟨some _, _, _, _, _, _⟩) (v := ?_) rfl (by kernel_rfl) (by kernel_rfl) (by kernel_rfl) (fun _ _ _ h => h) (Or.inl ⟨by rfl, ?_⟩) (by assumption) ?_
      rotate_left
      · (intro w hSw; (try dsimp only at hSw); go_simp; try with_reducible rfl)
      simp only [Act.put, List.setIfInBounds_toArray, List.set_cons_zero, List.set_cons_succ]
      refine wpAnyH_ready (rs := [25]) (by kernel_rfl) (by simp) ?_
      refine AllReadyH.cons rfl (fun K hK => ?_) AllReadyH.nil
      go_simp
      refine hK.out _ _ ⟨cell_bel hbd b4, cell_bel hbd a1, cell_bel hbd a2, cell_bel hbd a3, cell_bel hbd t0, cell_bel hbd t1, cell_bel hbd z0⟩ (fun hHeld => ?_)
      clear hK K
      try simp only [Act.put, List.setIfInBounds_toArray, List.set_cons_zero, List.set_cons_succ]
      refine wpAnyH_ready (rs := [26]) (by kernel_rfl) (by simp) ?_
      refine AllReadyH.cons (o := ⟨some _, _, _, _, _, _⟩) rfl (fun K hK => ?_) AllReadyH.nil
      refine step_append_any (by rfl) _ _ _ (by rfl) w7.heap.size 3 _ _ 1 8 Tryz.underlying47 HI.out.1 HI.out.2.1 HI.out.2.2.1 HI.out.2.2.2 rfl (by omega) (.slice none 0 0) 0 ([]) rfl (World.ownsRow_nil _ _ _ _) (some ⟨w7.drew.heap.size, 0, none⟩) 1 1 (w7.drew.heap.size + 1) [.int .i64 41] rfl (fun e => by cases e) (Rd.more (Rd.of_blk (cs := [.int .i64 41]) (n := 1) (sz := 1) (by repeat (first | (refine Blk.new' _ _ _ _ ?_; first | rfl | (simp <;> omega)) | refine Blk.al ?_ _ | refine Blk.dr ?_ | refine Blk.drN ?_ _ | refine Blk.far ?_ (by first | omega | (simp; omega)))) rfl) (by simp)) ((List.all_eq_true (p := fun (u : Value) => u.oneCell')).1 (by rfl)) (by simp only [maxLen]; omega) (by omega) (by simp; try omega) ?_; intro va wa hoa hga hta; obtain ⟨ga, ca, rfl, hca, hgA, _⟩ := own_cs hoa (by omega)
      have hba : Below w7.heap.size w7 wa := hbd.trans (Below.mono (bel_grow hga) (by simp))
      refine hK.out _ _ ⟨cell_bel hba b4, cell_bel hba a1, cell_bel hba a2, cell_bel hba a3, cell_bel hba t0, cell_bel hba t1, cell_bel hba z0⟩ (fun hHeld => ?_)
      clear hK K
      try simp only [Act.put, List.setIfInBounds_toArray, List.set_cons_zero, List.set_cons_succ]
      refine wpAnyH_ready (rs := [27]) (by kernel_rfl) (by simp) ?_
      refine AllReadyH.cons rfl (fun K hK => ?_) AllReadyH.nil
      go_simp
      refine hK.out _ _ hHeld (fun hHeld => ?_)
      clear hK K
      refine wpAnyH_ready (rs := [28]) (by kernel_rfl) (by simp) ?_
      refine AllReadyH.cons rfl (fun K hK => ?_) AllReadyH.nil
      go_simp
      refine hK.out _ _ hHeld (fun hHeld => ?_)
      clear hK K
      refine wpAnyH_ready (rs := [29]) (by kernel_rfl) (by simp) ?_
      refine AllReadyH.cons rfl (fun K hK => ?_) AllReadyH.nil
      go_simp
      refine hK.out _ _ hHeld (fun hHeld => ?_)
      clear hK K
      refine wpAnyH_done (by kernel_rfl) ?_ _
      simp only [cutQ, List.drop_succ_cons, List.drop_zero]
      have hgB : ga ≠ B := by omega
      have hga2 : B < ga := by omega
      have HSA := Lib.hid (HS7.out.go hba)
      have HZ8 := Lib.hid (HZA.out.same (hba.block _ HZA.out.lt))
      have HCA := Lib.hid hca
      clear hHeld hoa hga hta hca hba hbd HS7 HZA HM b4 bl t0 t1 tl z0 zl
      clear a0 a1 a2 a3 al
      have y4 := HSA.out.x.cell 4
      have fy4 := HSA.out.x.frozen 4
      have yl := HSA.out.x.lt
      simp at y4
      go_upto_region 11 with fail
      refine world_gen (fun w9 => JoS w w9 L P N Z gl B (.slice none 0 0) (.slice (some ⟨ga, 0, none⟩) 1 ca) (.slice none 0 0) (.slice none 0 0) ∧ Blk w9 Q 138 acL.toArray ∧ Cs w9 ga [.int .i64 41]) ⟨HSA.out.st 4 _ rfl, HZ8.out.far (by omega), HCA.out.tw (Tw.set _ _ _ _) hgB⟩ ?_
      rintro w9 ⟨hs9, hz9, hc9⟩
      have HS9 := Lib.hid hs9
      have HZA := Lib.hid hz9
      have HC9 := Lib.hid hc9
      clear hs9 hz9 hc9 HSA HZ8 HCA y4 fy4 yl
      have a0 := HZA.out.cell 0
      have a1 := HZA.out.cell 1
      have a2 := HZA.out.cell 2
      have a3 := HZA.out.cell 3
      have al := HZA.out.lt
      simp at a0 a1 a2 a3
      go_upto_region 12 with fail
      have b3 := HS9.out.x.cell 3
      have bl := HS9.out.x.lt
      have l0 := HS9.out.l.cell 0
      have ll := HS9.out.l.lt
      simp at b3 l0
      have hbd : Below w9.heap.size w9 (w9.drew.alloc (.cells #[.int .i64 0] 3)) := (Below.refl _ w9).drew.alloc (Nat.le_refl _) _
      refine wp_region_cut 17 (by kernel_rfl) (by kernel_rfl) ?_
      simp only [dulled, dull, List.take_succ_cons, List.take_zero, List.drop_succ_cons, List.drop_zero, List.map_cons, List.map_nil, List.cons_append, List.nil_append]
      refine wpAny_of_held (S := fun W => W.cell? ⟨B, 3, none⟩ = some (.slice (some ⟨gl, 0, none⟩) 2 2) ∧ W.cell? ⟨Q, 1, none⟩ = some (.int .i64 0) ∧ W.cell? ⟨gl, 0, none⟩ = some (.slice none 0 0)) _ _ _ _ ?_
      change wpAnyH _ _ _ _ _ 19 _ _ (World.drew w9)
      have hHeld : (fun W => W.cell? ⟨B, 3, none⟩ = some (.slice (some ⟨gl, 0, none⟩) 2 2) ∧ W.cell? ⟨Q, 1, none⟩ = some (.int .i64 0) ∧ W.cell? ⟨gl, 0, none⟩ = some (.slice none 0 0)) (World.drew w9) := ⟨b3, a1, l0⟩
      refine wpAnyH_take (i := 0) (oi := ⟨some _, _, _, _, _, _⟩) (v := ?_) rfl (by kernel_rfl) (by kernel_rfl) (by kernel_rfl) (fun _ _ _ h => h) (Or.inl ⟨by rfl, ?_⟩) (by assumption) ?_
      rotate_left
      · (intro w hSw; (try dsimp only at hSw); go_simp; try with_reducible rfl)
      simp only [Act.put, List.setIfInBounds_toArray, List.set_cons_zero, List.set_cons_succ]
      refine wpAnyH_take (i := 1) (oi := ⟨some _, _, _, _, _, _⟩) (v := ?_) rfl (by kernel_rfl) (by kernel_rfl) (by kernel_rfl) (fun _ _ _ h => h) (Or.inl ⟨by rfl, ?_⟩) (by assumption) ?_
      rotate_left
      · (intro w hSw; (try dsimp only at hSw); go_simp; try with_reducible rfl)
      simp only [Act.put, List.setIfInBounds_toArray, List.set_cons_zero, List.set_cons_succ]
      refine wpAnyH_take (i := 2) (oi := ⟨some _, _, _, _, _, _⟩) (v := ?_) rfl (by kernel_rfl) (by kernel_rfl) (by kernel_rfl) (fun _ _ _ h => h) (Or.inl ⟨by rfl, ?_⟩) (by assumption) ?_
      rotate_left
      · (intro w hSw; (try dsimp only at hSw); go_simp; try with_reducible rfl)
      simp only [Act.put, List.setIfInBounds_toArray, List.set_cons_zero, List.set_cons_succ]
      refine wpAnyH_take (i := 3) (oi := ⟨some _, _, _, _, _, _⟩) (v := ?_) rfl (by kernel_rfl) (by kernel_rfl) (by kernel_rfl) (fun _ _ _ h => h) (Or.inl ⟨by rfl, ?_⟩) (by assumption) ?_
      rotate_left
      · (intro w hSw; (try dsimp only at hSw); go_simp; try with_reducible rfl)
      simp only [Act.put, List.setIfInBounds_toArray, List.set_cons_zero, List.set_cons_succ]
      refine wpAnyH_take (i := 4) (oi := ⟨some _, _, _, _, _, _⟩) (v := ?_) rfl (by kernel_rfl) (by kernel_rfl) (by kernel_rfl) (fun _ _ _ h => h) (Or.inl ⟨by rfl, ?_⟩) (by assumption) ?_
      rotate_left
      · (intro w hSw; (try dsimp only at hSw); go_simp; try with_reducible rfl)
      simp only [Act.put, List.setIfInBounds_toArray, List.set_cons_zero, List.set_cons_succ]
      refine wpAnyH_take (i := 5) (oi := ⟨some _, _, _, _, _, _⟩) (v := ?_) rfl (by kernel_rfl) (by kernel_rfl) (by kernel_rfl) (fun _ _ _ h => h) (Or.inl ⟨by rfl, ?_⟩) (by assumption) ?_
      rotate_left
      · (intro w hSw; (try dsimp only at hSw); go_simp; try with_reducible rfl)
      simp only [Act.put, List.setIfInBounds_toArray, List.set_cons_zero, List.set_cons_succ]
      refine wpAnyH_take (i := 6) (oi := ⟨some _, _, _, _, _, _⟩) (v := ?_) rfl (by kernel_rfl) (by kernel_rfl) (by kernel_rfl) (fun _ _ _ h => h) (Or.inl ⟨by rfl, ?_⟩) (by assumption) ?_
      rotate_left
      · (intro w hSw; (try dsimp only at hSw); go_simp; try with_reducible rfl)
      simp only [Act.put, List.setIfInBounds_toArray, List.set_cons_zero, List.set_cons_succ]
      refine wpAnyH_take (i := 7) (oi := ⟨some _, _, _, _, _, _⟩) (v := ?_) rfl (by kernel_rfl) (by kernel_rfl) (by kernel_rfl) (fun _ _ _ h => h) (Or.inl ⟨by rfl, ?_⟩) (by assumption) ?_
      rotate_left
      · (intro w hSw; (try dsimp only at hSw); go_simp; try with_reducible rfl)
      simp only [Act.put, List.setIfInBounds_toArray, List.set_cons_zero, List.set_cons_succ]
      refine wpAnyH_take (i := 8) (oi := ⟨some _, _, _, _, _, _⟩) (v := ?_) rfl (by kernel_rfl) (by kernel_rfl) (by kernel_rfl) (fun _ _ _ h => h) (Or.inl ⟨by rfl, ?_⟩) (by assumption) ?_
      rotate_left
      · (intro w hSw; (try dsimp only at hSw); go_simp; try with_reducible rfl)
      simp only [Act.put, List.setIfInBounds_toArray, List.set_cons_zero, List.set_cons_succ]
      refine wpAnyH_take (i := 9) (oi := ⟨some _, _, _, _, _, _⟩) (v := ?_) rfl (by kernel_rfl) (by kernel_rfl) (by kernel_rfl) (fun _ _ _ h => h) (Or.inl ⟨by rfl, ?_⟩) (by assumption) ?_
      rotate_left
      · (intro w hSw; (try dsimp only at hSw); go_simp; try with_reducible rfl)
      simp only [Act.put, List.setIfInBounds_toArray, List.set_cons_zero, List.set_cons_succ]
      refine wpAnyH_take (i := 10) (oi := ⟨some _, _, _, _, _, _⟩) (v := ?_) rfl (by kernel_rfl) (by kernel_rfl) (by kernel_rfl) (fun _ _ _ h => h) (Or.inl ⟨by rfl, ?_⟩) (by assumption) ?_
      rotate_left
      · (intro w hSw; (try dsimp only at hSw); go_simp; try with_reducible rfl)
      simp only [Act.put, List.setIfInBounds_toArray, List.set_cons_zero, List.set_cons_succ]
      refine wpAnyH_take (i := 11) (oi := ⟨some _, _, _, _, _, _⟩) (v := ?_) rfl (by kernel_rfl) (by kernel_rfl) (by kernel_rfl) (fun _ _ _ h => h) (Or.inl ⟨by rfl, ?_⟩) (by assumption) ?_
      rotate_left
      · (intro w hSw; (try dsimp only at hSw); go_simp; try with_reducible rfl)
      simp only [Act.put, List.setIfInBounds_toArray, List.set_cons_zero, List.set_cons_succ]
      refine wpAnyH_take (i := 12) (oi := ⟨some _, _, _, _, _, _⟩) (v := ?_) rfl (by kernel_rfl) (by kernel_rfl) (by kernel_rfl) (fun _ _ _ h => h) (Or.inl ⟨by rfl, ?_⟩) (by assumption) ?_
      rotate_left
      · (intro w hSw; (try dsimp only at hSw); go_simp; try with_reducible rfl)
      simp only [Act.put, List.setIfInBounds_toArray, List.set_cons_zero, List.set_cons_succ]
      refine wpAnyH_take (i := 13) (oi := ⟨some _, _, _, _, _, _⟩) (v := ?_) rfl (by kernel_rfl) (by kernel_rfl) (by kernel_rfl) (fun _ _ _ h => h) (Or.inl ⟨by rfl, ?_⟩) (by assumption) ?_
      rotate_left
      · (intro w hSw; (try dsimp only at hSw); go_simp; try with_reducible rfl)
      simp only [Act.put, List.setIfInBounds_toArray, List.set_cons_zero, List.set_cons_succ]
      refine wpAnyH_take (i := 14) (oi := ⟨some _, _, _, _, _, _⟩) (v := ?_) rfl (by kernel_rfl) (by kernel_rfl) (by kernel_rfl) (fun _ _ _ h => h) (Or.inl ⟨by rfl, ?_⟩) (by assumption) ?_
      rotate_left
      · (intro w hSw; (try dsimp only at hSw); go_simp; try with_reducible rfl)
      simp only [Act.put, List.setIfInBounds_toArray, List.set_cons_zero, List.set_cons_succ]
      refine wpAnyH_ready (rs := [15]) (by kernel_rfl) (by simp) ?_
      refine AllReadyH.cons rfl (fun K hK => ?_) AllReadyH.nil
      go_simp
      refine hK.out _ _ ⟨cell_bel hbd b3, cell_bel hbd a1, cell_bel hbd l0⟩ (fun hHeld => ?_)
      clear hK K
      try simp only [Act.put, List.setIfInBounds_toArray, List.set_cons_zero, List.set_cons_succ]
      refine wpAnyH_ready (rs := [16]) (by kernel_rfl) (by simp) ?_
      refine AllReadyH.cons (o := ⟨some _, _, _, _, _, _⟩) rfl (fun K hK => ?_) AllReadyH.nil
      refine step_append_any (by rfl) _ _ _ (by rfl) w9.heap.size 3 _ _ 1 8 Tryz.underlying47 HI.out.1 HI.out.2.1 HI.out.2.2.1 HI.out.2.2.2 rfl (by omega) (.slice none 0 0) 0 ([]) rfl (World.ownsRow_nil _ _ _ _) (some ⟨w9.drew.heap.size, 0, none⟩) 1 1 (w9.drew.heap.size + 1) [.int .i64 0] rfl (fun e => by cases e) (Rd.more (Rd.of_blk (cs := [.int .i64 0]) (n := 1) (sz := 1) (by repeat (first | (refine Blk.new' _ _ _ _ ?_; first | rfl | (simp <;> omega)) | refine Blk.al ?_ _ | refine Blk.dr ?_ | refine Blk.drN ?_ _ | refine Blk.far ?_ (by first | omega | (simp; omega)))) rfl) (by simp)) ((List.all_eq_true (p := fun (u : Value) => u.oneCell')).1 (by rfl)) (by simp only [maxLen]; omega) (by omega) (by simp; try omega) ?_; intro vb wb hob hgb htb; obtain ⟨gb, cb, rfl, hcb, hgB, _⟩ := own_cs hob (by omega)
      have hba : Below w9.heap.size w9 wb := hbd.trans (Below.mono (bel_grow hgb) (by simp))
      refine hK.out _ _ ⟨cell_bel hba b3, cell_bel hba a1, cell_bel hba l0⟩ (fun hHeld => ?_)
      clear hK K
      try simp only [Act.put, List.setIfInBounds_toArray, List.set_cons_zero, List.set_cons_succ]
      refine wpAnyH_ready (rs := [17]) (by kernel_rfl) (by simp) ?_
      refine AllReadyH.cons rfl (fun K hK => ?_) AllReadyH.nil
      go_simp
      refine hK.out _ _ hHeld (fun hHeld => ?_)
      clear hK K
      refine wpAnyH_ready (rs := [18]) (by kernel_rfl) (by simp) ?_
      refine AllReadyH.cons rfl (fun K hK => ?_) AllReadyH.nil
      go_simp
      refine hK.out _ _ hHeld (fun hHeld => ?_)
      clear hK K
      refine wpAnyH_done (by kernel_rfl) ?_ _
      simp only [cutQ, List.drop_succ_cons, List.drop_zero]
      have HSB := Lib.hid (HS9.out.go hba)
      have HCB := Lib.hid hcb
      have HCD := Lib.hid (HC9.out.go hba)
      have hgl1 := HS9.out.g2
      have hBl9 := HS9.out.x.lt
      clear hHeld hob hgb htb hcb hba hbd HS9 HZA HC9 b3 bl l0 ll
      clear a0 a1 a2 a3 al
      have y0 := HSB.out.l.cell 0
      have fy0 := HSB.out.l.frozen 0
      have yl := HSB.out.l.lt
      simp at y0
      go_wp2_with fail
      go_roundg 0
      case measure => omega
      case rel => exact .inr ⟨rfl, rfl, gb, cb, ga, ca, HSB.out.stq _, HCB.out.tw (Tw.set _ _ _ _) (by omega), HCD.out.tw (Tw.set _ _ _ _) (by omega), by omega, hga2⟩
    · have HS := Lib.hid hs
      have HR := Lib.hid (And.intro hgq hgd)
      clear hs hgq hgd HJ6
      have z0 := (HS.out.v).z.cell 0
      have z1 := (HS.out.v).z.cell 1
      have z2 := (HS.out.v).z.cell 2
      have zl := (HS.out.v).z.lt
      simp at z0 z1 z2
      have HP2 := Lib.hid (show Jp1 w L P N Z gl B gq cq gd cd wr.heap.size 2 (.int .i64 0) wr from ⟨0, .slice none 0 0, .slice none 0 0, rfl, rfl, HS.out, HR.out.1, HR.out.2, Nat.le_refl _, World.ownsRow_nil _ _ _ _, World.ownsRow_nil _ _ _ _, fun k hk => by simp [Value.ownBlock] at hk, hB1, HR.out.1.lt, hB2, HR.out.2.lt, HS.out.x.lt⟩)
      clear HS HR hB1 hB2
      generalize wr.heap.size = M at *
      go_wp2_with fail
      clear z0 z1 z2 zl
      go_loopg [111] 2 (fun k v wr => Jp1 w L P N Z gl B gq cq gd cd M k v wr)
      case atStart => exact HP2.out
      case round =>
        obtain ⟨j, vs, vp, rfl, hj, hs⟩ := hrel
        have HS := Lib.hid hs
        have Hj := Lib.hid hj
        clear hs hj HP2
        by_cases hlt : j < 2
        · have hj2 : (j : Int) < 2 := by omega
          have hj0 : (0 : Int) ≤ (j : Int) := by omega
          obtain ⟨As, cs, rfl, _, _⟩ := own_slice HS.out.os
          obtain ⟨Ap, cp, rfl, _, _⟩ := own_slice HS.out.op
          obtain ⟨e0, e1, e2⟩ := HS.out.s.v.n.evt j hlt
          have el := HS.out.s.v.n.ev.lt
          go_upto_region 17 with fail
          refine world_gen (fun w3 => JpS w w3 L P N Z gl B gq cq gd cd M j (.slice As j cs) (.slice Ap j cp) j j ∧ Blk w3 wr.heap.size 162 #[.int .i64 ((j : Int) + 1), .int .i64 0, .int .i64 0]) ⟨HS.out.go ((Below.refl _ _).alloc (Nat.le_refl _) _), (by repeat (first | (refine Blk.new' _ _ _ _ ?_; first | rfl | (simp <;> omega)) | refine Blk.al ?_ _ | refine Blk.dr ?_ | refine Blk.drN ?_ _ | refine Blk.far ?_ (by first | omega | (simp; omega))))⟩ ?_
          rintro w3 ⟨hs3, hz3⟩
          have HS3 := Lib.hid hs3
          have HZ3 := Lib.hid hz3
          clear hs3 hz3 HS e0 e1 e2 el
          generalize wr.heap.size = Q at *
          have hpm := HP.out.go HS3.out.s.v.p.b
          have r0 : w3.cell? ⟨P.ro, 0, none⟩ = some (.slice (some ⟨P.sp, 0, none⟩) 3 P.cs) := hpm.ro.c 0 _ rfl
          have r1 : w3.cell? ⟨P.ro, 1, none⟩ = some (.int .i64 0) := hpm.ro.c 1 _ rfl
          have rl := hpm.ro.lt
          have l3 : w3.cell? ⟨P.li, 3, none⟩ = some (.slice (some ⟨P.ri, 0, none⟩) 1 P.cr) := hpm.li.c 3 _ rfl
          have ll := hpm.li.lt
          have i0' : w3.cell? ⟨P.ri, 0, none⟩ = some (.int .i64 0) := hpm.ri.c 0 _ rfl
          have il := hpm.ri.lt
          have z1 := HZ3.out.cell 1
          have z2 := HZ3.out.cell 2
          have zl := HZ3.out.lt
          have y2 := HS3.out.s.v.p.y.cell 2
          have y3 := HS3.out.s.v.p.y.cell 3
          have yl := HS3.out.s.v.p.y.lt
          simp at z1 z2 y2 y3
          clear hpm
          have hbd : ∀ o, Below w3.heap.size w3 (w3.drew.alloc o) := fun o => (Below.refl _ w3).drew.alloc (Nat.le_refl _) _
          refine wp_region_cut 17 (by kernel_rfl) (by kernel_rfl) ?_
          simp only [dulled, dull, List.take_succ_cons, List.take_zero, List.drop_succ_cons, List.drop_zero, List.map_cons, List.map_nil, List.cons_append, List.nil_append]
          refine wpAny_of_held (S := fun W => W.cell? ⟨P.ro, 0, none⟩ = some (.slice (some ⟨P.sp, 0, none⟩) 3 P.cs) ∧ W.cell? ⟨P.ro, 1, none⟩ = some (.int .i64 0) ∧ W.cell? ⟨P.li, 3, none⟩ = some (.slice (some ⟨P.ri, 0, none⟩) 1 P.cr) ∧ W.cell? ⟨P.ri, 0, none⟩ = some (.int .i64 0) ∧ W.cell? ⟨Q, 1, none⟩ = some (.int .i64 0) ∧ W.cell? ⟨Q, 2, none⟩ = some (.int .i64 0) ∧ W.cell? ⟨w.heap.size + 1, 2, none⟩ = some (.slice (some ⟨P.ro, 0, none⟩) 1 P.c2) ∧ W.cell? ⟨w.heap.size + 1, 3, none⟩ = some (.slice (some ⟨P.li, 0, none⟩) 1 P.c3)) _ _ _ _ ?_
          change wpAnyH _ _ _ _ _ 18 _ _ (World.drew w3)
          have hHeld : (fun W => W.cell? ⟨P.ro, 0, none⟩ = some (.slice (some ⟨P.sp, 0, none⟩) 3 P.cs) ∧ W.cell? ⟨P.ro, 1, none⟩ = some (.int .i64 0) ∧ W.cell? ⟨P.li, 3, none⟩ = some (.slice (some ⟨P.ri, 0, none⟩) 1 P.cr) ∧ W.cell? ⟨P.ri, 0, none⟩ = some (.int .i64 0) ∧ W.cell? ⟨Q, 1, none⟩ = some (.int .i64 0) ∧ W.cell? ⟨Q, 2, none⟩ = some (.int .i64 0) ∧ W.cell? ⟨w.heap.size + 1, 2, none⟩ = some (.slice (some ⟨P.ro, 0, none⟩) 1 P.c2) ∧ W.cell? ⟨w.heap.size + 1, 3, none⟩ = some (.slice (some ⟨P.li, 0, none⟩) 1 P.c3)) (World.drew w3) := ⟨r0, r1, l3, i0', z1, z2, y2, y3⟩
          refine wpAnyH_take (i := 0) (oi := ⟨some _, _, _, _, _, _⟩) (v := ?_) rfl (by kernel_rfl) (by kernel_rfl) (by kernel_rfl) (fun _ _ _ h => h) (Or.inl ⟨by rfl, ?_⟩) (by assumption) ?_
          rotate_left
          · (intro w hSw; (try dsimp only at hSw); go_simp; try with_reducible rfl)
          simp only [Act.put, List.setIfInBounds_toArray, List.set_cons_zero, List.set_cons_succ]
          refine wpAnyH_take (i := 1) (oi := ⟨some _, _, _, _, _, _⟩) (v := ?_) rfl (by kernel_rfl) (by kernel_rfl) (by kernel_rfl) (fun _ _ _ h => h) (Or.inl ⟨by rfl, ?_⟩) (by assumption) ?_
          rotate_left
          · (intro w hSw; (try dsimp only at hSw); go_simp; try with_reducible rfl)
          simp only [Act.put, List.setIfInBounds_toArray, List.set_cons_zero, List.set_cons_succ]
          refine wpAnyH_take (i := 2) (oi := ⟨some _, _, _, _, _, _⟩) (v := ?_) rfl (by kernel_rfl) (by kernel_rfl) (by kernel_rfl) (fun _ _ _ h => h) (Or.inl ⟨by rfl, ?_⟩) (by assumption) ?_
          rotate_left
          · (intro w hSw; (try dsimp only at hSw); go_simp; try with_reducible rfl)
          simp only [Act.put, List.setIfInBounds_toArray, List.set_cons_zero, List.set_cons_succ]
          refine wpAnyH_take (i := 3) (oi := ⟨some _, _, _, _, _, _⟩) (v := ?_) rfl (by kernel_rfl) (by kernel_rfl) (by kernel_rfl) (fun _ _ _ h => h) (Or.inl ⟨by rfl, ?_⟩) (by assumption) ?_
          rotate_left
          · (intro w hSw; (try dsimp only at hSw); go_simp; try with_reducible rfl)
          simp only [Act.put, List.setIfInBounds_toArray, List.set_cons_zero, List.set_cons_succ]
          refine wpAnyH_take (i := 4) (oi := ⟨some _, _, _, _, _, _⟩) (v := ?_) rfl (by kernel_rfl) (by kernel_rfl) (by kernel_rfl) (fun _ _ _ h => h) (Or.inl ⟨by rfl, ?_⟩) (by assumption) ?_
          rotate_left
          · (intro w hSw; (try dsimp only at hSw); go_simp; try with_reducible rfl)
          simp only [Act.put, List.setIfInBounds_toArray, List.set_cons_zero, List.set_cons_succ]
          refine wpAnyH_take (i := 5) (oi := ⟨some _, _, _, _, _, _⟩) (v := ?_) rfl (by kernel_rfl) (by kernel_rfl) (by kernel_rfl) (fun _ _ _ h => h) (Or.inl ⟨by rfl, ?_⟩) (by assumption) ?_
          rotate_left
          · (intro w hSw; (try dsimp only at hSw); go_simp; try with_reducible rfl)
          simp only [Act.put, List.setIfInBounds_toArray, List.set_cons_zero, List.set_cons_succ]
          refine wpAnyH_take (i := 6) (oi := ⟨some _, _, _, _, _, _⟩) (v := ?_) rfl (by kernel_rfl) (by kernel_rfl) (by kernel_rfl) (fun _ _ _ h => h) (Or.inl ⟨by rfl, ?_⟩) (by assumption) ?_
          rotate_left
          · (intro w hSw; (try dsimp only at hSw); go_simp; try with_reducible rfl)
          simp only [Act.put, List.setIfInBounds_toArray, List.set_cons_zero, List.set_cons_succ]
          refine wpAnyH_take (i := 7) (oi := ⟨some _, _, _, _, _, _⟩) (v := ?_) rfl (by kernel_rfl) (by kernel_rfl) (by kernel_rfl) (fun _ _ _ h => h) (Or.inl ⟨by rfl, ?_⟩) (by assumption) ?_
          rotate_left
          · (intro w hSw; (try dsimp only at hSw); go_simp; try with_reducible rfl)
          simp only [Act.put, List.setIfInBounds_toArray, List.set_cons_zero, List.set_cons_succ]
          refine wpAnyH_take (i := 8) (oi := ⟨some _, _, _, _, _, _⟩) (v := ?_) rfl (by kernel_rfl) (by kernel_rfl) (by kernel_rfl) (fun _ _ _ h => h) (Or.inl ⟨by rfl, ?_⟩) (by assumption) ?_
          rotate_left
          · (intro w hSw; (try dsimp only at hSw); go_simp; try with_reducible rfl)
          simp only [Act.put, List.setIfInBounds_toArray, List.set_cons_zero, List.set_cons_succ]
          refine wpAnyH_take (i := 9) (oi := ⟨some _, _, _, _, _, _⟩) (v := ?_) rfl (by kernel_rfl) (by kernel_rfl) (by kernel_rfl) (fun _ _ _ h => h) (Or.inl ⟨by rfl, ?_⟩) (by assumption) ?_
          rotate_left
          · (intro w hSw; (try dsimp only at hSw); go_simp; try with_reducible rfl)
          simp only [Act.put, List.setIfInBounds_toArray, List.set_cons_zero, List.set_cons_succ]
          refine wpAnyH_take (i := 10) (oi := ⟨some _, _, _, _, _, _⟩) (v := ?_) rfl (by kernel_rfl) (by kernel_rfl) (by kernel_rfl) (fun _ _ _ h => h) (Or.inl ⟨by rfl, ?_⟩) (by assumption) ?_
          rotate_left
          · (intro w hSw; (try dsimp only at hSw); go_simp; try with_reducible rfl)
          simp only [Act.put, List.setIfInBounds_toArray, List.set_cons_zero, List.set_cons_succ]
          refine wpAnyH_take (i := 11) (oi := ⟨some _, _, _, _, _, _⟩) (v := ?_) rfl (by kernel_rfl) (by kernel_rfl) (by kernel_rfl) (fun _ _ _ h => h) (Or.inl ⟨by rfl, ?_⟩) (by assumption) ?_
          rotate_left
          · (intro w hSw; (try dsimp only at hSw); go_simp; try with_reducible rfl)
          simp only [Act.put, List.setIfInBounds_toArray, List.set_cons_zero, List.set_cons_succ]
          refine wpAnyH_take (i := 12) (oi := ⟨some _, _, _, _, _, _⟩) (v := ?_) rfl (by kernel_rfl) (by kernel_rfl) (by kernel_rfl) (fun _ _ _ h => h) (Or.inl ⟨by rfl, ?_⟩) (by assumption) ?_
          rotate_left
          · (intro w hSw; (try dsimp only at hSw); go_simp; try with_reducible rfl)
          simp only [Act.put, List.setIfInBounds_toArray, List.set_cons_zero, List.set_cons_succ]
          refine wpAnyH_take (i := 13) (oi := ⟨some _, _, _, _, _, _⟩) (v := ?_) rfl (by kernel_rfl) (by kernel_rfl) (by kernel_rfl) (fun _ _ _ h => h) (Or.inl ⟨by rfl, ?_⟩) (by assumption) ?_
          rotate_left
          · (intro w hSw; (try dsimp only at hSw); go_simp; try with_reducible rfl)
          simp only [Act.put, List.setIfInBounds_toArray, List.set_cons_zero, List.set_cons_succ]
          refine wpAnyH_take (i := 14) (oi := ⟨some _, _, _, _, _, _⟩) (v := ?_) rfl (by kernel_rfl) (by kernel_rfl) (by kernel_rfl) (fun _ _ _ h => h) (Or.inl ⟨by rfl, ?_⟩) (by assumption) ?_
          rotate_left
          · (intro w hSw; (try dsimp only at hSw); go_simp; try with_reducible rfl)
          simp only [Act.put, List.setIfInBounds_toArray, List.set_cons_zero, List.set_cons_succ]
          refine wpAnyH_take (i := 15) (oi := ⟨some _, _, _, _, _, _⟩) (v := ?_) rfl (by kernel_rfl) (by kernel_rfl) (by kernel_rfl) (fun _ _ _ h => h) (Or.inl ⟨by rfl, ?_⟩) (by assumption) ?_
          rotate_left
          · (intro w hSw; (try dsimp only at hSw); go_simp; try with_reducible rfl)
          simp only [Act.put, List.setIfInBounds_toArray, List.set_cons_zero, List.set_cons_succ]
          refine wpAnyH_ready (rs := [16]) (by kernel_rfl) (by simp) ?_
          refine AllReadyH.cons rfl (fun K hK => ?_) AllReadyH.nil
          go_simp
          refine hK.out _ _ ⟨cell_bel (hbd _) r0, cell_bel (hbd _) r1, cell_bel (hbd _) l3, cell_bel (hbd _) i0', cell_bel (hbd _) z1, cell_bel (hbd _) z2, cell_bel (hbd _) y2, cell_bel (hbd _) y3⟩ (fun hHeld => ?_)
          clear hK K
          try simp only [Act.put, List.setIfInBounds_toArray, List.set_cons_zero, List.set_cons_succ]
          refine wpAnyH_ready (rs := [17]) (by kernel_rfl) (by simp) ?_
          refine AllReadyH.cons rfl (fun K hK => ?_) AllReadyH.nil
          go_simp
          refine hK.out _ _ hHeld (fun hHeld => ?_)
          clear hK K
          refine wpAnyH_done (by kernel_rfl) ?_ _
          simp only [cutQ, List.drop_succ_cons, List.drop_zero]
          clear hHeld r0 r1 rl l3 ll i0' il z1 z2 zl y2 y3 yl
          go_upto_region 18 with fail
          refine world_gen (fun w4 => JpS w w4 L P N Z gl B gq cq gd cd M j (.slice As j cs) (.slice Ap j cp) j j ∧ Blk w4 w3.heap.size 44 (rtC P.sp P.cs)) ⟨HS3.out.go (by repeat (first | exact Below.refl _ _ | (with_reducible refine Below.drew ?_) | (with_reducible refine below_drewN ?_ _) | (with_reducible refine Below.alloc ?_ (by first | omega | (simp; done) | (simp; omega)) _) | (with_reducible refine Below.setCell ?_ (by first | omega | (simp; done) | (simp; omega)) _) | (refine Below.trans ?_ (Below.mono (by with_reducible assumption) (by first | omega | (simp; done) | (simp; omega)))))), (by repeat (first | (refine Blk.new' _ _ _ _ ?_; first | rfl | (simp <;> omega)) | refine Blk.al ?_ _ | refine Blk.dr ?_ | refine Blk.drN ?_ _ | refine Blk.far ?_ (by first | omega | (simp; omega))))⟩ ?_
          rintro w4 ⟨hs4, hz4⟩
          have hMQ : M ≤ w3.heap.size := HS3.out.z
          have hown3 := own_block HS3.out.os
          have hown3p := own_block HS3.out.op
          have HO3 := Lib.hid (And.intro hown3 hown3p)
          have HS4 := Lib.hid hs4
          have HZ4 := Lib.hid hz4
          clear hs4 hz4 HS3 HZ3 hbd hown3 hown3p
          generalize w3.heap.size = Q2 at *
          have hwM : w.heap.size + 1 < M := by have := HS4.out.s.v.g; have := HS4.out.s.g1; have := HS4.out.s.g2; have := HS4.out.g5; omega
          have hBM := HS4.out.g5
          have hpm := HP.out.go HS4.out.s.v.p.b
          have hlm := H.out.go HS4.out.s.v.p.b
          have p0 : w4.cell? ⟨P.sp, 0, none⟩ = some (.int .i64 0) := hpm.sp.c 0 _ rfl
          have pl := hpm.sp.lt
          have s4 : w4.cell? ⟨L.se, 4, none⟩ = some (.int .i64 0) := hlm.se.c 4 _ rfl
          have sl := hlm.se.lt
          have q0 := HZ4.out.cell 0
          have ql := HZ4.out.lt
          have x2 := HS4.out.s.v.p.x.cell 2
          have xl := HS4.out.s.v.p.x.lt
          have b5 := HS4.out.s.x.cell 5
          have bl := HS4.out.s.x.lt
          have hpP := HP.out.sp.lt
          have hlP := H.out.se.lt
          have hM4 := HS4.out.z
          simp at q0 x2 b5
          clear hpm hlm
          have hnr : ∀ k, (k < M ∨ k = Q2) → (Value.slice As j cs).ownBlock ≠ some k := fun k hk e => by have h1 := HO3.out.1 _ e; omega
          have hnrp : ∀ k, (k < M ∨ k = Q2) → (Value.slice Ap j cp).ownBlock ≠ some k := fun k hk e => by have h1 := HO3.out.2 _ e; omega
          have hbd : Below w4.heap.size w4 (w4.drew.alloc (.cells #[.int .i64 0] 3)) := (Below.refl _ w4).drew.alloc (Nat.le_refl _) _
          refine wp_region_cut 17 (by kernel_rfl) (by kernel_rfl) ?_
          simp only [dulled, dull, List.take_succ_cons, List.take_zero, List.drop_succ_cons, List.drop_zero, List.map_cons, List.map_nil, List.cons_append, List.nil_append]
          refine wpAny_of_held (S := fun W => W.cell? ⟨B, 5, none⟩ = some (.slice As j cs) ∧ W.cell? ⟨w.heap.size, 2, none⟩ = some (.slice (some ⟨L.se, 0, none⟩) 3 L.c3) ∧ W.cell? ⟨Q2, 0, none⟩ = some (.slice (some ⟨P.sp, 0, none⟩) 3 P.cs) ∧ W.cell? ⟨P.sp, 0, none⟩ = some (.int .i64 0) ∧ W.cell? ⟨L.se, 4, none⟩ = some (.int .i64 0)) _ _ _ _ ?_
          change wpAnyH _ _ _ _ _ 20 _ _ (World.drew w4)
          have hHeld : (fun W => W.cell? ⟨B, 5, none⟩ = some (.slice As j cs) ∧ W.cell? ⟨w.heap.size, 2, none⟩ = some (.slice (some ⟨L.se, 0, none⟩) 3 L.c3) ∧ W.cell? ⟨Q2, 0, none⟩ = some (.slice (some ⟨P.sp, 0, none⟩) 3 P.cs) ∧ W.cell? ⟨P.sp, 0, none⟩ = some (.int .i64 0) ∧ W.cell? ⟨L.se, 4, none⟩ = some (.int .i64 0)) (World.drew w4) := ⟨b5, x2, q0, p0, s4⟩
          refine wpAnyH_take (i := 0) (oi := ⟨some _, _, _, _, _, _⟩) (v := ?_) rfl (by kernel_rfl) (by kernel_rfl) (by kernel_rfl) (fun _ _ _ h => h) (Or.inl ⟨by rfl, ?_⟩) (by assumption) ?_
          rotate_left
          · (intro w hSw; (try dsimp only at hSw); go_simp; try with_reducible rfl)
          simp only [Act.put, List.setIfInBounds_toArray, List.set_cons_zero, List.set_cons_succ]
          refine wpAnyH_take (i := 1) (oi := ⟨some _, _, _, _, _, _⟩) (v := ?_) rfl (by kernel_rfl) (by kernel_rfl) (by kernel_rfl) (fun _ _ _ h => h) (Or.inl ⟨by rfl, ?_⟩) (by assumption) ?_
          rotate_left
          · (intro w hSw; (try dsimp only at hSw); go_simp; try with_reducible rfl)
          simp only [Act.put, List.setIfInBounds_toArray, List.set_cons_zero, List.set_cons_succ]
          refine wpAnyH_take (i := 2) (oi := ⟨some _, _, _, _, _, _⟩) (v := ?_) rfl (by kernel_rfl) (by kernel_rfl) (by kernel_rfl) (fun _ _ _ h => h) (Or.inl ⟨by rfl, ?_⟩) (by assumption) ?_
          rotate_left
          · (intro w hSw; (try dsimp only at hSw); go_simp; try with_reducible rfl)
          simp only [Act.put, List.setIfInBounds_toArray, List.set_cons_zero, List.set_cons_succ]
          refine wpAnyH_take (i := 3) (oi := ⟨some _, _, _, _, _, _⟩) (v := ?_) rfl (by kernel_rfl) (by kernel_rfl) (by kernel_rfl) (fun _ _ _ h => h) (Or.inl ⟨by rfl, ?_⟩) (by assumption) ?_
          rotate_left
          · (intro w hSw; (try dsimp only at hSw); go_simp; try with_reducible rfl)
          simp only [Act.put, List.setIfInBounds_toArray, List.set_cons_zero, List.set_cons_succ]
          refine wpAnyH_take (i := 4) (oi := ⟨some _, _, _, _, _, _⟩) (v := ?_) rfl (by kernel_rfl) (by kernel_rfl) (by kernel_rfl) (fun _ _ _ h => h) (Or.inl ⟨by rfl, ?_⟩) (by assumption) ?_
          rotate_left
          · (intro w hSw; (try dsimp only at hSw); go_simp; try with_reducible rfl)
          simp only [Act.put, List.setIfInBounds_toArray, List.set_cons_zero, List.set_cons_succ]
          refine wpAnyH_take (i := 5) (oi := ⟨some _, _, _, _, _, _⟩) (v := ?_) rfl (by kernel_rfl) (by kernel_rfl) (by kernel_rfl) (fun _ _ _ h => h) (Or.inl ⟨by rfl, ?_⟩) (by assumption) ?_
          rotate_left
          · (intro w hSw; (try dsimp only at hSw); go_simp; try with_reducible rfl)
          simp only [Act.put, List.setIfInBounds_toArray, List.set_cons_zero, List.set_cons_succ]
          refine wpAnyH_take (i := 6) (oi := ⟨some _, _, _, _, _, _⟩) (v := ?_) rfl (by kernel_rfl) (by kernel_rfl) (by kernel_rfl) (fun _ _ _ h => h) (Or.inl ⟨by rfl, ?_⟩) (by assumption) ?_
          rotate_left
          · (intro w hSw; (try dsimp only at hSw); go_simp; try with_reducible rfl)
          simp only [Act.put, List.setIfInBounds_toArray, List.set_cons_zero, List.set_cons_succ]
          refine wpAnyH_take (i := 7) (oi := ⟨some _, _, _, _, _, _⟩) (v := ?_) rfl (by kernel_rfl) (by kernel_rfl) (by kernel_rfl) (fun _ _ _ h => h) (Or.inl ⟨by rfl, ?_⟩) (by assumption) ?_
          rotate_left
          · (intro w hSw; (try dsimp only at hSw); go_simp; try with_reducible rfl)
          simp only [Act.put, List.setIfInBounds_toArray, List.set_cons_zero, List.set_cons_succ]
          refine wpAnyH_take (i := 8) (oi := ⟨some _, _, _, _, _, _⟩) (v := ?_) rfl (by kernel_rfl) (by kernel_rfl) (by kernel_rfl) (fun _ _ _ h => h) (Or.inl ⟨by rfl, ?_⟩) (by assumption) ?_
          rotate_left
          · (intro w hSw; (try dsimp only at hSw); go_simp; try with_reducible rfl)
          simp only [Act.put, List.setIfInBounds_toArray, List.set_cons_zero, List.set_cons_succ]
          refine wpAnyH_take (i := 9) (oi := ⟨some _, _, _, _, _, _⟩) (v := ?_) rfl (by kernel_rfl) (by kernel_rfl) (by kernel_rfl) (fun _ _ _ h => h) (Or.inl ⟨by rfl, ?_⟩) (by assumption) ?_
          rotate_left
          · (intro w hSw; (try dsimp only at hSw); go_simp; try with_reducible rfl)
          simp only [Act.put, List.setIfInBounds_toArray, List.set_cons_zero, List.set_cons_succ]
          refine wpAnyH_take (i := 10) (oi := ⟨some _, _, _, _, _, _⟩) (v := ?_) rfl (by kernel_rfl) (by kernel_rfl) (by kernel_rfl) (fun _ _ _ h => h) (Or.inl ⟨by rfl, ?_⟩) (by assumption) ?_
          rotate_left
          · (intro w hSw; (try dsimp only at hSw); go_simp; try with_reducible rfl)
          simp only [Act.put, List.setIfInBounds_toArray, List.set_cons_zero, List.set_cons_succ]
          refine wpAnyH_take (i := 11) (oi := ⟨some _, _, _, _, _, _⟩) (v := ?_) rfl (by kernel_rfl) (by kernel_rfl) (by kernel_rfl) (fun _ _ _ h => h) (Or.inl ⟨by rfl, ?_⟩) (by assumption) ?_
          rotate_left
          · (intro w hSw; (try dsimp only at hSw); go_simp; try with_reducible rfl)
          simp only [Act.put, List.setIfInBounds_toArray, List.set_cons_zero, List.set_cons_succ]
          refine wpAnyH_take (i := 12) (oi := ⟨some _, _, _, _, _, _⟩) (v := ?_) rfl (by kernel_rfl) (by kernel_rfl) (by kernel_rfl) (fun _ _ _ h => h) (Or.inl ⟨by rfl, ?_⟩) (by assumption) ?_
          rotate_left
          · (intro w hSw; (try dsimp only at hSw); go_simp; try with_reducible rfl)
          simp only [Act.put, List.setIfInBounds_toArray, List.set_cons_zero, List.set_cons_succ]
          refine wpAnyH_take (i := 13) (oi := ⟨some _, _, _, _, _, _⟩) (v := ?_) rfl (by kernel_rfl) (by kernel_rfl) (by kernel_rfl) (fun _ _ _ h => h) (Or.inl ⟨by rfl, ?_⟩) (by assumption) ?_
          rotate_left
          · (intro w hSw; (try dsimp only at hSw); go_simp; try with_reducible rfl)
          simp only [Act.put, List.setIfInBounds_toArray, List.set_cons_zero, List.set_cons_succ]
          refine wpAnyH_take (i := 14) (oi := ⟨some _, _, _, _, _, _⟩) (v := ?_) rfl (by kernel_rfl) (by kernel_rfl) (by kernel_rfl) (fun _ _ _ h => h) (Or.inl ⟨by rfl, ?_⟩) (by assumption) ?_
          rotate_left
          · (intro w hSw; (try dsimp only at hSw); go_simp; try with_reducible rfl)
          simp only [Act.put, List.setIfInBounds_toArray, List.set_cons_zero, List.set_cons_succ]
          refine wpAnyH_ready (rs := [15]) (by kernel_rfl) (by simp) ?_
          refine AllReadyH.cons rfl (fun K hK => ?_) AllReadyH.nil
          go_simp
          refine hK.out _ _ ⟨cell_bel hbd b5, cell_bel hbd x2, cell_bel hbd q0, cell_bel hbd p0, cell_bel hbd s4⟩ (fun hHeld => ?_)
          clear hK K
          try simp only [Act.put, List.setIfInBounds_toArray, List.set_cons_zero, List.set_cons_succ]
          refine wpAnyH_ready (rs := [16]) (by kernel_rfl) (by simp) ?_
          refine AllReadyH.cons (o := ⟨some _, _, _, _, _, _⟩) rfl (fun K hK => ?_) AllReadyH.nil
          refine step_append_any (by rfl) _ _ _ (by rfl) M 3 _ _ 1 8 Tryz.underlying47 HI.out.1 HI.out.2.1 HI.out.2.2.1 HI.out.2.2.2 rfl (by omega) (.slice As j cs) j (List.replicate j (.int .i64 0)) rfl (HS4.out.os.alloc _) (some ⟨w4.drew.heap.size, 0, none⟩) 1 1 (w4.drew.heap.size + 1) [.int .i64 0] rfl (fun e => by cases e) (Rd.more (Rd.of_blk (cs := [.int .i64 0]) (n := 1) (sz := 1) (by repeat (first | (refine Blk.new' _ _ _ _ ?_; first | rfl | (simp <;> omega)) | refine Blk.al ?_ _ | refine Blk.dr ?_ | refine Blk.drN ?_ _ | refine Blk.far ?_ (by first | omega | (simp; omega)))) rfl) (by simp)) ((List.all_eq_true (p := fun (u : Value) => u.oneCell')).1 (by rfl)) (by simp only [maxLen]; omega) (by omega) (by simp; try omega) ?_; intro va wa hoa hga hta; obtain ⟨Aa, ca, rfl, _, _⟩ := own_slice hoa
          have hgg : (w4.drew.alloc (.cells #[.int .i64 0] 3)).grownBy wa (Value.slice As j cs).ownBlock := hga
          refine hK.out _ _ ⟨cell_gr (cell_bel hbd b5) hgg (hnr _ (.inl hBM)), cell_gr (cell_bel hbd x2) hgg (hnr _ (.inl (by show w.heap.size < M; omega))), cell_gr (cell_bel hbd q0) hgg (hnr _ (.inr rfl)), cell_gr (cell_bel hbd p0) hgg (hnr _ (.inl (by show P.sp < M; omega))), cell_gr (cell_bel hbd s4) hgg (hnr _ (.inl (by show L.se < M; omega)))⟩ (fun hHeld => ?_)
          clear hK K
          try simp only [Act.put, List.setIfInBounds_toArray, List.set_cons_zero, List.set_cons_succ]
          refine wpAnyH_ready (rs := [17]) (by kernel_rfl) (by simp) ?_
          refine AllReadyH.cons rfl (fun K hK => ?_) AllReadyH.nil
          go_simp
          refine hK.out _ _ hHeld (fun hHeld => ?_)
          clear hK K
          refine wpAnyH_ready (rs := [18]) (by kernel_rfl) (by simp) ?_
          refine AllReadyH.cons rfl (fun K hK => ?_) AllReadyH.nil
          go_simp
          refine hK.out _ _ hHeld (fun hHeld => ?_)
          clear hK K
          refine wpAnyH_ready (rs := [19]) (by kernel_rfl) (by simp) ?_
          refine AllReadyH.cons rfl (fun K hK => ?_) AllReadyH.nil
          go_simp
          refine hK.out _ _ hHeld (fun hHeld => ?_)
          clear hK K
          refine wpAnyH_done (by kernel_rfl) ?_ _
          simp only [cutQ, List.drop_succ_cons, List.drop_zero]
          obtain ⟨hkey, hJ⟩ := HS4.out.appS hgg hoa hta
          have HJ := Lib.hid hJ
          have y5 : wa.cell? ⟨B, 5, none⟩ = some (.slice As j cs) := hHeld.1
          have fy5 := (HS4.out.s.x.same (hkey B (.inl hBM))).frozen 5
          have yl : B < wa.heap.size := Nat.lt_of_lt_of_le bl (Nat.le_trans hbd.size hgg.size)
          have HZ5 := Lib.hid ((HZ4.out.same (hkey Q2 (.inr ⟨ql, hnr _ (.inr rfl)⟩))).far (b := B) (o := 5) (u := .slice Aa (j + 1) ca) (by omega))
          clear hHeld hoa hga hta hbd hgg hkey hJ HS4 HZ4 p0 pl s4 sl q0 ql x2 xl b5 bl
          go_upto_region 19 with fail
          refine world_gen (fun w6 => JpS w w6 L P N Z gl B gq cq gd cd M j (.slice Aa (j + 1) ca) (.slice Ap j cp) (j + 1) j ∧ Blk w6 Q2 44 (rtC P.sp P.cs)) ⟨HJ.out, HZ5.out⟩ ?_
          rintro w6 ⟨hs6, hz6⟩
          have HS6 := Lib.hid hs6
          have HZ6 := Lib.hid hz6
          clear hs6 hz6 HJ HZ5 y5 fy5 yl hnr
          have hpm := HP.out.go HS6.out.s.v.p.b
          have hlm := H.out.go HS6.out.s.v.p.b
          have p4 : w6.cell? ⟨P.sp, 4, none⟩ = some (.int .i64 2) := hpm.sp.c 4 _ rfl
          have pl := hpm.sp.lt
          have s14 : w6.cell? ⟨L.se, 14, none⟩ = some (.int .i64 1) := hlm.se.c 14 _ rfl
          have sl := hlm.se.lt
          have q0 := HZ6.out.cell 0
          have q1 := HZ6.out.cell 1
          have ql := HZ6.out.lt
          have x2 := HS6.out.s.v.p.x.cell 2
          have xl := HS6.out.s.v.p.x.lt
          have b6 := HS6.out.s.x.cell 6
          have bl := HS6.out.s.x.lt
          simp at q0 q1 x2 b6
          clear hpm hlm
          have hbd : Below w6.heap.size w6 (w6.drew.alloc (.cells #[.int .i64 1] 3)) := (Below.refl _ w6).drew.alloc (Nat.le_refl _) _
          have hM6 := HS6.out.z
          have wA : IntKind.i64.wrap 3 = 3 := by decide
          have wB : IntKind.i64.wrap 2 = 2 := by decide
          have wC : IntKind.i64.wrap (3 - 1) = 2 := by decide
          have wD : IntKind.i64.wrap (3 - 0) = 3 := by decide
          refine wp_region_cut 24 (by kernel_rfl) (by kernel_rfl) ?_
          simp only [dulled, dull, List.take_succ_cons, List.take_zero, List.drop_succ_cons, List.drop_zero, List.map_cons, List.map_nil, List.cons_append, List.nil_append]
          refine wpAny_of_held (S := fun W => W.cell? ⟨B, 6, none⟩ = some (.slice Ap j cp) ∧ W.cell? ⟨w.heap.size, 2, none⟩ = some (.slice (some ⟨L.se, 0, none⟩) 3 L.c3) ∧ W.cell? ⟨Q2, 0, none⟩ = some (.slice (some ⟨P.sp, 0, none⟩) 3 P.cs) ∧ W.cell? ⟨Q2, 1, none⟩ = some (.int .i64 0) ∧ W.cell? ⟨P.sp, 4, none⟩ = some (.int .i64 2) ∧ W.cell? ⟨L.se, 14, none⟩ = some (.int .i64 1)) _ _ _ _ ?_
          change wpAnyH _ _ _ _ _ 27 _ _ (World.drew w6)
          have hHeld : (fun W => W.cell? ⟨B, 6, none⟩ = some (.slice Ap j cp) ∧ W.cell? ⟨w.heap.size, 2, none⟩ = some (.slice (some ⟨L.se, 0, none⟩) 3 L.c3) ∧ W.cell? ⟨Q2, 0, none⟩ = some (.slice (some ⟨P.sp, 0, none⟩) 3 P.cs) ∧ W.cell? ⟨Q2, 1, none⟩ = some (.int .i64 0) ∧ W.cell? ⟨P.sp, 4, none⟩ = some (.int .i64 2) ∧ W.cell? ⟨L.se, 14, none⟩ = some (.int .i64 1)) (World.drew w6) := ⟨b6, x2, q0, q1, p4, s14⟩
          refine wpAnyH_take (i := 0) (oi := ⟨some _, _, _, _, _, _⟩) (v := ?_) rfl (by kernel_rfl) (by kernel_rfl) (by kernel_rfl) (fun _ _ _ h => h) (Or.inl ⟨by rfl, ?_⟩) (by assumption) ?_
          rotate_left
          · (intro w hSw; (try dsimp only at hSw); go_simp; try with_reducible rfl)
          simp only [Act.put, List.setIfInBounds_toArray, List.set_cons_zero, List.set_cons_succ]
          refine wpAnyH_take (i := 1) (oi := ⟨some _, _, _, _, _, _⟩) (v := ?_) rfl (by kernel_rfl) (by kernel_rfl) (by kernel_rfl) (fun _ _ _ h => h) (Or.inl ⟨by rfl, ?_⟩) (by assumption) ?_
          rotate_left
          · (intro w hSw; (try dsimp only at hSw); go_simp; try with_reducible rfl)
          simp only [Act.put, List.setIfInBounds_toArray, List.set_cons_zero, List.set_cons_succ]
          refine wpAnyH_take (i := 2) (oi := ⟨some _, _, _, _, _, _⟩) (v := ?_) rfl (by kernel_rfl) (by kernel_rfl) (by kernel_rfl) (fun _ _ _ h => h) (Or.inl ⟨by rfl, ?_⟩) (by assumption) ?_
          rotate_left
          · (intro w hSw; (try dsimp only at hSw); go_simp; try with_reducible rfl)
          simp only [Act.put, List.setIfInBounds_toArray, List.set_cons_zero, List.set_cons_succ]
          refine wpAnyH_take (i := 3) (oi := ⟨some _, _, _, _, _, _⟩) (v := ?_) rfl (by kernel_rfl) (by kernel_rfl) (by kernel_rfl) (fun _ _ _ h => h) (Or.inl ⟨by rfl, ?_⟩) (by assumption) ?_
          rotate_left
          · (intro w hSw; (try dsimp only at hSw); go_simp; try with_reducible rfl)
          simp only [Act.put, List.setIfInBounds_toArray, List.set_cons_zero, List.set_cons_succ]
          refine wpAnyH_take (i := 4) (oi := ⟨some _, _, _, _, _, _⟩) (v := ?_) rfl (by kernel_rfl) (by kernel_rfl) (by kernel_rfl) (fun _ _ _ h => h) (Or.inl ⟨by rfl, ?_⟩) (by assumption) ?_
          rotate_left
          · (intro w hSw; (try dsimp only at hSw); go_simp; try with_reducible rfl)
          simp only [Act.put, List.setIfInBounds_toArray, List.set_cons_zero, List.set_cons_succ]
          refine wpAnyH_take (i := 5) (oi := ⟨some _, _, _, _, _, _⟩) (v := ?_) rfl (by kernel_rfl) (by kernel_rfl) (by kernel_rfl) (fun _ _ _ h => h) (Or.inl ⟨by rfl, ?_⟩) (by assumption) ?_
          rotate_left
          · (intro w hSw; (try dsimp only at hSw); go_simp; try with_reducible rfl)
          simp only [Act.put, List.setIfInBounds_toArray, List.set_cons_zero, List.set_cons_succ]
          refine wpAnyH_take (i := 6) (oi := ⟨some _, _, _, _, _, _⟩) (v := ?_) rfl (by kernel_rfl) (by kernel_rfl) (by kernel_rfl) (fun _ _ _ h => h) (Or.inl ⟨by rfl, ?_⟩) (by assumption) ?_
          rotate_left
          · (intro w hSw; (try dsimp only at hSw); go_simp; try with_reducible rfl)
          simp only [Act.put, List.setIfInBounds_toArray, List.set_cons_zero, List.set_cons_succ]
          refine wpAnyH_take (i := 7) (oi := ⟨some _, _, _, _, _, _⟩) (v := ?_) rfl (by kernel_rfl) (by kernel_rfl) (by kernel_rfl) (fun _ _ _ h => h) (Or.inl ⟨by rfl, ?_⟩) (by assumption) ?_
          rotate_left
          · (intro w hSw; (try dsimp only at hSw); go_simp; try with_reducible rfl)
          simp only [Act.put, List.setIfInBounds_toArray, List.set_cons_zero, List.set_cons_succ]
          refine wpAnyH_take (i := 8) (oi := ⟨some _, _, _, _, _, _⟩) (v := ?_) rfl (by kernel_rfl) (by kernel_rfl) (by kernel_rfl) (fun _ _ _ h => h) (Or.inl ⟨by rfl, ?_⟩) (by assumption) ?_
          rotate_left
          · (intro w hSw; (try dsimp only at hSw); go_simp; try with_reducible rfl)
          simp only [Act.put, List.setIfInBounds_toArray, List.set_cons_zero, List.set_cons_succ]
          refine wpAnyH_take (i := 9) (oi := ⟨some _, _, _, _, _, _⟩) (v := ?_) rfl (by kernel_rfl) (by kernel_rfl) (by kernel_rfl) (fun _ _ _ h => h) (Or.inl ⟨by rfl, ?_⟩) (by assumption) ?_
          rotate_left
          · (intro w hSw; (try dsimp only at hSw); go_simp; try with_reducible rfl)
          simp only [Act.put, List.setIfInBounds_toArray, List.set_cons_zero, List.set_cons_succ]
          refine wpAnyH_take (i := 10) (oi := ⟨some _, _, _, _, _, _⟩) (v := ?_) rfl (by kernel_rfl) (by kernel_rfl) (by kernel_rfl) (fun _ _ _ h => h) (Or.inl ⟨by rfl, ?_⟩) (by assumption) ?_
          rotate_left
          · (intro w hSw; (try dsimp only at hSw); go_simp; try with_reducible rfl)
          simp only [Act.put, List.setIfInBounds_toArray, List.set_cons_zero, List.set_cons_succ]
          refine wpAnyH_take (i := 11) (oi := ⟨some _, _, _, _, _, _⟩) (v := ?_) rfl (by kernel_rfl) (by kernel_rfl) (by kernel_rfl) (fun _ _ _ h => h) (Or.inl ⟨by rfl, ?_⟩) (by assumption) ?_
          rotate_left
          · (intro w hSw; (try dsimp only at hSw); go_simp; try with_reducible rfl)
          simp only [Act.put, List.setIfInBounds_toArray, List.set_cons_zero, List.set_cons_succ]
          refine wpAnyH_take (i := 12) (oi := ⟨some _, _, _, _, _, _⟩) (v := ?_) rfl (by kernel_rfl) (by kernel_rfl) (by kernel_rfl) (fun _ _ _ h => h) (Or.inl ⟨by rfl, ?_⟩) (by assumption) ?_
          rotate_left
          · (intro w hSw; (try dsimp only at hSw); go_simp; try with_reducible rfl)
          simp only [Act.put, List.setIfInBounds_toArray, List.set_cons_zero, List.set_cons_succ]
          refine wpAnyH_take (i := 13) (oi := ⟨some _, _, _, _, _, _⟩) (v := ?_) rfl (by kernel_rfl) (by kernel_rfl) (by kernel_rfl) (fun _ _ _ h => h) (Or.inl ⟨by rfl, ?_⟩) (by assumption) ?_
          rotate_left
          · (intro w hSw; (try dsimp only at hSw); go_simp; try with_reducible rfl)
          simp only [Act.put, List.setIfInBounds_toArray, List.set_cons_zero, List.set_cons_succ]
          refine wpAnyH_take (i := 14) (oi := ⟨some _, _, _, _, _, _⟩) (v := ?_) rfl (by kernel_rfl) (by kernel_rfl) (by kernel_rfl) (fun _ _ _ h => h) (Or.inl ⟨by rfl, ?_⟩) (by assumption) ?_
          rotate_left
          · (intro w hSw; (try dsimp only at hSw); go_simp; try with_reducible rfl)
          simp only [Act.put, List.setIfInBounds_toArray, List.set_cons_zero, List.set_cons_succ]
          refine wpAnyH_take (i := 15) (oi := ⟨some _, _, _, _, _, _⟩) (v := ?_) rfl (by kernel_rfl) (by kernel_rfl) (by kernel_rfl) (fun _ _ _ h => h) (Or.inl ⟨by rfl, ?_⟩) (by assumption) ?_
          rotate_left
          · (intro w hSw; (try dsimp only at hSw); go_simp; try with_reducible rfl)
          simp only [Act.put, List.setIfInBounds_toArray, List.set_cons_zero, List.set_cons_succ]
          refine wpAnyH_take (i := 16) (oi := ⟨some _, _, _, _, _, _⟩) (v := ?_) rfl (by kernel_rfl) (by kernel_rfl) (by kernel_rfl) (fun _ _ _ h => h) (Or.inl ⟨by rfl, ?_⟩) (by assumption) ?_
          rotate_left
          · (intro w hSw; (try dsimp only at hSw); go_simp; try with_reducible rfl)
          simp only [Act.put, List.setIfInBounds_toArray, List.set_cons_zero, List.set_cons_succ]
          refine wpAnyH_take (i := 17) (oi := ⟨some _, _, _, _, _, _⟩) (v := ?_) rfl (by kernel_rfl) (by kernel_rfl) (by kernel_rfl) (fun _ _ _ h => h) (Or.inl ⟨by rfl, ?_⟩) (by assumption) ?_
          rotate_left
          · (intro w hSw; (try dsimp only at hSw); go_simp; try with_reducible rfl)
          simp only [Act.put, List.setIfInBounds_toArray, List.set_cons_zero, List.set_cons_succ]
          refine wpAnyH_take (i := 18) (oi := ⟨some _, _, _, _, _, _⟩) (v := ?_) rfl (by kernel_rfl) (by kernel_rfl) (by kernel_rfl) (fun _ _ _ h => h) (Or.inl ⟨by rfl, ?_⟩) (by assumption) ?_
          rotate_left
          · (intro w hSw; (try dsimp only at hSw); go_simp; try with_reducible rfl)
          simp only [Act.put, List.setIfInBounds_toArray, List.set_cons_zero, List.set_cons_succ]
          refine wpAnyH_take (i := 19) (oi := ⟨some _, _, _, _, _, _⟩) (v := ?_) rfl (by kernel_rfl) (by kernel_rfl) (by kernel_rfl) (fun _ _ _ h => h) (Or.inl ⟨by rfl, ?_⟩) (by assumption) ?_
          rotate_left
          · (intro w hSw; (try dsimp only at hSw); go_simp; try with_reducible rfl)
          simp only [Act.put, List.setIfInBounds_toArray, List.set_cons_zero, List.set_cons_succ]
          refine wpAnyH_take (i := 20) (oi := ⟨some _, _, _, _, _, _⟩) (v := ?_) rfl (by kernel_rfl) (by kernel_rfl) (by kernel_rfl) (fun _ _ _ h => h) (Or.inl ⟨by rfl, ?_⟩) (by assumption) ?_
          rotate_left
          · (intro w hSw; (try dsimp only at hSw); go_simp; try with_reducible rfl)
          simp only [Act.put, List.setIfInBounds_toArray, List.set_cons_zero, List.set_cons_succ]
          refine wpAnyH_take (i := 21) (oi := ⟨some _, _, _, _, _, _⟩) (v := ?_) rfl (by kernel_rfl) (by kernel_rfl) (by kernel_rfl) (fun _ _ _ h => h) (Or.inl ⟨by rfl, ?_⟩) (by assumption) ?_
          rotate_left
          · (intro w hSw; (try dsimp only at hSw); go_simp; try with_reducible rfl)
          simp only [Act.put, List.setIfInBounds_toArray, List.set_cons_zero, List.set_cons_succ]
          refine wpAnyH_ready (rs := [22]) (by kernel_rfl) (by simp) ?_
          refine AllReadyH.cons rfl (fun K hK => ?_) AllReadyH.nil
          go_simp
          refine hK.out _ _ ⟨cell_bel hbd b6, cell_bel hbd x2, cell_bel hbd q0, cell_bel hbd q1, cell_bel hbd p4, cell_bel hbd s14⟩ (fun hHeld => ?_)
          clear hK K
          try simp only [Act.put, List.setIfInBounds_toArray, List.set_cons_zero, List.set_cons_succ]
          refine wpAnyH_ready (rs := [23]) (by kernel_rfl) (by simp) ?_
          refine AllReadyH.cons (o := ⟨some _, _, _, _, _, _⟩) rfl (fun K hK => ?_) AllReadyH.nil
          refine step_append_any (by rfl) _ _ _ (by rfl) M 3 _ _ 1 8 Tryz.underlying47 HI.out.1 HI.out.2.1 HI.out.2.2.1 HI.out.2.2.2 rfl (by omega) (.slice Ap j cp) j (List.replicate j (.int .i64 1)) rfl (HS6.out.op.alloc _) (some ⟨w6.drew.heap.size, 0, none⟩) 1 1 (w6.drew.heap.size + 1) [.int .i64 1] rfl (fun e => by cases e) (Rd.more (Rd.of_blk (cs := [.int .i64 1]) (n := 1) (sz := 1) (by repeat (first | (refine Blk.new' _ _ _ _ ?_; first | rfl | (simp <;> omega)) | refine Blk.al ?_ _ | refine Blk.dr ?_ | refine Blk.drN ?_ _ | refine Blk.far ?_ (by first | omega | (simp; omega)))) rfl) (by simp)) ((List.all_eq_true (p := fun (u : Value) => u.oneCell')).1 (by rfl)) (by simp only [maxLen]; omega) (by omega) (by simp; try omega) ?_; intro vb wb hob hgb htb; obtain ⟨Ab, cb, rfl, _, _⟩ := own_slice hob
          have hgg : (w6.drew.alloc (.cells #[.int .i64 1] 3)).grownBy wb (Value.slice Ap j cp).ownBlock := hgb
          refine hK.out _ _ ⟨cell_gr (cell_bel hbd b6) hgg (hnrp _ (.inl hBM)), cell_gr (cell_bel hbd x2) hgg (hnrp _ (.inl (by show w.heap.size < M; omega))), cell_gr (cell_bel hbd q0) hgg (hnrp _ (.inr rfl)), cell_gr (cell_bel hbd q1) hgg (hnrp _ (.inr rfl)), cell_gr (cell_bel hbd p4) hgg (hnrp _ (.inl (by show P.sp < M; omega))), cell_gr (cell_bel hbd s14) hgg (hnrp _ (.inl (by show L.se < M; omega)))⟩ (fun hHeld => ?_)
          clear hK K
          try simp only [Act.put, List.setIfInBounds_toArray, List.set_cons_zero, List.set_cons_succ]
          refine wpAnyH_ready (rs := [24]) (by kernel_rfl) (by simp) ?_
          refine AllReadyH.cons rfl (fun K hK => ?_) AllReadyH.nil
          go_simp
          refine hK.out _ _ hHeld (fun hHeld => ?_)
          clear hK K
          refine wpAnyH_ready (rs := [25]) (by kernel_rfl) (by simp) ?_
          refine AllReadyH.cons rfl (fun K hK => ?_) AllReadyH.nil
          go_simp
          refine hK.out _ _ hHeld (fun hHeld => ?_)
          clear hK K
          refine wpAnyH_ready (rs := [26]) (by kernel_rfl) (by simp) ?_
          refine AllReadyH.cons rfl (fun K hK => ?_) AllReadyH.nil
          go_simp
          refine hK.out _ _ hHeld (fun hHeld => ?_)
          clear hK K
          refine wpAnyH_done (by kernel_rfl) ?_ _
          simp only [cutQ, List.drop_succ_cons, List.drop_zero]
          obtain ⟨hkey, hJ⟩ := HS6.out.appP hgg hob htb
          have HJ := Lib.hid hJ
          have y6 : wb.cell? ⟨B, 6, none⟩ = some (.slice Ap j cp) := hHeld.1
          have fy6 := (HS6.out.s.x.same (hkey B (.inl hBM))).frozen 6
          have yl : B < wb.heap.size := Nat.lt_of_lt_of_le bl (Nat.le_trans hbd.size hgg.size)
          clear hHeld hob hgb htb hbd hgg hkey hJ HS6 HZ6 p4 pl s14 sl q0 q1 ql x2 xl b6 bl hnrp
          go_wp2_with fail
          go_roundg (2 - j - 1)
          case measure => have := Hj.out; omega
          case rel => exact ⟨j + 1, _, _, by first | rfl | go_num, by have := Hj.out; omega, HJ.out.re⟩
        · obtain rfl : j = 2 := by have := Hj.out; omega
          obtain ⟨gs, cs, rfl, hcs, _, _⟩ := own_cs HS.out.os (by omega)
          obtain ⟨gp, cp, rfl, hcp, _, _⟩ := own_cs HS.out.op (by omega)
          have HQ := Lib.hid (And.intro hcs hcp)
          clear hcs hcp
          go_wp2_with fail
          go_ret2
          exact ⟨B, ⟨N, gl, gq, cq, gd, cd, gs, cs, gp, cp⟩, rfl, ⟨HS.out.s.x, HS.out.s.v.n, ⟨HS.out.s.l.lt, fun i v hi => (HS.out.s.l.cell i).trans (by simpa using hi)⟩, HS.out.q, HS.out.d, HQ.out.1, HQ.out.2⟩, HS.out.s.v.p.b⟩
end Go.Proofs.YtinjdcefagaaeaaGreatDoor
