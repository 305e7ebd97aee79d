import Derived.Test.YtinjdcefagaaeaaGreatDoorQPu
import Derived.Test.YtinjdcefagaaeaaGreatDoorQSr
set_option linter.unusedVariables false
set_option linter.unusedSimpArgs false
namespace Go.Proofs.YtinjdcefagaaeaaGreatDoor
open Go.RowKit
/-! plan.Parse: ride -/
theorem infoPri : (Tryz.prog.info? 164).map (fun i => (i.zero, i.size, i.bytes)) = some (some (.agg #[.int .i64 0, .int .i64 0, .int .i64 0, .int .i64 0]), 4, 32) := by kernel_rfl
abbrev kwPri : ByteArray := ⟨#[114, 105, 100, 101]⟩
abbrev riL : List Value := [.int .i64 0, .int .i64 5, .int .i64 0, .int .i64 0]
def PrOut (w : World) (gl : Nat) (e : Ending) (w' : World) : Prop := (∃ v, e = .returned v) ∧ Tw gl w w' ∧ ∃ ga ca, w.heap.size ≤ ga ∧ CB w' ga 164 riL ∧ CB w' gl 167 (lnC (.slice (some ⟨ga, 0, none⟩) 1 ca)).toList
set_option maxRecDepth 100000 in
set_option maxHeartbeats 6400000 in
theorem dride_ok (Rb g c gl cl : Nat) (L : LyA) (p : Int) (v5 v6 vd : Value) (b : Bool) (w : World) (h : Blk w Rb 102 (rdC L p v5 v6 (.slice (some ⟨gl, 0, none⟩) 1 cl) vd b (.slice (some ⟨g, 0, none⟩) 3 c) 0)) (hc : Cs w g ([kwPri, tN0, t5].map Value.string)) (hl : CB w gl 167 (lnC (.slice none 0 0)).toList) :
    Calls Tryz.prog 80 #[.pointer (some ⟨Rb, 0, none⟩)] w (PrOut w gl) := by
  have H := Lib.hid h
  have HL := Lib.hid hl
  have x7 := h.cell 7
  have x13 := h.cell 13
  have xl := h.lt
  simp at x7 x13
  have HW := Lib.hid (show RdW w Rb g 3 c [kwPri, tN0, t5] from ⟨x13, hc, rfl⟩)
  clear h hc hl
  obtain ⟨iS, b1, b2, b3, b4⟩ := info_parts infoPri
  have HIS := Lib.hid (And.intro b1 (And.intro b2 (And.intro b3 b4)))
  clear b1 b2 b3 b4
  go_enter Tryz.func80, Tryz.ntmps80
  go_wp2_with fail
  refine (need_ok Rb _).mono ?_
  rintro e wn ⟨⟨vn, rfl⟩, hwn⟩
  rw [hwn]
  clear hwn wn
  go_wp2_with fail
  refine (rnum_ok Rb g 3 c 1 _ tN0 0 _ HW.out rfl (by decide) (by decide)).mono ?_
  rintro e w1 ⟨rfl, hw1⟩
  rw [hw1]
  clear hw1 w1
  go_wp2_with fail
  refine (rnum_ok Rb g 3 c 2 _ t5 5 _ HW.out rfl (by decide) (by decide)).mono ?_
  rintro e w1 ⟨rfl, hw1⟩
  rw [hw1]
  clear hw1 w1
  go_upto_region 3 with fail
  refine world_gen (fun w0 => Below w.heap.size w w0 ∧ Blk w0 w.heap.size 164 riL.toArray) ⟨(by repeat (first | exact Below.refl _ _ | (with_reducible refine Below.drew ?_) | (with_reducible refine below_drewN ?_ _) | (with_reducible refine Below.alloc ?_ (by first | omega | (simp; done) | (simp; omega)) _) | (with_reducible refine Below.setCell ?_ (by first | omega | (simp; done) | (simp; omega)) _) | (refine Below.trans ?_ (Below.mono (by with_reducible assumption) (by first | omega | (simp; done) | (simp; omega)))))), (by repeat (first | (refine Blk.new' _ _ _ _ ?_; first | rfl | (simp <;> omega)) | refine Blk.al ?_ _ | refine Blk.dr ?_ | refine Blk.drN ?_ _ | refine Blk.far ?_ (by first | omega | (simp; omega))))⟩ ?_
  rintro w0 ⟨hb0, hz0⟩
  have y7 := cell_bel hb0 x7
  have yl := Nat.lt_of_lt_of_le xl hb0.size
  clear x7 x13 xl
  have HB0 := Lib.hid hb0
  have HZ0 := Lib.hid hz0
  have HL0 := Lib.hid (HL.out.go hb0)
  have hlw := HL.out.lt
  clear hb0 hz0
  go_upto_region 7 with fail
  have kl := HL0.out.lt
  go_quiet (fail)
  go_upto_region 8 with fail
  refine world_gen (fun w1 => Below w.heap.size w w1 ∧ Blk w1 w.heap.size 164 riL.toArray ∧ CB w1 gl 167 (lnC (.slice none 0 0)).toList) ⟨HB0.out.trans ((below_drewN (Below.refl _ _) _).mono HB0.out.size), HZ0.out.same ((below_drewN (Below.refl _ w0) nq).block _ HZ0.out.lt), HL0.out.go (below_drewN (Below.refl _ _) _)⟩ ?_
  rintro w1 ⟨hb1, hz1, hl1⟩
  have HB1 := Lib.hid hb1
  have HZ1 := Lib.hid hz1
  have HL1 := Lib.hid hl1
  have z0 := hz1.cell 0
  have z1 := hz1.cell 1
  have z2 := hz1.cell 2
  have z3 := hz1.cell 3
  have zl := hz1.lt
  have l3 : w1.cell? ⟨gl, 3, none⟩ = some (.slice none 0 0) := hl1.cs.c 3 _ rfl
  have ll := hl1.lt
  simp [riL] at z0 z1 z2 z3
  clear hb1 hz1 hl1 HB0 HZ0 HL0 y7 yl kl
  have hlS : gl ≠ w.heap.size := by omega
  have hbd : Below w1.heap.size w1 (w1.drew.alloc (.cells riL.toArray 164)) := (Below.refl _ w1).drew.alloc (Nat.le_refl _) _
  refine wp_region_cut 8 (by kernel_rfl) (by kernel_rfl) ?_
  simp only [dulled, dull, List.take_succ_cons, List.take_zero, List.drop_succ_cons, List.drop_zero, List.map_cons, List.map_nil, List.cons_append, List.nil_append]
  refine wpAny_of_held (S := fun W => Below w1.heap.size w1 W ∧ W.cell? ⟨gl, 3, none⟩ = some (.slice none 0 0) ∧ W.cell? ⟨w.heap.size, 0, none⟩ = some (.int .i64 0) ∧ W.cell? ⟨w.heap.size, 1, none⟩ = some (.int .i64 5) ∧ W.cell? ⟨w.heap.size, 2, none⟩ = some (.int .i64 0) ∧ W.cell? ⟨w.heap.size, 3, none⟩ = some (.int .i64 0)) _ _ _ _ ?_
  change wpAnyH _ _ _ _ _ 11 _ _ (World.drew w1)
  have hHeld : (fun W => Below w1.heap.size w1 W ∧ W.cell? ⟨gl, 3, none⟩ = some (.slice none 0 0) ∧ W.cell? ⟨w.heap.size, 0, none⟩ = some (.int .i64 0) ∧ W.cell? ⟨w.heap.size, 1, none⟩ = some (.int .i64 5) ∧ W.cell? ⟨w.heap.size, 2, none⟩ = some (.int .i64 0) ∧ W.cell? ⟨w.heap.size, 3, none⟩ = some (.int .i64 0)) (World.drew w1) := ⟨(Below.refl _ _).drew, l3, z0, z1, z2, z3⟩
  refine wpAnyH_take (i := 0) (oi := ⟨some _, _, _, _, _, _⟩) (v := ?_) rfl (by kernel_rfl) (by kernel_rfl) (by kernel_rfl) (fun _ _ _ h => h) (Or.inl ⟨by rfl, ?_⟩) (by assumption) ?_
  rotate_left
  · (intro w hSw; (try dsimp only at hSw); go_simp; try with_reducible rfl)
  simp only [Act.put, List.setIfInBounds_toArray, List.set_cons_zero, List.set_cons_succ]
  refine wpAnyH_take (i := 1) (oi := ⟨some _, _, _, _, _, _⟩) (v := ?_) rfl (by kernel_rfl) (by kernel_rfl) (by kernel_rfl) (fun _ _ _ h => h) (Or.inl ⟨by rfl, ?_⟩) (by assumption) ?_
  rotate_left
  · (intro w hSw; (try dsimp only at hSw); go_simp; try with_reducible rfl)
  simp only [Act.put, List.setIfInBounds_toArray, List.set_cons_zero, List.set_cons_succ]
  refine wpAnyH_take (i := 2) (oi := ⟨some _, _, _, _, _, _⟩) (v := ?_) rfl (by kernel_rfl) (by kernel_rfl) (by kernel_rfl) (fun _ _ _ h => h) (Or.inl ⟨by rfl, ?_⟩) (by assumption) ?_
  rotate_left
  · (intro w hSw; (try dsimp only at hSw); go_simp; try with_reducible rfl)
  simp only [Act.put, List.setIfInBounds_toArray, List.set_cons_zero, List.set_cons_succ]
  refine wpAnyH_take (i := 3) (oi := ⟨some _, _, _, _, _, _⟩) (v := ?_) rfl (by kernel_rfl) (by kernel_rfl) (by kernel_rfl) (fun _ _ _ h => h) (Or.inl ⟨by rfl, ?_⟩) (by assumption) ?_
  rotate_left
  · (intro w hSw; (try dsimp only at hSw); go_simp; try with_reducible rfl)
  simp only [Act.put, List.setIfInBounds_toArray, List.set_cons_zero, List.set_cons_succ]
  refine wpAnyH_take (i := 4) (oi := ⟨some _, _, _, _, _, _⟩) (v := ?_) rfl (by kernel_rfl) (by kernel_rfl) (by kernel_rfl) (fun _ _ _ h => h) (Or.inl ⟨by rfl, ?_⟩) (by assumption) ?_
  rotate_left
  · (intro w hSw; (try dsimp only at hSw); go_simp; try with_reducible rfl)
  simp only [Act.put, List.setIfInBounds_toArray, List.set_cons_zero, List.set_cons_succ]
  refine wpAnyH_take (i := 5) (oi := ⟨some _, _, _, _, _, _⟩) (v := ?_) rfl (by kernel_rfl) (by kernel_rfl) (by kernel_rfl) (fun _ _ _ h => h) (Or.inl ⟨by rfl, ?_⟩) (by assumption) ?_
  rotate_left
  · (intro w hSw; (try dsimp only at hSw); go_simp; try with_reducible rfl)
  simp only [Act.put, List.setIfInBounds_toArray, List.set_cons_zero, List.set_cons_succ]
  refine wpAnyH_ready (rs := [6]) (by kernel_rfl) (by simp) ?_
  refine AllReadyH.cons rfl (fun K hK => ?_) AllReadyH.nil
  go_simp
  refine hK.out _ _ ⟨hbd, cell_bel hbd l3, cell_bel hbd z0, cell_bel hbd z1, cell_bel hbd z2, cell_bel hbd z3⟩ (fun hHeld => ?_)
  clear hK K
  try simp only [Act.put, List.setIfInBounds_toArray, List.set_cons_zero, List.set_cons_succ]
  refine wpAnyH_ready (rs := [7]) (by kernel_rfl) (by simp) ?_
  refine AllReadyH.cons (o := ⟨some _, _, _, _, _, _⟩) rfl (fun K hK => ?_) AllReadyH.nil
  refine step_append_any (by rfl) _ _ _ (by rfl) w1.heap.size 164 _ _ 4 32 Tryz.underlying165 HIS.out.1 HIS.out.2.1 HIS.out.2.2.1 HIS.out.2.2.2 rfl (by omega) (.slice none 0 0) 0 ([]) rfl (World.ownsRow_nil _ _ _ _) (some ⟨w1.drew.heap.size, 0, none⟩) 1 1 (w1.drew.heap.size + 1) riL rfl (fun e => by cases e) (Rd.more (Rd.of_blk (cs := riL) (n := 1) (sz := 4) (by repeat (first | (refine Blk.new' _ _ _ _ ?_; first | rfl | (simp <;> omega)) | refine Blk.al ?_ _ | refine Blk.dr ?_ | refine Blk.drN ?_ _ | refine Blk.far ?_ (by first | omega | (simp; omega)))) rfl) (by simp)) ((List.all_eq_true (p := fun (u : Value) => u.oneCell')).1 (by rfl)) (by simp only [maxLen]; omega) (by omega) (by simp; try omega) ?_; intro va wa hoa hga hta; obtain ⟨ga, ca, rfl, hca, hgA, _⟩ := own_cs hoa (by omega)
  have hba : Below w1.heap.size w1 wa := hbd.trans (Below.mono (bel_grow hga) (by simp))
  refine hK.out _ _ ⟨hba, cell_bel hba l3, cell_bel hba z0, cell_bel hba z1, cell_bel hba z2, cell_bel hba z3⟩ (fun hHeld => ?_)
  clear hK K
  try simp only [Act.put, List.setIfInBounds_toArray, List.set_cons_zero, List.set_cons_succ]
  refine wpAnyH_ready (rs := [8]) (by kernel_rfl) (by simp) ?_
  refine AllReadyH.cons rfl (fun K hK => ?_) AllReadyH.nil
  go_simp
  refine hK.out _ _ hHeld (fun hHeld => ?_)
  clear hK K
  refine wpAnyH_ready (rs := [9]) (by kernel_rfl) (by simp) ?_
  refine AllReadyH.cons rfl (fun K hK => ?_) AllReadyH.nil
  go_simp
  refine hK.out _ _ hHeld (fun hHeld => ?_)
  clear hK K
  refine wpAnyH_ready (rs := [10]) (by kernel_rfl) (by simp) ?_
  refine AllReadyH.cons rfl (fun K hK => ?_) AllReadyH.nil
  go_simp
  refine hK.out _ _ hHeld (fun hHeld => ?_)
  clear hK K
  refine wpAnyH_done (by kernel_rfl) ?_ _
  simp only [cutQ, List.drop_succ_cons, List.drop_zero]
  have HBA := Lib.hid (HB1.out.trans (hba.mono HB1.out.size))
  have HLA := Lib.hid (HL1.out.go hba)
  have hgl : ga ≠ gl := by omega
  have hgw : w.heap.size ≤ ga := by have := HB1.out.size; omega
  have HCA := Lib.hid ((CB.own hoa).tw (Tw.set gl 3 wa (.slice (some ⟨ga, 0, none⟩) 1 ca)) hgl)
  have y3 : wa.cell? ⟨gl, 3, none⟩ = some (.slice none 0 0) := hHeld.2.1
  have fy3 := HLA.out.fz 3
  have yl := HLA.out.lt
  clear hHeld hoa hga hta hca hba hbd l3 ll z0 z1 z2 z3 zl
  go_wp2_with fail
  go_end0
  exact ⟨⟨_, rfl⟩, (Tw.of HBA.out).tr (Tw.set gl 3 _ _), ga, ca, hgw, HCA.out, HLA.out.set 3 _⟩
def PqOut (w : World) (Rb gl : Nat) (F : Value → Array Value) (e : Ending) (w' : World) : Prop := e = .returned (.int .i64 0) ∧ T2 Rb gl w w' ∧ ∃ ga ca vw', w.heap.size ≤ ga ∧ CB w' ga 164 riL ∧ CB w' gl 167 (lnC (.slice (some ⟨ga, 0, none⟩) 1 ca)).toList ∧ Blk w' Rb 102 (F vw')
set_option maxRecDepth 100000 in
set_option maxHeartbeats 12800000 in
theorem pdrid_ok (Rb g c gl cl : Nat) (ws : List Wd) (L : LyA) (p : Int) (v5 v6 vd vw : Value) (b : Bool) (w : World) (h : Blk w Rb 102 (rdC L p v5 v6 (.slice (some ⟨gl, 0, none⟩) 1 cl) vd b vw 0)) (hl0 : CB w gl 167 (lnC (.slice none 0 0)).toList) (hne : gl ≠ Rb) (hg : Cs w g (ws.flatMap Wd.cells)) (hgR : g ≠ Rb) (ht : ws.map (fun x => Value.string x.tx) = [kwPri, tN0, t5].map Value.string) (hl : ws.length = 3) :
    Calls Tryz.prog 28 #[.pointer (some ⟨Rb, 0, none⟩), .slice (some ⟨g, 0, none⟩) 3 c] w (PqOut w Rb gl (fun vw' => rdC L p v5 v6 (.slice (some ⟨gl, 0, none⟩) 1 cl) vd b vw' 0)) := by
  obtain ⟨v7, hv7⟩ : ∃ v : Value, v = .slice (some ⟨gl, 0, none⟩) 1 cl := ⟨_, rfl⟩
  rw [← hv7] at h
  have HV7 := Lib.hid hv7
  clear hv7
  have HL0 := Lib.hid hl0
  clear hl0
  have H := Lib.hid h
  have HG := Lib.hid hg
  have HTX := Lib.hid ht
  have hxl := h.lt
  have hgl := hg.lt
  clear h hg ht
  obtain ⟨iT, b1, b2, b3, b4⟩ := info_parts infoStr
  have HIT := Lib.hid (And.intro b1 (And.intro b2 (And.intro b3 b4)))
  clear b1 b2 b3 b4
  have x13 := H.out.cell 13
  have x14 := H.out.cell 14
  have f13 := H.out.frozen 13
  have f14 := H.out.frozen 14
  simp at x13 x14
  go_enter Tryz.func28, Tryz.ntmps28
  go_upto_region 2 with fail
  refine world_gen (fun w1 => Tw Rb w w1 ∧ Blk w1 Rb 102 (rdC L p v5 v6 v7 vd b (.slice none 0 0) 0)) ⟨(Tw.set Rb 13 w _).tr (Tw.set Rb 14 _ _), (H.out.set_ 13 _).set_ 14 _⟩ ?_
  rintro w1 ⟨ht1, hx1⟩
  have HT1 := Lib.hid ht1
  have HX1 := Lib.hid hx1
  clear ht1 hx1 x13 x14 f13 f14
  go_wp2_with fail
  go_loopg [20] 3 (fun k v wr => PdL w Rb L p v5 v6 v7 vd b ws k v wr)
  case atStart => exact ⟨0, .slice none 0 0, rfl, by omega, HT1.out, HX1.out, World.ownsRow_nil _ _ _ _⟩
  case round =>
    obtain ⟨j, v13, rfl, hj, ht, hx, ho⟩ := hrel
    have HT := Lib.hid ht
    have HX := Lib.hid hx
    have HO := Lib.hid ho
    have Hj := Lib.hid hj
    clear ht hx ho hj HT1 HX1
    obtain ⟨A5, c5, rfl, _, _⟩ := own_slice HO.out
    by_cases hlt : j < ws.length
    · have hji : (j : Int) < 3 := by omega
      obtain ⟨d0, d1, d2⟩ := wd_at (HG.out.tw HT.out hgR) j hlt
      have dl := (HG.out.tw HT.out hgR).lt
      have HR := Lib.hid (ws_take ws j hlt)
      generalize hx : ws[j] = x at d0 d1 d2 HR
      clear hx
      go_upto_region 5 with fail
      refine world_gen (fun w2 => Tw Rb w w2 ∧ Blk w2 Rb 102 (rdC L p v5 v6 v7 vd b (.slice A5 j c5) 0) ∧ w2.ownsRow w.heap.size 9 1 (.slice A5 j c5) j ((ws.take j).map (fun x : Wd => Value.string x.tx)) ∧ Blk w2 wr.heap.size 98 #[.string x.tx, .int .i64 x.ln, .int .i64 x.cl] ∧ w.heap.size ≤ wr.heap.size) ⟨HT.out.tr (Tw.of ((Below.refl _ _).alloc (Nat.le_refl _) _)), HX.out.al _, HO.out.alloc _, (by repeat (first | (refine Blk.new' _ _ _ _ ?_; first | rfl | (simp <;> omega)) | refine Blk.al ?_ _ | refine Blk.dr ?_ | refine Blk.drN ?_ _ | refine Blk.far ?_ (by first | omega | (simp; omega)))), HT.out.size⟩ ?_
      rintro w2 ⟨ht2, hx2, ho2, hz2, hZw⟩
      have HT2 := Lib.hid ht2
      have HX2 := Lib.hid hx2
      have HO2 := Lib.hid ho2
      have z0 := hz2.cell 0
      have zl := hz2.lt
      have x13 := hx2.cell 13
      have xl := hx2.lt
      have hbz := ht2.size
      simp at z0 x13
      have hnS : (Value.slice A5 j c5).ownBlock ≠ some wr.heap.size := fun e => by have h1 := (own_block HO.out _ e).2; omega
      have hnR : (Value.slice A5 j c5).ownBlock ≠ some Rb := fun e => by have h1 := (own_block HO.out _ e).1; omega
      clear ht2 hx2 ho2 hz2 HT HX HO d0 d1 d2 dl
      generalize wr.heap.size = Z at *
      have hbd : Below w2.heap.size w2 (w2.drew.alloc (.cells #[.string x.tx] 9)) := (Below.refl _ w2).drew.alloc (Nat.le_refl _) _
      refine wp_region_cut 9 (by kernel_rfl) (by kernel_rfl) ?_
      simp only [dulled, dull, List.take_succ_cons, List.take_zero, List.drop_succ_cons, List.drop_zero, List.map_cons, List.map_nil, List.cons_append, List.nil_append]
      refine wpAny_of_held (S := fun W => W.cell? ⟨Rb, 13, none⟩ = some (.slice A5 j c5) ∧ W.cell? ⟨Z, 0, none⟩ = some (.string x.tx)) _ _ _ _ ?_
      change wpAnyH _ _ _ _ _ 12 _ _ (World.drew w2)
      have hHeld : (fun W => W.cell? ⟨Rb, 13, none⟩ = some (.slice A5 j c5) ∧ W.cell? ⟨Z, 0, none⟩ = some (.string x.tx)) (World.drew w2) := ⟨x13, z0⟩
      refine wpAnyH_take (i := 0) (oi := ⟨some _, _, _, _, _, _⟩) (v := ?_) rfl (by kernel_rfl) (by kernel_rfl) (by kernel_rfl) (fun _ _ _ h => h) (Or.inl ⟨by rfl, ?_⟩) (by assumption) ?_
      rotate_left
      · (intro w hSw; (try dsimp only at hSw); go_simp; try with_reducible rfl)
      simp only [Act.put, List.setIfInBounds_toArray, List.set_cons_zero, List.set_cons_succ]
      refine wpAnyH_take (i := 1) (oi := ⟨some _, _, _, _, _, _⟩) (v := ?_) rfl (by kernel_rfl) (by kernel_rfl) (by kernel_rfl) (fun _ _ _ h => h) (Or.inl ⟨by rfl, ?_⟩) (by assumption) ?_
      rotate_left
      · (intro w hSw; (try dsimp only at hSw); go_simp; try with_reducible rfl)
      simp only [Act.put, List.setIfInBounds_toArray, List.set_cons_zero, List.set_cons_succ]
      refine wpAnyH_take (i := 2) (oi := ⟨some _, _, _, _, _, _⟩) (v := ?_) rfl (by kernel_rfl) (by kernel_rfl) (by kernel_rfl) (fun _ _ _ h => h) (Or.inl ⟨by rfl, ?_⟩) (by assumption) ?_
      rotate_left
      · (intro w hSw; (try dsimp only at hSw); go_simp; try with_reducible rfl)
      simp only [Act.put, List.setIfInBounds_toArray, List.set_cons_zero, List.set_cons_succ]
      refine wpAnyH_take (i := 3) (oi := ⟨some _, _, _, _, _, _⟩) (v := ?_) rfl (by kernel_rfl) (by kernel_rfl) (by kernel_rfl) (fun _ _ _ h => h) (Or.inl ⟨by rfl, ?_⟩) (by assumption) ?_
      rotate_left
      · (intro w hSw; (try dsimp only at hSw); go_simp; try with_reducible rfl)
      simp only [Act.put, List.setIfInBounds_toArray, List.set_cons_zero, List.set_cons_succ]
      refine wpAnyH_take (i := 4) (oi := ⟨some _, _, _, _, _, _⟩) (v := ?_) rfl (by kernel_rfl) (by kernel_rfl) (by kernel_rfl) (fun _ _ _ h => h) (Or.inl ⟨by rfl, ?_⟩) (by assumption) ?_
      rotate_left
      · (intro w hSw; (try dsimp only at hSw); go_simp; try with_reducible rfl)
      simp only [Act.put, List.setIfInBounds_toArray, List.set_cons_zero, List.set_cons_succ]
      refine wpAnyH_take (i := 5) (oi := ⟨some _, _, _, _, _, _⟩) (v := ?_) rfl (by kernel_rfl) (by kernel_rfl) (by kernel_rfl) (fun _ _ _ h => h) (Or.inl ⟨by rfl, ?_⟩) (by assumption) ?_
      rotate_left
      · (intro w hSw; (try dsimp only at hSw); go_simp; try with_reducible rfl)
      simp only [Act.put, List.setIfInBounds_toArray, List.set_cons_zero, List.set_cons_succ]
      refine wpAnyH_take (i := 6) (oi := ⟨some _, _, _, _, _, _⟩) (v := ?_) rfl (by kernel_rfl) (by kernel_rfl) (by kernel_rfl) (fun _ _ _ h => h) (Or.inl ⟨by rfl, ?_⟩) (by assumption) ?_
      rotate_left
      · (intro w hSw; (try dsimp only at hSw); go_simp; try with_reducible rfl)
      simp only [Act.put, List.setIfInBounds_toArray, List.set_cons_zero, List.set_cons_succ]
      refine wpAnyH_ready (rs := [7]) (by kernel_rfl) (by simp) ?_
      refine AllReadyH.cons rfl (fun K hK => ?_) AllReadyH.nil
      go_simp
      refine hK.out _ _ ⟨cell_bel hbd x13, cell_bel hbd z0⟩ (fun hHeld => ?_)
      clear hK K
      try simp only [Act.put, List.setIfInBounds_toArray, List.set_cons_zero, List.set_cons_succ]
      refine wpAnyH_ready (rs := [8]) (by kernel_rfl) (by simp) ?_
      refine AllReadyH.cons (o := ⟨some _, _, _, _, _, _⟩) rfl (fun K hK => ?_) AllReadyH.nil
      refine step_append_any (by rfl) _ _ _ (by rfl) w.heap.size 9 _ _ 1 16 Tryz.underlying22 HIT.out.1 HIT.out.2.1 HIT.out.2.2.1 HIT.out.2.2.2 rfl (by omega) (.slice A5 j c5) j ((ws.take j).map (fun x : Wd => Value.string x.tx)) rfl ((show (w2.drew.alloc _).ownsRow _ _ _ _ _ _ from World.ownsRow.alloc HO2.out _)) (some ⟨w2.drew.heap.size, 0, none⟩) 1 1 (w2.drew.heap.size + 1) [.string x.tx] rfl (fun e => by cases e) (Rd.more (Rd.of_blk (cs := [.string x.tx]) (n := 1) (sz := 1) (by repeat (first | (refine Blk.new' _ _ _ _ ?_; first | rfl | (simp <;> omega)) | refine Blk.al ?_ _ | refine Blk.dr ?_ | refine Blk.drN ?_ _ | refine Blk.far ?_ (by first | omega | (simp; omega)))) rfl) (by simp)) ((List.all_eq_true (p := fun (u : Value) => u.oneCell')).1 (by rfl)) (by simp only [maxLen]; omega) (by omega) (by simp; try omega) ?_; intro va wa hoa hga hta; obtain ⟨Aa, ca, rfl, _, _⟩ := own_slice hoa
      have hgg : (w2.drew.alloc (.cells #[.string x.tx] 9)).grownBy wa (Value.slice A5 j c5).ownBlock := hga
      refine hK.out _ _ ⟨cell_gr (cell_bel hbd x13) hgg hnR, cell_gr (cell_bel hbd z0) hgg hnS⟩ (fun hHeld => ?_)
      clear hK K
      try simp only [Act.put, List.setIfInBounds_toArray, List.set_cons_zero, List.set_cons_succ]
      refine wpAnyH_ready (rs := [9]) (by kernel_rfl) (by simp) ?_
      refine AllReadyH.cons rfl (fun K hK => ?_) AllReadyH.nil
      go_simp
      refine hK.out _ _ hHeld (fun hHeld => ?_)
      clear hK K
      refine wpAnyH_ready (rs := [10]) (by kernel_rfl) (by simp) ?_
      refine AllReadyH.cons rfl (fun K hK => ?_) AllReadyH.nil
      go_simp
      refine hK.out _ _ hHeld (fun hHeld => ?_)
      clear hK K
      refine wpAnyH_ready (rs := [11]) (by kernel_rfl) (by simp) ?_
      refine AllReadyH.cons rfl (fun K hK => ?_) AllReadyH.nil
      go_simp
      refine hK.out _ _ hHeld (fun hHeld => ?_)
      clear hK K
      refine wpAnyH_done (by kernel_rfl) ?_ _
      simp only [cutQ, List.drop_succ_cons, List.drop_zero]
      have HN := Lib.hid (pd_step HT2.out HX2.out HO2.out hxl hgg (show wa.ownsRow w.heap.size 9 1 (.slice Aa (j + 1) ca) (j + 1) ((ws.take (j + 1)).map (fun x : Wd => Value.string x.tx)) by rw [HR.out]; exact hoa))
      have y13 : wa.cell? ⟨Rb, 13, none⟩ = some (.slice A5 j c5) := hHeld.1
      have fy13 := HN.out.1.frozen 13
      have yl := HN.out.1.lt
      clear hHeld hoa hga hta hbd hgg x13 xl z0 zl hnR hnS
      go_wp2_with fail
      go_roundg (3 - j - 1)
      case measure => have := Hj.out; omega
      case rel => exact ⟨j + 1, _, by first | rfl | go_num, by have := Hj.out; omega, HN.out.2⟩
    · obtain rfl : j = 3 := by have := Hj.out; omega
      obtain ⟨g5, c5', hv5, hc5, hg5, _⟩ := own_cs HO.out (by omega)
      obtain ⟨rfl, rfl⟩ : A5 = some ⟨g5, 0, none⟩ ∧ c5 = c5' := by simp at hv5; exact hv5
      rw [List.take_of_length_le (by omega), HTX.out] at hc5
      have HC5 := Lib.hid hc5
      clear hv5 hc5 HO HG HTX
      have hv := HV7.out
      subst hv
      have x13 := HX.out.cell 13
      have xl := HX.out.lt
      simp at x13
      have q0 : wr.cell? ⟨g5, 0, none⟩ = some (.string kwPri) := HC5.out.c 0 _ rfl
      have ql := HC5.out.lt
      go_wp2_with fail
      refine (dride_ok Rb g5 c5 gl cl L p v5 v6 vd b _ HX.out HC5.out (HL0.out.tw HT.out hne)).mono ?_
      rintro e w3 ⟨⟨v3, rfl⟩, ht3, ga, ca, hgw, hca, hcl⟩
      have HT3 := Lib.hid ((T2.l HT.out : T2 Rb gl w wr).tr (T2.r ht3))
      have HX3 := Lib.hid (HX.out.same (ht3.block _ HX.out.lt (fun e => hne e.symm)))
      have HC3 := Lib.hid (And.intro hca hcl)
      have hgw2 : w.heap.size ≤ ga := by have := HT.out.size; omega
      have y14 := HX3.out.cell 14
      have yl := HX3.out.lt
      simp at y14
      clear ht3 hca hcl HT HX x13 xl q0 ql hgw
      go_wp2_with fail
      go_ret
      exact ⟨rfl, HT3.out, ga, ca, _, hgw2, HC3.out.1, HC3.out.2, HX3.out⟩
end Go.Proofs.YtinjdcefagaaeaaGreatDoor
namespace Go.Proofs.YtinjdcefagaaeaaGreatDoor
open Go.RowKit
/-! plan.Parse: route -/
theorem infoPst2 : (Tryz.prog.info? 113).map (fun i => (i.zero, i.size, i.bytes)) = some (some (.agg #[.int .i64 0, .int .i64 0]), 2, 16) := by kernel_rfl
theorem infoPro : (Tryz.prog.info? 44).map (fun i => (i.zero, i.size, i.bytes)) = some (some (.agg #[.slice none 0 0, .int .i64 0]), 2, 32) := by kernel_rfl
abbrev kwPro : ByteArray := ⟨#[114, 111, 117, 116, 101]⟩
abbrev tUp : ByteArray := ⟨#[117, 112]⟩
abbrev rtX : List ByteArray := [kwPro, ⟨#[120]⟩, tUp, ⟨#[97]⟩, tUp, ⟨#[121]⟩, tUp]
theorem numbad (s : ByteArray) (i : Int) (w : World) (hs : s.size ≤ 64) (h : numF s.data.toList = (i, false)) : Calls Tryz.prog 130 #[.string s] w fun e w' => e = .returned (.tuple #[.int .i64 i, .bool false]) ∧ w' = w := by
  have := number_any s w (by simp only [maxLen]; omega)
  rw [h] at this
  exact this
def RuL (w : World) (k : Nat) (v : Value) (wr : World) : Prop := ∃ (q i : Nat) (v0 : Value), v = .int .i64 i ∧ i = 1 + 2 * q ∧ q + k = 3 ∧ Below w.heap.size w wr ∧ Blk wr w.heap.size 44 #[v0, .int .i64 0] ∧ wr.ownsRow (w.heap.size + 1) 113 2 v0 q (stpL.take (2 * q))
theorem rtX_at (q : Nat) (hq : q < 3) : rtX[1 + 2 * q]? = some ⟨#[nmF q]⟩ ∧ rtX[1 + 2 * q + 1]? = some tUp := by
  match q, hq with
  | 0, _ => exact ⟨rfl, rfl⟩
  | 1, _ => exact ⟨rfl, rfl⟩
  | 2, _ => exact ⟨rfl, rfl⟩
theorem stp_take (q : Nat) (hq : q < 3) : stpL.take (2 * (q + 1)) = stpL.take (2 * q) ++ [.int .i64 q, .int .i64 0] := by
  match q, hq with
  | 0, _ => rfl
  | 1, _ => rfl
  | 2, _ => rfl
theorem ru_key {w w3 wa : World} {q : Nat} {v : Value} {cs : List Value} {ce : Array Value} {o : Obj} (hb : Below w.heap.size w w3) (hz : Blk w3 w.heap.size 44 ce) (ho : w3.ownsRow (w.heap.size + 1) 113 2 v q cs) (hg : (w3.alloc o).grownBy wa v.ownBlock) :
    Below w.heap.size w wa ∧ Blk wa w.heap.size 44 ce := by
  have hs := hb.size
  have hob := own_block ho
  exact ⟨(hb.alloc hs o).grown hg (by simp; omega) (fun k hk => by have := (hob k hk).1; omega), (hz.al o).same (hg.block _ (hz.al o).lt (fun e => by have := (hob _ e.symm).1; omega))⟩
def PtOut (w : World) (Rb : Nat) (F : Value → Array Value) (e : Ending) (w' : World) : Prop := (∃ v, e = .returned v) ∧ Tw Rb w w' ∧ ∃ gr cr sp cs, w.heap.size ≤ gr ∧ w.heap.size ≤ sp ∧ 3 ≤ cs ∧ CB w' gr 44 (rtC sp cs).toList ∧ Cs w' sp stpL ∧ Blk w' Rb 102 (F (.slice (some ⟨gr, 0, none⟩) 1 cr))
set_option maxRecDepth 100000 in
set_option maxHeartbeats 12800000 in
theorem droute_ok (Rb g c : Nat) (L : LyA) (p : Int) (v5 v7 vd : Value) (b : Bool) (w : World) (h : Blk w Rb 102 (rdC L p v5 (.slice none 0 0) v7 vd b (.slice (some ⟨g, 0, none⟩) 7 c) 0)) (hc : Cs w g (rtX.map Value.string)) (hl : LayM w L) :
    Calls Tryz.prog 78 #[.pointer (some ⟨Rb, 0, none⟩)] w (PtOut w Rb (fun v => rdC L p v5 v v7 vd b (.slice (some ⟨g, 0, none⟩) 7 c) 0)) := by
  have H := Lib.hid h
  have HL := Lib.hid hl
  have x13 := h.cell 13
  have xl := h.lt
  simp at x13
  have HW := Lib.hid (show RdW w Rb g 7 c rtX from ⟨x13, hc, rfl⟩)
  clear h hc hl
  obtain ⟨iE, b1, b2, b3, b4⟩ := info_parts infoPst2
  have HIE := Lib.hid (And.intro b1 (And.intro b2 (And.intro b3 b4)))
  clear b1 b2 b3 b4
  obtain ⟨iS, b1, b2, b3, b4⟩ := info_parts infoPro
  have HIS := Lib.hid (And.intro b1 (And.intro b2 (And.intro b3 b4)))
  clear b1 b2 b3 b4
  go_enter Tryz.func78, Tryz.ntmps78
  go_upto_region 1 with fail
  refine world_gen (fun w0 => Below w.heap.size w w0 ∧ Blk w0 w.heap.size 44 #[.slice none 0 0, .int .i64 0]) ⟨(by repeat (first | exact Below.refl _ _ | (with_reducible refine Below.drew ?_) | (with_reducible refine below_drewN ?_ _) | (with_reducible refine Below.alloc ?_ (by first | omega | (simp; done) | (simp; omega)) _) | (with_reducible refine Below.setCell ?_ (by first | omega | (simp; done) | (simp; omega)) _) | (refine Below.trans ?_ (Below.mono (by with_reducible assumption) (by first | omega | (simp; done) | (simp; omega)))))), (by repeat (first | (refine Blk.new' _ _ _ _ ?_; first | rfl | (simp <;> omega)) | refine Blk.al ?_ _ | refine Blk.dr ?_ | refine Blk.drN ?_ _ | refine Blk.far ?_ (by first | omega | (simp; omega))))⟩ ?_
  rintro w0 ⟨hb0, hz0⟩
  have HB0 := Lib.hid hb0
  have HZ0 := Lib.hid hz0
  have y13 := cell_bel hb0 x13
  have yl := Nat.lt_of_lt_of_le xl hb0.size
  clear hb0 hz0 x13 xl
  go_wp2_with fail
  refine (word_ok Rb g 7 c 6 rtX tUp _ (HW.out.go HB0.out) rfl).mono ?_
  rintro e w1 ⟨rfl, hw1⟩
  rw [hw1]
  clear hw1 w1
  go_wp2_with fail
  refine (numbad tUp 0 _ (by decide) (by decide)).mono ?_
  rintro e w1 ⟨rfl, hw1⟩
  rw [hw1]
  clear hw1 w1
  go_wp2_with fail
  refine (need_ok Rb _).mono ?_
  rintro e wn ⟨⟨vn, rfl⟩, hwn⟩
  rw [hwn]
  clear hwn wn
  go_wp2_with fail
  clear y13 yl
  go_loopg [6] 3 (fun k v wr => RuL w k v wr)
  case atStart => exact ⟨0, 1, _, rfl, rfl, by omega, HB0.out, HZ0.out, World.ownsRow_nil _ _ _ _⟩
  case round =>
    obtain ⟨q, i, v0, rfl, hi, hq, hb, hz, ho⟩ := hrel
    have HB := Lib.hid hb
    have HZ := Lib.hid hz
    have HO := Lib.hid ho
    have Hq := Lib.hid (And.intro hi hq)
    clear hb hz ho hi hq HB0 HZ0
    obtain ⟨A0, c0, rfl, hc0, _⟩ := own_slice HO.out
    have hrb := HB.out
    have x13 := cell_bel hrb HW.out.h
    have x2 := cell_bel hrb (H.out.cell 2)
    have xl := World.block_lt_of_cell? _ _ x13
    simp at x2 xl
    clear hrb
    by_cases hlt : q < 3
    · have hi7 : (i : Int) + 1 < 7 := by have := Hq.out.1; omega
      have hi8 : (0 : Int) ≤ (i : Int) + 1 := by omega
      have HX := Lib.hid (rtX_at q hlt)
      have hix : rtX[i]? = some ⟨#[nmF q]⟩ ∧ rtX[i + 1]? = some tUp := by rw [Hq.out.1]; exact HX.out
      have u1 := ((HW.out.go HB.out).at (i + 1) _ hix.2).1
      have ul := (HW.out.go HB.out).c.lt
      have hx1 := hix.1
      clear hix HX
      go_wp2_with fail
      refine (rsec_ok Rb g 7 c i L.se L.c3 q rtX _ (HW.out.go HB.out) hx1 (HL.out.se.go HB.out) x2 hlt).mono ?_
      rintro e w2 ⟨rfl, hb2⟩
      have HB2 := Lib.hid (HB.out.trans (hb2.mono HB.out.size))
      have HZ2 := Lib.hid (HZ.out.same (hb2.block _ HZ.out.lt))
      have HO2 := Lib.hid (own_grow HO.out hb2)
      have y13 := cell_bel hb2 x13
      have yl := Nat.lt_of_lt_of_le xl hb2.size
      have v1 := cell_bel hb2 u1
      have vl := Nat.lt_of_lt_of_le ul hb2.size
      clear hb2 x13 x2 xl u1 ul HB HZ HO hx1
      go_upto_region 17 with fail
      have hw2 := HB2.out.size
      refine world_gen (fun w3 => Below w.heap.size w w3 ∧ Blk w3 w.heap.size 44 #[.slice A0 q c0, .int .i64 0] ∧ w3.ownsRow (w.heap.size + 1) 113 2 (.slice A0 q c0) q (stpL.take (2 * q)) ∧ Blk w3 w2.heap.size 113 #[.int .i64 q, .int .i64 0]) ?_ ?_
      · have hbx : Below w2.heap.size w2 (w2.alloc (.cells #[.int .i64 q, .int .i64 0] 113)) := (Below.refl _ w2).alloc (Nat.le_refl _) _
        exact ⟨HB2.out.trans (hbx.mono hw2), HZ2.out.same (hbx.block _ HZ2.out.lt), own_grow HO2.out hbx, Blk.new w2 113 #[.int .i64 q, .int .i64 0]⟩
      rintro w3 ⟨hb3, hz3, ho3, hs3⟩
      have HB3 := Lib.hid hb3
      have HZ3 := Lib.hid hz3
      have HO3 := Lib.hid ho3
      have z0 := hz3.cell 0
      have zl := hz3.lt
      have s0 := hs3.cell 0
      have s1 := hs3.cell 1
      have sl := hs3.lt
      simp at z0 s0 s1
      have HT := Lib.hid (stp_take q hlt)
      clear hb3 hz3 ho3 hs3 HB2 HZ2 HO2 y13 yl v1 vl
      generalize w2.heap.size = Z at *
      go_upto_region 9 with ((at_builtin; refine wpList_append_own_at _ rfl _ _ 42 rfl (w.heap.size + 1) 113 iE _ 2 16 Tryz.underlying42 HIE.out.1 HIE.out.2.1 HIE.out.2.2.1 HIE.out.2.2.2 rfl (by omega) _ q (stpL.take (2 * q)) rfl (World.ownsRow.alloc HO3.out _) ⟨w3.heap.size, 0, none⟩ 1 1 [.int .i64 q, .int .i64 0] rfl rfl ?c0 ?c1 ?c2 ?c3 ?c4 ?_; rotate_right; intro va wa hoa hga hna hta); obtain ⟨Aa, ca, rfl, _, _⟩ := own_slice hoa; have HKA := Lib.hid (ru_key HB3.out HZ3.out HO3.out hga); have HOA := Lib.hid (show wa.ownsRow (w.heap.size + 1) 113 2 (.slice Aa (q + 1) ca) (q + 1) (stpL.take (2 * (q + 1))) by rw [HT.out]; exact hoa); have y0 := HKA.out.2.cell 0; have fy0 := HKA.out.2.frozen 0; have yl0 := HKA.out.2.lt; simp at y0; clear hoa hga hna hta)
      case c0 => exact news_new _ _ _
      case c1 => exact (List.all_eq_true (p := fun (u : Value) => u.oneCell')).1 (by rfl)
      case c2 => simp only [maxLen]; omega
      case c3 => omega
      case c4 => first | omega | (simp; done) | (simp; omega)
      have hob := own_block HOA.out
      have hnS : (Value.slice Aa (q + 1) ca).ownBlock ≠ some w.heap.size := fun e => by have h1 := (hob _ e).1; omega
      have HF := Lib.hid (And.intro (HKA.out.1.setCell (p := ⟨w.heap.size, 0, none⟩) (Nat.le_refl _) (.slice Aa (q + 1) ca)) (And.intro (HKA.out.2.set_ 0 (.slice Aa (q + 1) ca)) (own_far HOA.out (p := ⟨w.heap.size, 0, none⟩) (u := .slice Aa (q + 1) ca) hnS)))
      clear hob hnS HKA HOA HB3 HZ3 HO3 z0 zl s0 s1 sl y0 fy0 yl0
      go_wp2_with fail
      go_roundg (3 - q - 1)
      case measure => have := Hq.out; omega
      case rel => exact ⟨q + 1, i + 2, _, by first | rfl | go_num, by have := Hq.out; omega, by have := Hq.out; omega, HF.out.1, HF.out.2.1, HF.out.2.2⟩
    · obtain rfl : q = 3 := by have := Hq.out; omega
      obtain rfl : i = 7 := by have := Hq.out; omega
      obtain ⟨sp, cs, hv0, hcs, hgs, hc3⟩ := own_cs HO.out (by omega)
      obtain ⟨rfl, rfl⟩ : A0 = some ⟨sp, 0, none⟩ ∧ c0 = cs := by simp at hv0; exact hv0
      have HCS := Lib.hid hcs
      have x6 := cell_bel HB.out (H.out.cell 6)
      have s0 := HZ.out.cell 0
      have s1 := HZ.out.cell 1
      have sl := HZ.out.lt
      simp at x6 s0 s1
      clear hv0 hcs
      go_upto_region 18 with fail
      have hbd : Below wr.heap.size wr (wr.drew.alloc (.cells (rtC sp c0) 44)) := (Below.refl _ wr).drew.alloc (Nat.le_refl _) _
      refine wp_region_cut 9 (by kernel_rfl) (by kernel_rfl) ?_
      simp only [dulled, dull, List.take_succ_cons, List.take_zero, List.drop_succ_cons, List.drop_zero, List.map_cons, List.map_nil, List.cons_append, List.nil_append]
      refine wpAny_of_held (S := fun W => Below wr.heap.size wr W ∧ W.cell? ⟨Rb, 6, none⟩ = some (.slice none 0 0) ∧ W.cell? ⟨w.heap.size, 0, none⟩ = some (.slice (some ⟨sp, 0, none⟩) 3 c0) ∧ W.cell? ⟨w.heap.size, 1, none⟩ = some (.int .i64 0)) _ _ _ _ ?_
      change wpAnyH _ _ _ _ _ 13 _ _ (World.drew wr)
      have hHeld : (fun W => Below wr.heap.size wr W ∧ W.cell? ⟨Rb, 6, none⟩ = some (.slice none 0 0) ∧ W.cell? ⟨w.heap.size, 0, none⟩ = some (.slice (some ⟨sp, 0, none⟩) 3 c0) ∧ W.cell? ⟨w.heap.size, 1, none⟩ = some (.int .i64 0)) (World.drew wr) := ⟨(Below.refl _ _).drew, x6, s0, s1⟩
      refine wpAnyH_take (i := 0) (oi := ⟨some _, _, _, _, _, _⟩) (v := ?_) rfl (by kernel_rfl) (by kernel_rfl) (by kernel_rfl) (fun _ _ _ h => h) (Or.inl ⟨by rfl, ?_⟩) (by assumption) ?_
      rotate_left
      · (intro w hSw; (try dsimp only at hSw); go_simp; try with_reducible rfl)
      simp only [Act.put, List.setIfInBounds_toArray, List.set_cons_zero, List.set_cons_succ]
      refine wpAnyH_take (i := 1) (oi := ⟨some _, _, _, _, _, _⟩) (v := ?_) rfl (by kernel_rfl) (by kernel_rfl) (by kernel_rfl) (fun _ _ _ h => h) (Or.inl ⟨by rfl, ?_⟩) (by assumption) ?_
      rotate_left
      · (intro w hSw; (try dsimp only at hSw); go_simp; try with_reducible rfl)
      simp only [Act.put, List.setIfInBounds_toArray, List.set_cons_zero, List.set_cons_succ]
      refine wpAnyH_take (i := 2) (oi := ⟨some _, _, _, _, _, _⟩) (v := ?_) rfl (by kernel_rfl) (by kernel_rfl) (by kernel_rfl) (fun _ _ _ h => h) (Or.inl ⟨by rfl, ?_⟩) (by assumption) ?_
      rotate_left
      · (intro w hSw; (try dsimp only at hSw); go_simp; try with_reducible rfl)
      simp only [Act.put, List.setIfInBounds_toArray, List.set_cons_zero, List.set_cons_succ]
      refine wpAnyH_take (i := 3) (oi := ⟨some _, _, _, _, _, _⟩) (v := ?_) rfl (by kernel_rfl) (by kernel_rfl) (by kernel_rfl) (fun _ _ _ h => h) (Or.inl ⟨by rfl, ?_⟩) (by assumption) ?_
      rotate_left
      · (intro w hSw; (try dsimp only at hSw); go_simp; try with_reducible rfl)
      simp only [Act.put, List.setIfInBounds_toArray, List.set_cons_zero, List.set_cons_succ]
      refine wpAnyH_take (i := 4) (oi := ⟨some _, _, _, _, _, _⟩) (v := ?_) rfl (by kernel_rfl) (by kernel_rfl) (by kernel_rfl) (fun _ _ _ h => h) (Or.inl ⟨by rfl, ?_⟩) (by assumption) ?_
      rotate_left
      · (intro w hSw; (try dsimp only at hSw); go_simp; try with_reducible rfl)
      simp only [Act.put, List.setIfInBounds_toArray, List.set_cons_zero, List.set_cons_succ]
      refine wpAnyH_take (i := 5) (oi := ⟨some _, _, _, _, _, _⟩) (v := ?_) rfl (by kernel_rfl) (by kernel_rfl) (by kernel_rfl) (fun _ _ _ h => h) (Or.inl ⟨by rfl, ?_⟩) (by assumption) ?_
      rotate_left
      · (intro w hSw; (try dsimp only at hSw); go_simp; try with_reducible rfl)
      simp only [Act.put, List.setIfInBounds_toArray, List.set_cons_zero, List.set_cons_succ]
      refine wpAnyH_take (i := 6) (oi := ⟨some _, _, _, _, _, _⟩) (v := ?_) rfl (by kernel_rfl) (by kernel_rfl) (by kernel_rfl) (fun _ _ _ h => h) (Or.inl ⟨by rfl, ?_⟩) (by assumption) ?_
      rotate_left
      · (intro w hSw; (try dsimp only at hSw); go_simp; try with_reducible rfl)
      simp only [Act.put, List.setIfInBounds_toArray, List.set_cons_zero, List.set_cons_succ]
      refine wpAnyH_ready (rs := [7]) (by kernel_rfl) (by simp) ?_
      refine AllReadyH.cons rfl (fun K hK => ?_) AllReadyH.nil
      go_simp
      refine hK.out _ _ ⟨hbd, cell_bel hbd x6, cell_bel hbd s0, cell_bel hbd s1⟩ (fun hHeld => ?_)
      clear hK K
      try simp only [Act.put, List.setIfInBounds_toArray, List.set_cons_zero, List.set_cons_succ]
      refine wpAnyH_ready (rs := [8]) (by kernel_rfl) (by simp) ?_
      refine AllReadyH.cons (o := ⟨some _, _, _, _, _, _⟩) rfl (fun K hK => ?_) AllReadyH.nil
      refine step_append_any (by rfl) _ _ _ (by rfl) wr.heap.size 44 _ _ 2 32 Tryz.underlying28 HIS.out.1 HIS.out.2.1 HIS.out.2.2.1 HIS.out.2.2.2 rfl (by omega) (.slice none 0 0) 0 ([]) rfl (World.ownsRow_nil _ _ _ _) (some ⟨wr.drew.heap.size, 0, none⟩) 1 1 (wr.drew.heap.size + 1) (rtC sp c0).toList rfl (fun e => by cases e) (Rd.more (Rd.of_blk (cs := (rtC sp c0).toList) (n := 1) (sz := 2) (by repeat (first | (refine Blk.new' _ _ _ _ ?_; first | rfl | (simp <;> omega)) | refine Blk.al ?_ _ | refine Blk.dr ?_ | refine Blk.drN ?_ _ | refine Blk.far ?_ (by first | omega | (simp; omega)))) rfl) (by simp)) ((List.all_eq_true (p := fun (u : Value) => u.oneCell')).1 (by rfl)) (by simp only [maxLen]; omega) (by omega) (by simp; try omega) ?_; intro va wa hoa hga hta; obtain ⟨ga, ca, rfl, hca, hgA, _⟩ := own_cs hoa (by omega)
      have hba : Below wr.heap.size wr wa := hbd.trans (Below.mono (bel_grow hga) (by simp))
      refine hK.out _ _ ⟨hba, cell_bel hba x6, cell_bel hba s0, cell_bel hba s1⟩ (fun hHeld => ?_)
      clear hK K
      try simp only [Act.put, List.setIfInBounds_toArray, List.set_cons_zero, List.set_cons_succ]
      refine wpAnyH_ready (rs := [9]) (by kernel_rfl) (by simp) ?_
      refine AllReadyH.cons rfl (fun K hK => ?_) AllReadyH.nil
      go_simp
      refine hK.out _ _ hHeld (fun hHeld => ?_)
      clear hK K
      refine wpAnyH_ready (rs := [10]) (by kernel_rfl) (by simp) ?_
      refine AllReadyH.cons rfl (fun K hK => ?_) AllReadyH.nil
      go_simp
      refine hK.out _ _ hHeld (fun hHeld => ?_)
      clear hK K
      refine wpAnyH_ready (rs := [11]) (by kernel_rfl) (by simp) ?_
      refine AllReadyH.cons rfl (fun K hK => ?_) AllReadyH.nil
      go_simp
      refine hK.out _ _ hHeld (fun hHeld => ?_)
      clear hK K
      refine wpAnyH_ready (rs := [12]) (by kernel_rfl) (by simp) ?_
      refine AllReadyH.cons rfl (fun K hK => ?_) AllReadyH.nil
      go_simp
      refine hK.out _ _ hHeld (fun hHeld => ?_)
      clear hK K
      refine wpAnyH_done (by kernel_rfl) ?_ _
      simp only [cutQ, List.drop_succ_cons, List.drop_zero]
      have hRl := H.out.lt
      have hBs := HB.out.size
      have HBA := Lib.hid (HB.out.trans (hba.mono hBs))
      have HXA := Lib.hid (H.out.same (HBA.out.block _ hRl))
      have hgaR : ga ≠ Rb := by omega
      have hspR : sp ≠ Rb := by omega
      have hgw : w.heap.size ≤ ga := by omega
      have hsw2 : w.heap.size ≤ sp := by omega
      have HCA := Lib.hid ((CB.own hoa).tw (Tw.set Rb 6 wa (.slice (some ⟨ga, 0, none⟩) 1 ca)) hgaR)
      have HSA := Lib.hid ((HCS.out.go hba).tw (Tw.set Rb 6 wa (.slice (some ⟨ga, 0, none⟩) 1 ca)) hspR)
      have y6 := HXA.out.cell 6
      have fy6 := HXA.out.frozen 6
      have yl := HXA.out.lt
      simp at y6
      clear hHeld hoa hga hta hca hba hbd x6 s0 s1 sl x2 x13 xl HB HZ HO
      go_wp2_with fail
      go_end0
      exact ⟨⟨_, rfl⟩, (Tw.of HBA.out).tr (Tw.set Rb 6 _ _), ga, ca, sp, c0, hgw, hsw2, hc3, HCA.out, HSA.out, HXA.out.set_ 6 _⟩
def PsOut (w : World) (Rb : Nat) (F : Value → Value → Array Value) (e : Ending) (w' : World) : Prop := e = .returned (.int .i64 0) ∧ Tw Rb w w' ∧ ∃ gr cr sp cs vw', w.heap.size ≤ gr ∧ w.heap.size ≤ sp ∧ 3 ≤ cs ∧ CB w' gr 44 (rtC sp cs).toList ∧ Cs w' sp stpL ∧ Blk w' Rb 102 (F (.slice (some ⟨gr, 0, none⟩) 1 cr) vw')
set_option maxRecDepth 100000 in
set_option maxHeartbeats 12800000 in
theorem pdrou_ok (Rb g c : Nat) (ws : List Wd) (L : LyA) (p : Int) (v5 v7 vd vw : Value) (b : Bool) (w : World) (h : Blk w Rb 102 (rdC L p v5 (.slice none 0 0) v7 vd b vw 0)) (hlm : LayM w L) (hlR : L.st ≠ Rb ∧ L.se ≠ Rb ∧ L.li ≠ Rb) (hg : Cs w g (ws.flatMap Wd.cells)) (hgR : g ≠ Rb) (ht : ws.map (fun x => Value.string x.tx) = rtX.map Value.string) (hl : ws.length = 7) :
    Calls Tryz.prog 28 #[.pointer (some ⟨Rb, 0, none⟩), .slice (some ⟨g, 0, none⟩) 7 c] w (PsOut w Rb (fun v vw' => rdC L p v5 v v7 vd b vw' 0)) := by
  obtain ⟨v6, hv6⟩ : ∃ v : Value, v = .slice none 0 0 := ⟨_, rfl⟩
  rw [← hv6] at h
  have HV6 := Lib.hid hv6
  clear hv6
  have HLM := Lib.hid hlm
  clear hlm
  have H := Lib.hid h
  have HG := Lib.hid hg
  have HTX := Lib.hid ht
  have hxl := h.lt
  have hgl := hg.lt
  clear h hg ht
  obtain ⟨iT, b1, b2, b3, b4⟩ := info_parts infoStr
  have HIT := Lib.hid (And.intro b1 (And.intro b2 (And.intro b3 b4)))
  clear b1 b2 b3 b4
  have x13 := H.out.cell 13
  have x14 := H.out.cell 14
  have f13 := H.out.frozen 13
  have f14 := H.out.frozen 14
  simp at x13 x14
  go_enter Tryz.func28, Tryz.ntmps28
  go_upto_region 2 with fail
  refine world_gen (fun w1 => Tw Rb w w1 ∧ Blk w1 Rb 102 (rdC L p v5 v6 v7 vd b (.slice none 0 0) 0)) ⟨(Tw.set Rb 13 w _).tr (Tw.set Rb 14 _ _), (H.out.set_ 13 _).set_ 14 _⟩ ?_
  rintro w1 ⟨ht1, hx1⟩
  have HT1 := Lib.hid ht1
  have HX1 := Lib.hid hx1
  clear ht1 hx1 x13 x14 f13 f14
  go_wp2_with fail
  go_loopg [20] 7 (fun k v wr => PdL w Rb L p v5 v6 v7 vd b ws k v wr)
  case atStart => exact ⟨0, .slice none 0 0, rfl, by omega, HT1.out, HX1.out, World.ownsRow_nil _ _ _ _⟩
  case round =>
    obtain ⟨j, v13, rfl, hj, ht, hx, ho⟩ := hrel
    have HT := Lib.hid ht
    have HX := Lib.hid hx
    have HO := Lib.hid ho
    have Hj := Lib.hid hj
    clear ht hx ho hj HT1 HX1
    obtain ⟨A5, c5, rfl, _, _⟩ := own_slice HO.out
    by_cases hlt : j < ws.length
    · have hji : (j : Int) < 7 := by omega
      obtain ⟨d0, d1, d2⟩ := wd_at (HG.out.tw HT.out hgR) j hlt
      have dl := (HG.out.tw HT.out hgR).lt
      have HR := Lib.hid (ws_take ws j hlt)
      generalize hx : ws[j] = x at d0 d1 d2 HR
      clear hx
      go_upto_region 5 with fail
      refine world_gen (fun w2 => Tw Rb w w2 ∧ Blk w2 Rb 102 (rdC L p v5 v6 v7 vd b (.slice A5 j c5) 0) ∧ w2.ownsRow w.heap.size 9 1 (.slice A5 j c5) j ((ws.take j).map (fun x : Wd => Value.string x.tx)) ∧ Blk w2 wr.heap.size 98 #[.string x.tx, .int .i64 x.ln, .int .i64 x.cl] ∧ w.heap.size ≤ wr.heap.size) ⟨HT.out.tr (Tw.of ((Below.refl _ _).alloc (Nat.le_refl _) _)), HX.out.al _, HO.out.alloc _, (by repeat (first | (refine Blk.new' _ _ _ _ ?_; first | rfl | (simp <;> omega)) | refine Blk.al ?_ _ | refine Blk.dr ?_ | refine Blk.drN ?_ _ | refine Blk.far ?_ (by first | omega | (simp; omega)))), HT.out.size⟩ ?_
      rintro w2 ⟨ht2, hx2, ho2, hz2, hZw⟩
      have HT2 := Lib.hid ht2
      have HX2 := Lib.hid hx2
      have HO2 := Lib.hid ho2
      have z0 := hz2.cell 0
      have zl := hz2.lt
      have x13 := hx2.cell 13
      have xl := hx2.lt
      have hbz := ht2.size
      simp at z0 x13
      have hnS : (Value.slice A5 j c5).ownBlock ≠ some wr.heap.size := fun e => by have h1 := (own_block HO.out _ e).2; omega
      have hnR : (Value.slice A5 j c5).ownBlock ≠ some Rb := fun e => by have h1 := (own_block HO.out _ e).1; omega
      clear ht2 hx2 ho2 hz2 HT HX HO d0 d1 d2 dl
      generalize wr.heap.size = Z at *
      have hbd : Below w2.heap.size w2 (w2.drew.alloc (.cells #[.string x.tx] 9)) := (Below.refl _ w2).drew.alloc (Nat.le_refl _) _
      refine wp_region_cut 9 (by kernel_rfl) (by kernel_rfl) ?_
      simp only [dulled, dull, List.take_succ_cons, List.take_zero, List.drop_succ_cons, List.drop_zero, List.map_cons, List.map_nil, List.cons_append, List.nil_append]
      refine wpAny_of_held (S := fun W => W.cell? ⟨Rb, 13, none⟩ = some (.slice A5 j c5) ∧ W.cell? ⟨Z, 0, none⟩ = some (.string x.tx)) _ _ _ _ ?_
      change wpAnyH _ _ _ _ _ 12 _ _ (World.drew w2)
      have hHeld : (fun W => W.cell? ⟨Rb, 13, none⟩ = some (.slice A5 j c5) ∧ W.cell? ⟨Z, 0, none⟩ = some (.string x.tx)) (World.drew w2) := ⟨x13, z0⟩
      refine wpAnyH_take (i := 0) (oi := ⟨some _, _, _, _, _, _⟩) (v := ?_) rfl (by kernel_rfl) (by kernel_rfl) (by kernel_rfl) (fun _ _ _ h => h) (Or.inl ⟨by rfl, ?_⟩) (by assumption) ?_
      rotate_left
      · (intro w hSw; (try dsimp only at hSw); go_simp; try with_reducible rfl)
      simp only [Act.put, List.setIfInBounds_toArray, List.set_cons_zero, List.set_cons_succ]
      refine wpAnyH_take (i := 1) (oi := ⟨some _, _, _, _, _, _⟩) (v := ?_) rfl (by kernel_rfl) (by kernel_rfl) (by kernel_rfl) (fun _ _ _ h => h) (Or.inl ⟨by rfl, ?_⟩) (by assumption) ?_
      rotate_left
      · (intro w hSw; (try dsimp only at hSw); go_simp; try with_reducible rfl)
      simp only [Act.put, List.setIfInBounds_toArray, List.set_cons_zero, List.set_cons_succ]
      refine wpAnyH_take (i := 2) (oi := ⟨some _, _, _, _, _, _⟩) (v := ?_) rfl (by kernel_rfl) (by kernel_rfl) (by kernel_rfl) (fun _ _ _ h => h) (Or.inl ⟨by rfl, ?_⟩) (by assumption) ?_
      rotate_left
      · (intro w hSw; (try dsimp only at hSw); go_simp; try with_reducible rfl)
      simp only [Act.put, List.setIfInBounds_toArray, List.set_cons_zero, List.set_cons_succ]
      refine wpAnyH_take (i := 3) (oi := ⟨some _, _, _, _, _, _⟩) (v := ?_) rfl (by kernel_rfl) (by kernel_rfl) (by kernel_rfl) (fun _ _ _ h => h) (Or.inl ⟨by rfl, ?_⟩) (by assumption) ?_
      rotate_left
      · (intro w hSw; (try dsimp only at hSw); go_simp; try with_reducible rfl)
      simp only [Act.put, List.setIfInBounds_toArray, List.set_cons_zero, List.set_cons_succ]
      refine wpAnyH_take (i := 4) (oi := ⟨some _, _, _, _, _, _⟩) (v := ?_) rfl (by kernel_rfl) (by kernel_rfl) (by kernel_rfl) (fun _ _ _ h => h) (Or.inl ⟨by rfl, ?_⟩) (by assumption) ?_
      rotate_left
      · (intro w hSw; (try dsimp only at hSw); go_simp; try with_reducible rfl)
      simp only [Act.put, List.setIfInBounds_toArray, List.set_cons_zero, List.set_cons_succ]
      refine wpAnyH_take (i := 5) (oi := ⟨some _, _, _, _, _, _⟩) (v := ?_) rfl (by kernel_rfl) (by kernel_rfl) (by kernel_rfl) (fun _ _ _ h => h) (Or.inl ⟨by rfl, ?_⟩) (by assumption) ?_
      rotate_left
      · (intro w hSw; (try dsimp only at hSw); go_simp; try with_reducible rfl)
      simp only [Act.put, List.setIfInBounds_toArray, List.set_cons_zero, List.set_cons_succ]
      refine wpAnyH_take (i := 6) (oi := ⟨some _, _, _, _, _, _⟩) (v := ?_) rfl (by kernel_rfl) (by kernel_rfl) (by kernel_rfl) (fun _ _ _ h => h) (Or.inl ⟨by rfl, ?_⟩) (by assumption) ?_
      rotate_left
      · (intro w hSw; (try dsimp only at hSw); go_simp; try with_reducible rfl)
      simp only [Act.put, List.setIfInBounds_toArray, List.set_cons_zero, List.set_cons_succ]
      refine wpAnyH_ready (rs := [7]) (by kernel_rfl) (by simp) ?_
      refine AllReadyH.cons rfl (fun K hK => ?_) AllReadyH.nil
      go_simp
      refine hK.out _ _ ⟨cell_bel hbd x13, cell_bel hbd z0⟩ (fun hHeld => ?_)
      clear hK K
      try simp only [Act.put, List.setIfInBounds_toArray, List.set_cons_zero, List.set_cons_succ]
      refine wpAnyH_ready (rs := [8]) (by kernel_rfl) (by simp) ?_
      refine AllReadyH.cons (o := ⟨some _, _, _, _, _, _⟩) rfl (fun K hK => ?_) AllReadyH.nil
      refine step_append_any (by rfl) _ _ _ (by rfl) w.heap.size 9 _ _ 1 16 Tryz.underlying22 HIT.out.1 HIT.out.2.1 HIT.out.2.2.1 HIT.out.2.2.2 rfl (by omega) (.slice A5 j c5) j ((ws.take j).map (fun x : Wd => Value.string x.tx)) rfl ((show (w2.drew.alloc _).ownsRow _ _ _ _ _ _ from World.ownsRow.alloc HO2.out _)) (some ⟨w2.drew.heap.size, 0, none⟩) 1 1 (w2.drew.heap.size + 1) [.string x.tx] rfl (fun e => by cases e) (Rd.more (Rd.of_blk (cs := [.string x.tx]) (n := 1) (sz := 1) (by repeat (first | (refine Blk.new' _ _ _ _ ?_; first | rfl | (simp <;> omega)) | refine Blk.al ?_ _ | refine Blk.dr ?_ | refine Blk.drN ?_ _ | refine Blk.far ?_ (by first | omega | (simp; omega)))) rfl) (by simp)) ((List.all_eq_true (p := fun (u : Value) => u.oneCell')).1 (by rfl)) (by simp only [maxLen]; omega) (by omega) (by simp; try omega) ?_; intro va wa hoa hga hta; obtain ⟨Aa, ca, rfl, _, _⟩ := own_slice hoa
      have hgg : (w2.drew.alloc (.cells #[.string x.tx] 9)).grownBy wa (Value.slice A5 j c5).ownBlock := hga
      refine hK.out _ _ ⟨cell_gr (cell_bel hbd x13) hgg hnR, cell_gr (cell_bel hbd z0) hgg hnS⟩ (fun hHeld => ?_)
      clear hK K
      try simp only [Act.put, List.setIfInBounds_toArray, List.set_cons_zero, List.set_cons_succ]
      refine wpAnyH_ready (rs := [9]) (by kernel_rfl) (by simp) ?_
      refine AllReadyH.cons rfl (fun K hK => ?_) AllReadyH.nil
      go_simp
      refine hK.out _ _ hHeld (fun hHeld => ?_)
      clear hK K
      refine wpAnyH_ready (rs := [10]) (by kernel_rfl) (by simp) ?_
      refine AllReadyH.cons rfl (fun K hK => ?_) AllReadyH.nil
      go_simp
      refine hK.out _ _ hHeld (fun hHeld => ?_)
      clear hK K
      refine wpAnyH_ready (rs := [11]) (by kernel_rfl) (by simp) ?_
      refine AllReadyH.cons rfl (fun K hK => ?_) AllReadyH.nil
      go_simp
      refine hK.out _ _ hHeld (fun hHeld => ?_)
      clear hK K
      refine wpAnyH_done (by kernel_rfl) ?_ _
      simp only [cutQ, List.drop_succ_cons, List.drop_zero]
      have HN := Lib.hid (pd_step HT2.out HX2.out HO2.out hxl hgg (show wa.ownsRow w.heap.size 9 1 (.slice Aa (j + 1) ca) (j + 1) ((ws.take (j + 1)).map (fun x : Wd => Value.string x.tx)) by rw [HR.out]; exact hoa))
      have y13 : wa.cell? ⟨Rb, 13, none⟩ = some (.slice A5 j c5) := hHeld.1
      have fy13 := HN.out.1.frozen 13
      have yl := HN.out.1.lt
      clear hHeld hoa hga hta hbd hgg x13 xl z0 zl hnR hnS
      go_wp2_with fail
      go_roundg (7 - j - 1)
      case measure => have := Hj.out; omega
      case rel => exact ⟨j + 1, _, by first | rfl | go_num, by have := Hj.out; omega, HN.out.2⟩
    · obtain rfl : j = 7 := by have := Hj.out; omega
      obtain ⟨g5, c5', hv5, hc5, hg5, _⟩ := own_cs HO.out (by omega)
      obtain ⟨rfl, rfl⟩ : A5 = some ⟨g5, 0, none⟩ ∧ c5 = c5' := by simp at hv5; exact hv5
      rw [List.take_of_length_le (by omega), HTX.out] at hc5
      have HC5 := Lib.hid hc5
      clear hv5 hc5 HO HG HTX
      have hv := HV6.out
      subst hv
      have x13 := HX.out.cell 13
      have xl := HX.out.lt
      simp at x13
      have q0 : wr.cell? ⟨g5, 0, none⟩ = some (.string kwPro) := HC5.out.c 0 _ rfl
      have ql := HC5.out.lt
      have HL := Lib.hid (show LayM wr L from ⟨HLM.out.st.tw HT.out hlR.1, HLM.out.se.tw HT.out hlR.2.1, HLM.out.li.tw HT.out hlR.2.2⟩)
      go_wp2_with fail
      refine (droute_ok Rb g5 c5 L p v5 v7 vd b _ HX.out HC5.out HL.out).mono ?_
      rintro e w3 ⟨⟨v3, rfl⟩, ht3, gr, cr, sp, cs, hgr, hsp, hcs3, hcr, hcs, hx3⟩
      have HT3 := Lib.hid (HT.out.tr ht3)
      have HX3 := Lib.hid hx3
      have HC3 := Lib.hid (And.intro hcr hcs)
      have hz := HT.out.size
      have hgr2 : w.heap.size ≤ gr := by omega
      have hsp2 : w.heap.size ≤ sp := by omega
      have y14 := hx3.cell 14
      have yl := hx3.lt
      simp at y14
      clear ht3 hcr hcs hx3 HT HX x13 xl q0 ql hgr hsp hz
      go_wp2_with fail
      go_ret
      exact ⟨rfl, HT3.out, gr, cr, sp, cs, _, hgr2, hsp2, hcs3, HC3.out.1, HC3.out.2, HX3.out⟩
end Go.Proofs.YtinjdcefagaaeaaGreatDoor
