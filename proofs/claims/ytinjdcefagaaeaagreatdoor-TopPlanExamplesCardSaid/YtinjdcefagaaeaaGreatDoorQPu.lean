import Derived.Test.YtinjdcefagaaeaaGreatDoorQPq
set_option linter.unusedVariables false
set_option linter.unusedSimpArgs false
namespace Go.Proofs.YtinjdcefagaaeaaGreatDoor
open Go.RowKit
/-! plan.Parse: line, demand -/
theorem infoPli : (Tryz.prog.info? 167).map (fun i => (i.zero, i.size, i.bytes)) = some (some (.agg #[.string ⟨#[]⟩, .int .i64 0, .int .i64 0, .slice none 0 0]), 4, 56) := by kernel_rfl
theorem infoPde : (Tryz.prog.info? 85).map (fun i => (i.zero, i.size, i.bytes)) = some (some (.agg #[.int .i64 0, .int .i64 0, .int .i64 0]), 3, 24) := by kernel_rfl
abbrev kwPli : ByteArray := ⟨#[108, 105, 110, 101]⟩
abbrev kwPde : ByteArray := ⟨#[100, 101, 109, 97, 110, 100]⟩
abbrev t2 : ByteArray := ⟨#[50]⟩
abbrev t3 : ByteArray := ⟨#[51]⟩
abbrev lnC (v : Value) : Array Value := #[.string ⟨#[65]⟩, .int .i64 0, .int .i64 2, v]
theorem rstnX_ok (Rb g n c i : Nat) (tx : List ByteArray) (L : LyA) (w : World) (h : RdW w Rb g n c tx) (hi : tx[i]? = some ⟨#[88]⟩) (hl : LayM w L) (h0 : w.cell? ⟨Rb, 0, none⟩ = some (.slice (some ⟨L.st, 0, none⟩) 2 L.c1)) :
    Calls Tryz.prog 83 #[.pointer (some ⟨Rb, 0, none⟩), .int .i64 i] w fun e w' => e = .returned (.int .i64 0) ∧ Below w.heap.size w w' :=
  (rstn_ok Rb g n c i tx 88 L w h hi (by decide) hl h0).mono (by rintro e w' ⟨rfl, m, rfl⟩; exact ⟨rfl, below_drewN (Below.refl _ _) _⟩)
theorem rstnY_ok (Rb g n c i : Nat) (tx : List ByteArray) (L : LyA) (w : World) (h : RdW w Rb g n c tx) (hi : tx[i]? = some ⟨#[89]⟩) (hl : LayM w L) (h0 : w.cell? ⟨Rb, 0, none⟩ = some (.slice (some ⟨L.st, 0, none⟩) 2 L.c1)) :
    Calls Tryz.prog 83 #[.pointer (some ⟨Rb, 0, none⟩), .int .i64 i] w fun e w' => e = .returned (.int .i64 1) ∧ Below w.heap.size w w' :=
  (rstn_ok Rb g n c i tx 89 L w h hi (by decide) hl h0).mono (by rintro e w' ⟨rfl, m, rfl⟩; exact ⟨rfl, below_drewN (Below.refl _ _) _⟩)
set_option maxRecDepth 100000 in
set_option maxHeartbeats 25600000 in
theorem pdlin_ok (Rb g c gs cs : Nat) (ws : List Wd) (L : LyA) (p : Int) (v6 vd vw : Value) (b : Bool) (w : World) (h : Blk w Rb 102 (rdC L p (.slice (some ⟨gs, 0, none⟩) 1 cs) v6 (.slice none 0 0) vd b vw 0)) (hsk : Cs w gs stkC.toList) (hsR : gs ≠ Rb) (hg : Cs w g (ws.flatMap Wd.cells)) (hgR : g ≠ Rb) (ht : ws.map (fun x => Value.string x.tx) = [kwPli, ⟨#[65]⟩, ⟨#[83]⟩, t2].map Value.string) (hl : ws.length = 4) :
    Calls Tryz.prog 28 #[.pointer (some ⟨Rb, 0, none⟩), .slice (some ⟨g, 0, none⟩) 4 c] w (PdOut w Rb 167 (lnC (.slice none 0 0)).toList (fun v vw' => rdC L p (.slice (some ⟨gs, 0, none⟩) 1 cs) v6 v vd b vw' 0)) := by
  obtain ⟨v7, hv7⟩ : ∃ v : Value, v = .slice none 0 0 := ⟨_, rfl⟩
  rw [← hv7] at h
  have HV7 := Lib.hid hv7
  clear hv7
  obtain ⟨v5, hv5⟩ : ∃ v : Value, v = .slice (some ⟨gs, 0, none⟩) 1 cs := ⟨_, rfl⟩
  rw [← hv5] at h
  have HV5 := Lib.hid hv5
  clear hv5
  have HSK := Lib.hid hsk
  clear hsk
  obtain ⟨iS, b1, b2, b3, b4⟩ := info_parts infoPli
  have HIS := Lib.hid (And.intro b1 (And.intro b2 (And.intro b3 b4)))
  clear b1 b2 b3 b4
  have H := Lib.hid h
  have HG := Lib.hid hg
  have HTX := Lib.hid ht
  have hxl := h.lt
  have hgl := hg.lt
  clear h hg ht
  obtain ⟨iT, b1, b2, b3, b4⟩ := info_parts infoStr
  have HIT := Lib.hid (And.intro b1 (And.intro b2 (And.intro b3 b4)))
  clear b1 b2 b3 b4
  have x13 := H.out.cell 13
  have x14 := H.out.cell 14
  have f13 := H.out.frozen 13
  have f14 := H.out.frozen 14
  simp at x13 x14
  go_enter Tryz.func28, Tryz.ntmps28
  go_upto_region 2 with fail
  refine world_gen (fun w1 => Tw Rb w w1 ∧ Blk w1 Rb 102 (rdC L p v5 v6 v7 vd b (.slice none 0 0) 0)) ⟨(Tw.set Rb 13 w _).tr (Tw.set Rb 14 _ _), (H.out.set_ 13 _).set_ 14 _⟩ ?_
  rintro w1 ⟨ht1, hx1⟩
  have HT1 := Lib.hid ht1
  have HX1 := Lib.hid hx1
  clear ht1 hx1 x13 x14 f13 f14
  go_wp2_with fail
  go_loopg [20] 4 (fun k v wr => PdL w Rb L p v5 v6 v7 vd b ws k v wr)
  case atStart => exact ⟨0, .slice none 0 0, rfl, by omega, HT1.out, HX1.out, World.ownsRow_nil _ _ _ _⟩
  case round =>
    obtain ⟨j, v13, rfl, hj, ht, hx, ho⟩ := hrel
    have HT := Lib.hid ht
    have HX := Lib.hid hx
    have HO := Lib.hid ho
    have Hj := Lib.hid hj
    clear ht hx ho hj HT1 HX1
    obtain ⟨A5, c5, rfl, _, _⟩ := own_slice HO.out
    by_cases hlt : j < ws.length
    · have hji : (j : Int) < 4 := by omega
      obtain ⟨d0, d1, d2⟩ := wd_at (HG.out.tw HT.out hgR) j hlt
      have dl := (HG.out.tw HT.out hgR).lt
      have HR := Lib.hid (ws_take ws j hlt)
      generalize hx : ws[j] = x at d0 d1 d2 HR
      clear hx
      go_upto_region 5 with fail
      refine world_gen (fun w2 => Tw Rb w w2 ∧ Blk w2 Rb 102 (rdC L p v5 v6 v7 vd b (.slice A5 j c5) 0) ∧ w2.ownsRow w.heap.size 9 1 (.slice A5 j c5) j ((ws.take j).map (fun x : Wd => Value.string x.tx)) ∧ Blk w2 wr.heap.size 98 #[.string x.tx, .int .i64 x.ln, .int .i64 x.cl] ∧ w.heap.size ≤ wr.heap.size) ⟨HT.out.tr (Tw.of ((Below.refl _ _).alloc (Nat.le_refl _) _)), HX.out.al _, HO.out.alloc _, (by repeat (first | (refine Blk.new' _ _ _ _ ?_; first | rfl | (simp <;> omega)) | refine Blk.al ?_ _ | refine Blk.dr ?_ | refine Blk.drN ?_ _ | refine Blk.far ?_ (by first | omega | (simp; omega)))), HT.out.size⟩ ?_
      rintro w2 ⟨ht2, hx2, ho2, hz2, hZw⟩
      have HT2 := Lib.hid ht2
      have HX2 := Lib.hid hx2
      have HO2 := Lib.hid ho2
      have z0 := hz2.cell 0
      have zl := hz2.lt
      have x13 := hx2.cell 13
      have xl := hx2.lt
      have hbz := ht2.size
      simp at z0 x13
      have hnS : (Value.slice A5 j c5).ownBlock ≠ some wr.heap.size := fun e => by have h1 := (own_block HO.out _ e).2; omega
      have hnR : (Value.slice A5 j c5).ownBlock ≠ some Rb := fun e => by have h1 := (own_block HO.out _ e).1; omega
      clear ht2 hx2 ho2 hz2 HT HX HO d0 d1 d2 dl
      generalize wr.heap.size = Z at *
      have hbd : Below w2.heap.size w2 (w2.drew.alloc (.cells #[.string x.tx] 9)) := (Below.refl _ w2).drew.alloc (Nat.le_refl _) _
      refine wp_region_cut 9 (by kernel_rfl) (by kernel_rfl) ?_
      simp only [dulled, dull, List.take_succ_cons, List.take_zero, List.drop_succ_cons, List.drop_zero, List.map_cons, List.map_nil, List.cons_append, List.nil_append]
      refine wpAny_of_held (S := fun W => W.cell? ⟨Rb, 13, none⟩ = some (.slice A5 j c5) ∧ W.cell? ⟨Z, 0, none⟩ = some (.string x.tx)) _ _ _ _ ?_
      change wpAnyH _ _ _ _ _ 12 _ _ (World.drew w2)
      have hHeld : (fun W => W.cell? ⟨Rb, 13, none⟩ = some (.slice A5 j c5) ∧ W.cell? ⟨Z, 0, none⟩ = some (.string x.tx)) (World.drew w2) := ⟨x13, z0⟩
      refine wpAnyH_take (i := 0) (oi := ⟨some _, _, _, _, _, _⟩) (v := ?_) rfl (by kernel_rfl) (by kernel_rfl) (by kernel_rfl) (fun _ _ _ h => h) (Or.inl ⟨by rfl, ?_⟩) (by assumption) ?_
      rotate_left
      · (intro w hSw; (try dsimp only at hSw); go_simp; try with_reducible rfl)
      simp only [Act.put, List.setIfInBounds_toArray, List.set_cons_zero, List.set_cons_succ]
      refine wpAnyH_take (i := 1) (oi := ⟨some _, _, _, _, _, _⟩) (v := ?_) rfl (by kernel_rfl) (by kernel_rfl) (by kernel_rfl) (fun _ _ _ h => h) (Or.inl ⟨by rfl, ?_⟩) (by assumption) ?_
      rotate_left
      · (intro w hSw; (try dsimp only at hSw); go_simp; try with_reducible rfl)
      simp only [Act.put, List.setIfInBounds_toArray, List.set_cons_zero, List.set_cons_succ]
      refine wpAnyH_take (i := 2) (oi := ⟨some _, _, _, _, _, _⟩) (v := ?_) rfl (by kernel_rfl) (by kernel_rfl) (by kernel_rfl) (fun _ _ _ h => h) (Or.inl ⟨by rfl, ?_⟩) (by assumption) ?_
      rotate_left
      · (intro w hSw; (try dsimp only at hSw); go_simp; try with_reducible rfl)
      simp only [Act.put, List.setIfInBounds_toArray, List.set_cons_zero, List.set_cons_succ]
      refine wpAnyH_take (i := 3) (oi := ⟨some _, _, _, _, _, _⟩) (v := ?_) rfl (by kernel_rfl) (by kernel_rfl) (by kernel_rfl) (fun _ _ _ h => h) (Or.inl ⟨by rfl, ?_⟩) (by assumption) ?_
      rotate_left
      · (intro w hSw; (try dsimp only at hSw); go_simp; try with_reducible rfl)
      simp only [Act.put, List.setIfInBounds_toArray, List.set_cons_zero, List.set_cons_succ]
      refine wpAnyH_take (i := 4) (oi := ⟨some _, _, _, _, _, _⟩) (v := ?_) rfl (by kernel_rfl) (by kernel_rfl) (by kernel_rfl) (fun _ _ _ h => h) (Or.inl ⟨by rfl, ?_⟩) (by assumption) ?_
      rotate_left
      · (intro w hSw; (try dsimp only at hSw); go_simp; try with_reducible rfl)
      simp only [Act.put, List.setIfInBounds_toArray, List.set_cons_zero, List.set_cons_succ]
      refine wpAnyH_take (i := 5) (oi := ⟨some _, _, _, _, _, _⟩) (v := ?_) rfl (by kernel_rfl) (by kernel_rfl) (by kernel_rfl) (fun _ _ _ h => h) (Or.inl ⟨by rfl, ?_⟩) (by assumption) ?_
      rotate_left
      · (intro w hSw; (try dsimp only at hSw); go_simp; try with_reducible rfl)
      simp only [Act.put, List.setIfInBounds_toArray, List.set_cons_zero, List.set_cons_succ]
      refine wpAnyH_take (i := 6) (oi := ⟨some _, _, _, _, _, _⟩) (v := ?_) rfl (by kernel_rfl) (by kernel_rfl) (by kernel_rfl) (fun _ _ _ h => h) (Or.inl ⟨by rfl, ?_⟩) (by assumption) ?_
      rotate_left
      · (intro w hSw; (try dsimp only at hSw); go_simp; try with_reducible rfl)
      simp only [Act.put, List.setIfInBounds_toArray, List.set_cons_zero, List.set_cons_succ]
      refine wpAnyH_ready (rs := [7]) (by kernel_rfl) (by simp) ?_
      refine AllReadyH.cons rfl (fun K hK => ?_) AllReadyH.nil
      go_simp
      refine hK.out _ _ ⟨cell_bel hbd x13, cell_bel hbd z0⟩ (fun hHeld => ?_)
      clear hK K
      try simp only [Act.put, List.setIfInBounds_toArray, List.set_cons_zero, List.set_cons_succ]
      refine wpAnyH_ready (rs := [8]) (by kernel_rfl) (by simp) ?_
      refine AllReadyH.cons (o := ⟨some _, _, _, _, _, _⟩) rfl (fun K hK => ?_) AllReadyH.nil
      refine step_append_any (by rfl) _ _ _ (by rfl) w.heap.size 9 _ _ 1 16 Tryz.underlying22 HIT.out.1 HIT.out.2.1 HIT.out.2.2.1 HIT.out.2.2.2 rfl (by omega) (.slice A5 j c5) j ((ws.take j).map (fun x : Wd => Value.string x.tx)) rfl ((show (w2.drew.alloc _).ownsRow _ _ _ _ _ _ from World.ownsRow.alloc HO2.out _)) (some ⟨w2.drew.heap.size, 0, none⟩) 1 1 (w2.drew.heap.size + 1) [.string x.tx] rfl (fun e => by cases e) (Rd.more (Rd.of_blk (cs := [.string x.tx]) (n := 1) (sz := 1) (by repeat (first | (refine Blk.new' _ _ _ _ ?_; first | rfl | (simp <;> omega)) | refine Blk.al ?_ _ | refine Blk.dr ?_ | refine Blk.drN ?_ _ | refine Blk.far ?_ (by first | omega | (simp; omega)))) rfl) (by simp)) ((List.all_eq_true (p := fun (u : Value) => u.oneCell')).1 (by rfl)) (by simp only [maxLen]; omega) (by omega) (by simp; try omega) ?_; intro va wa hoa hga hta; obtain ⟨Aa, ca, rfl, _, _⟩ := own_slice hoa
      have hgg : (w2.drew.alloc (.cells #[.string x.tx] 9)).grownBy wa (Value.slice A5 j c5).ownBlock := hga
      refine hK.out _ _ ⟨cell_gr (cell_bel hbd x13) hgg hnR, cell_gr (cell_bel hbd z0) hgg hnS⟩ (fun hHeld => ?_)
      clear hK K
      try simp only [Act.put, List.setIfInBounds_toArray, List.set_cons_zero, List.set_cons_succ]
      refine wpAnyH_ready (rs := [9]) (by kernel_rfl) (by simp) ?_
      refine AllReadyH.cons rfl (fun K hK => ?_) AllReadyH.nil
      go_simp
      refine hK.out _ _ hHeld (fun hHeld => ?_)
      clear hK K
      refine wpAnyH_ready (rs := [10]) (by kernel_rfl) (by simp) ?_
      refine AllReadyH.cons rfl (fun K hK => ?_) AllReadyH.nil
      go_simp
      refine hK.out _ _ hHeld (fun hHeld => ?_)
      clear hK K
      refine wpAnyH_ready (rs := [11]) (by kernel_rfl) (by simp) ?_
      refine AllReadyH.cons rfl (fun K hK => ?_) AllReadyH.nil
      go_simp
      refine hK.out _ _ hHeld (fun hHeld => ?_)
      clear hK K
      refine wpAnyH_done (by kernel_rfl) ?_ _
      simp only [cutQ, List.drop_succ_cons, List.drop_zero]
      have HN := Lib.hid (pd_step HT2.out HX2.out HO2.out hxl hgg (show wa.ownsRow w.heap.size 9 1 (.slice Aa (j + 1) ca) (j + 1) ((ws.take (j + 1)).map (fun x : Wd => Value.string x.tx)) by rw [HR.out]; exact hoa))
      have y13 : wa.cell? ⟨Rb, 13, none⟩ = some (.slice A5 j c5) := hHeld.1
      have fy13 := HN.out.1.frozen 13
      have yl := HN.out.1.lt
      clear hHeld hoa hga hta hbd hgg x13 xl z0 zl hnR hnS
      go_wp2_with fail
      go_roundg (4 - j - 1)
      case measure => have := Hj.out; omega
      case rel => exact ⟨j + 1, _, by first | rfl | go_num, by have := Hj.out; omega, HN.out.2⟩
    · obtain rfl : j = 4 := by have := Hj.out; omega
      obtain ⟨g5, c5', hv5, hc5, hg5, _⟩ := own_cs HO.out (by omega)
      obtain ⟨rfl, rfl⟩ : A5 = some ⟨g5, 0, none⟩ ∧ c5 = c5' := by simp at hv5; exact hv5
      rw [List.take_of_length_le (by omega), HTX.out] at hc5
      have HC5 := Lib.hid hc5
      clear hv5 hc5 HO HG HTX
      have hv := HV7.out
      subst hv
      have hv := HV5.out
      subst hv
      have x7 := HX.out.cell 7
      have x13 := HX.out.cell 13
      have x5 := HX.out.cell 5
      have xl := HX.out.lt
      simp at x7 x13 x5
      have HX5 := Lib.hid x5
      clear x5
      have q0 : wr.cell? ⟨g5, 0, none⟩ = some (.string kwPli) := HC5.out.c 0 _ rfl
      have ql := HC5.out.lt
      have HRW := Lib.hid (show RdW wr Rb g5 4 c5 [kwPli, ⟨#[65]⟩, ⟨#[83]⟩, t2] from ⟨x13, HC5.out, rfl⟩)
      have HK := Lib.hid (HSK.out.tw HT.out hsR)
      go_wp2_with fail
      refine (need_ok Rb _).mono ?_
      rintro e wn ⟨⟨vn, rfl⟩, hwn⟩
      rw [hwn]
      clear hwn wn
      go_upto_region 19 with fail
      clear q0 ql
      refine wp_region_cut 15 (by kernel_rfl) (by kernel_rfl) ?_
      simp only [dulled, dull, List.take_succ_cons, List.take_zero, List.drop_succ_cons, List.drop_zero, List.map_cons, List.map_nil, List.cons_append, List.nil_append]
      refine wpAny_of_held (S := fun W => Below wr.heap.size wr W ∧ W.cell? ⟨Rb, 7, none⟩ = some (.slice none 0 0)) _ _ _ _ ?_
      change wpAnyH _ _ _ _ _ 19 _ _ (World.drew wr)
      have hHeld : (fun W => Below wr.heap.size wr W ∧ W.cell? ⟨Rb, 7, none⟩ = some (.slice none 0 0)) (World.drew wr) := ⟨(Below.refl _ _).drew, x7⟩
      refine wpAnyH_take (i := 0) (oi := ⟨some _, _, _, _, _, _⟩) (v := ?_) rfl (by kernel_rfl) (by kernel_rfl) (by kernel_rfl) (fun _ _ _ h => h) (Or.inl ⟨by rfl, ?_⟩) (by assumption) ?_
      rotate_left
      · (intro w hSw; (try dsimp only at hSw); go_simp; try with_reducible rfl)
      simp only [Act.put, List.setIfInBounds_toArray, List.set_cons_zero, List.set_cons_succ]
      refine wpAnyH_take (i := 1) (oi := ⟨some _, _, _, _, _, _⟩) (v := ?_) rfl (by kernel_rfl) (by kernel_rfl) (by kernel_rfl) (fun _ _ _ h => h) (Or.inl ⟨by rfl, ?_⟩) (by assumption) ?_
      rotate_left
      · (intro w hSw; (try dsimp only at hSw); go_simp; try with_reducible rfl)
      simp only [Act.put, List.setIfInBounds_toArray, List.set_cons_zero, List.set_cons_succ]
      refine wpAnyH_take (i := 2) (oi := ⟨some _, _, _, _, _, _⟩) (v := ?_) rfl (by kernel_rfl) (by kernel_rfl) (by kernel_rfl) (fun _ _ _ h => h) (Or.inl ⟨by rfl, ?_⟩) (by assumption) ?_
      rotate_left
      · (intro w hSw; (try dsimp only at hSw); go_simp; try with_reducible rfl)
      simp only [Act.put, List.setIfInBounds_toArray, List.set_cons_zero, List.set_cons_succ]
      refine wpAnyH_take (i := 3) (oi := ⟨some _, _, _, _, _, _⟩) (v := ?_) rfl (by kernel_rfl) (by kernel_rfl) (by kernel_rfl) (fun _ _ _ h => h) (Or.inl ⟨by rfl, ?_⟩) (by assumption) ?_
      rotate_left
      · (intro w hSw; (try dsimp only at hSw); go_simp; try with_reducible rfl)
      simp only [Act.put, List.setIfInBounds_toArray, List.set_cons_zero, List.set_cons_succ]
      refine wpAnyH_take (i := 4) (oi := ⟨some _, _, _, _, _, _⟩) (v := ?_) rfl (by kernel_rfl) (by kernel_rfl) (by kernel_rfl) (fun _ _ _ h => h) (Or.inl ⟨by rfl, ?_⟩) (by assumption) ?_
      rotate_left
      · (intro w hSw; (try dsimp only at hSw); go_simp; try with_reducible rfl)
      simp only [Act.put, List.setIfInBounds_toArray, List.set_cons_zero, List.set_cons_succ]
      refine wpAnyH_take (i := 5) (oi := ⟨some _, _, _, _, _, _⟩) (v := ?_) rfl (by kernel_rfl) (by kernel_rfl) (by kernel_rfl) (fun _ _ _ h => h) (Or.inl ⟨by rfl, ?_⟩) (by assumption) ?_
      rotate_left
      · (intro w hSw; (try dsimp only at hSw); go_simp; try with_reducible rfl)
      simp only [Act.put, List.setIfInBounds_toArray, List.set_cons_zero, List.set_cons_succ]
      refine wpAnyH_take (i := 6) (oi := ⟨some _, _, _, _, _, _⟩) (v := ?_) rfl (by kernel_rfl) (by kernel_rfl) (by kernel_rfl) (fun _ _ _ h => h) (Or.inl ⟨by rfl, ?_⟩) (by assumption) ?_
      rotate_left
      · (intro w hSw; (try dsimp only at hSw); go_simp; try with_reducible rfl)
      simp only [Act.put, List.setIfInBounds_toArray, List.set_cons_zero, List.set_cons_succ]
      refine wpAnyH_take (i := 8) (oi := ⟨some _, _, _, _, _, _⟩) (v := ?_) rfl (by kernel_rfl) (by kernel_rfl) (by kernel_rfl) (fun _ _ _ h => h) (Or.inl ⟨by rfl, ?_⟩) (by assumption) ?_
      rotate_left
      · (intro w hSw; (try dsimp only at hSw); go_simp; try with_reducible rfl)
      simp only [Act.put, List.setIfInBounds_toArray, List.set_cons_zero, List.set_cons_succ]
      refine wpAnyH_take (i := 10) (oi := ⟨some _, _, _, _, _, _⟩) (v := ?_) rfl (by kernel_rfl) (by kernel_rfl) (by kernel_rfl) (fun _ _ _ h => h) (Or.inl ⟨by rfl, ?_⟩) (by assumption) ?_
      rotate_left
      · (intro w hSw; (try dsimp only at hSw); go_simp; try with_reducible rfl)
      simp only [Act.put, List.setIfInBounds_toArray, List.set_cons_zero, List.set_cons_succ]
      refine wpAnyH_ready (rs := [7]) (by kernel_rfl) (by simp) ?_
      refine AllReadyH.cons rfl (fun K hK => ?_) AllReadyH.nil
      go_simp
      go_at_call 76
      refine (word_ok Rb g5 4 c5 1 _ ⟨#[65]⟩ _ (HRW.out.go hHeld.1) rfl).mono ?_
      rintro e wc ⟨rfl, hwc⟩
      subst hwc
      refine hK.out _ _ hHeld (fun hHeld => ?_)
      clear hK K
      try simp only [Act.put, List.setIfInBounds_toArray, List.set_cons_zero, List.set_cons_succ]
      refine wpAnyH_ready (rs := [9]) (by kernel_rfl) (by simp) ?_
      refine AllReadyH.cons rfl (fun K hK => ?_) AllReadyH.nil
      go_simp
      go_at_call 79
      refine (rstk_ok Rb g5 4 c5 2 gs cs _ _ (HRW.out.go hHeld.1) rfl (HK.out.go hHeld.1) (cell_bel hHeld.1 HX5.out)).mono ?_
      rintro e wq ⟨rfl, hbc⟩
      refine hK.out _ _ ⟨hHeld.1.trans (hbc.mono hHeld.1.size), cell_bel hbc hHeld.2⟩ (fun hHeld => ?_)
      clear hK K hbc
      try simp only [Act.put, List.setIfInBounds_toArray, List.set_cons_zero, List.set_cons_succ]
      refine wpAnyH_ready (rs := [11]) (by kernel_rfl) (by simp) ?_
      refine AllReadyH.cons rfl (fun K hK => ?_) AllReadyH.nil
      go_simp
      go_at_call 77
      refine (rnum_ok Rb g5 4 c5 3 _ t2 2 _ (HRW.out.go hHeld.1) rfl (by decide) (by decide)).mono ?_
      rintro e wc ⟨rfl, hwc⟩
      subst hwc
      refine hK.out _ _ hHeld (fun hHeld => ?_)
      clear hK K
      try simp only [Act.put, List.setIfInBounds_toArray, List.set_cons_zero, List.set_cons_succ]
      refine wpAnyH_take (i := 12) (oi := ⟨some _, _, _, _, _, _⟩) (v := ?_) rfl (by kernel_rfl) (by kernel_rfl) (by kernel_rfl) (fun _ _ _ h => h) (Or.inl ⟨by rfl, ?_⟩) (by assumption) ?_
      rotate_left
      · (intro w hSw; (try dsimp only at hSw); go_simp; try with_reducible rfl)
      simp only [Act.put, List.setIfInBounds_toArray, List.set_cons_zero, List.set_cons_succ]
      refine wpAnyH_ready (rs := [13]) (by kernel_rfl) (by simp) ?_
      refine AllReadyH.cons rfl (fun K hK => ?_) AllReadyH.nil
      go_simp
      refine hK.out _ _ ⟨hHeld.1.alloc hHeld.1.size _, cell_bel ((Below.refl _ _).alloc (Nat.le_refl _) _) hHeld.2⟩ (fun hHeld => ?_)
      clear hK K
      try simp only [Act.put, List.setIfInBounds_toArray, List.set_cons_zero, List.set_cons_succ]
      refine wpAnyH_ready (rs := [14]) (by kernel_rfl) (by simp) ?_
      refine AllReadyH.cons (o := ⟨some _, _, _, _, _, _⟩) rfl (fun K hK => ?_) AllReadyH.nil
      have hsz := hHeld.1.size
      simp at hsz
      refine step_append_any (by rfl) _ _ _ (by rfl) wr.heap.size 167 _ _ 4 56 Tryz.underlying29 HIS.out.1 HIS.out.2.1 HIS.out.2.2.1 HIS.out.2.2.2 rfl (by omega) (.slice none 0 0) 0 ([]) rfl (World.ownsRow_nil _ _ _ _) (some ⟨wc.heap.size, 0, none⟩) 1 1 (wc.heap.size + 1) (lnC (.slice none 0 0)).toList rfl (fun e => by cases e) (Rd.more (Rd.of_blk (cs := (lnC (.slice none 0 0)).toList) (n := 1) (sz := 4) (by repeat (first | (refine Blk.new' _ _ _ _ ?_; first | rfl | (simp <;> omega)) | refine Blk.al ?_ _ | refine Blk.dr ?_ | refine Blk.drN ?_ _ | refine Blk.far ?_ (by first | omega | (simp; omega)))) rfl) (by simp)) ((List.all_eq_true (p := fun (u : Value) => u.oneCell')).1 (by rfl)) (by simp only [maxLen]; omega) (by omega) (by simp; try omega) ?_; intro va wa hoa hga hta; obtain ⟨ga, ca, rfl, hca, hgA, _⟩ := own_cs hoa (by omega)
      refine hK.out _ _ ⟨hHeld.1.trans ((bel_grow hga).mono hHeld.1.size), cell_bel (bel_grow hga) hHeld.2⟩ (fun hHeld => ?_)
      clear hK K
      try simp only [Act.put, List.setIfInBounds_toArray, List.set_cons_zero, List.set_cons_succ]
      refine wpAnyH_ready (rs := [15]) (by kernel_rfl) (by simp) ?_
      refine AllReadyH.cons rfl (fun K hK => ?_) AllReadyH.nil
      go_simp
      refine hK.out _ _ hHeld (fun hHeld => ?_)
      clear hK K
      refine wpAnyH_ready (rs := [16]) (by kernel_rfl) (by simp) ?_
      refine AllReadyH.cons rfl (fun K hK => ?_) AllReadyH.nil
      go_simp
      refine hK.out _ _ hHeld (fun hHeld => ?_)
      clear hK K
      refine wpAnyH_ready (rs := [17]) (by kernel_rfl) (by simp) ?_
      refine AllReadyH.cons rfl (fun K hK => ?_) AllReadyH.nil
      go_simp
      refine hK.out _ _ hHeld (fun hHeld => ?_)
      clear hK K
      refine wpAnyH_ready (rs := [18]) (by kernel_rfl) (by simp) ?_
      refine AllReadyH.cons rfl (fun K hK => ?_) AllReadyH.nil
      go_simp
      refine hK.out _ _ hHeld (fun hHeld => ?_)
      clear hK K
      refine wpAnyH_done (by kernel_rfl) ?_ _
      simp only [cutQ, List.drop_succ_cons, List.drop_zero]
      have hba := hHeld.1
      have HXA := Lib.hid (HX.out.same (hba.block _ HX.out.lt))
      have HTA := Lib.hid (HT.out.tr (Tw.of hba))
      have hgaR : ga ≠ Rb := by have := HX.out.lt; omega
      have HCA := Lib.hid ((CB.own hoa).tw (Tw.set Rb (7) wa (.slice (some ⟨ga, 0, none⟩) 1 ca)) hgaR)
      have hgw : w.heap.size ≤ ga := by have := HT.out.size; omega
      have y7 := HXA.out.cell 7
      have fy7 := HXA.out.frozen 7
      have y14 := HXA.out.cell 14
      have yl := HXA.out.lt
      simp at y7 y14
      clear hHeld hoa hga hta hca hba HX HT x7 x13 xl
      go_wp2_with fail
      go_ret
      exact ⟨rfl, HTA.out.tr (Tw.set Rb (7) _ _), ga, ca, _, hgw, HCA.out, HXA.out.set_ (7) _⟩
set_option maxRecDepth 100000 in
set_option maxHeartbeats 25600000 in
theorem pddem_ok (Rb g c : Nat) (ws : List Wd) (L : LyA) (p : Int) (v5 v6 v7 vw : Value) (b : Bool) (w : World) (h : Blk w Rb 102 (rdC L p v5 v6 v7 (.slice none 0 0) b vw 0)) (hlm : LayM w L) (hlR : L.st ≠ Rb ∧ L.se ≠ Rb ∧ L.li ≠ Rb) (hg : Cs w g (ws.flatMap Wd.cells)) (hgR : g ≠ Rb) (ht : ws.map (fun x => Value.string x.tx) = [kwPde, ⟨#[88]⟩, ⟨#[89]⟩, t3].map Value.string) (hl : ws.length = 4) :
    Calls Tryz.prog 28 #[.pointer (some ⟨Rb, 0, none⟩), .slice (some ⟨g, 0, none⟩) 4 c] w (PdOut w Rb 85 [.int .i64 0, .int .i64 1, .int .i64 3] (fun v vw' => rdC L p v5 v6 v7 v b vw' 0)) := by
  obtain ⟨vd, hvd⟩ : ∃ v : Value, v = .slice none 0 0 := ⟨_, rfl⟩
  rw [← hvd] at h
  have HVD := Lib.hid hvd
  clear hvd
  have HLM := Lib.hid hlm
  clear hlm
  obtain ⟨iS, b1, b2, b3, b4⟩ := info_parts infoPde
  have HIS := Lib.hid (And.intro b1 (And.intro b2 (And.intro b3 b4)))
  clear b1 b2 b3 b4
  have H := Lib.hid h
  have HG := Lib.hid hg
  have HTX := Lib.hid ht
  have hxl := h.lt
  have hgl := hg.lt
  clear h hg ht
  obtain ⟨iT, b1, b2, b3, b4⟩ := info_parts infoStr
  have HIT := Lib.hid (And.intro b1 (And.intro b2 (And.intro b3 b4)))
  clear b1 b2 b3 b4
  have x13 := H.out.cell 13
  have x14 := H.out.cell 14
  have f13 := H.out.frozen 13
  have f14 := H.out.frozen 14
  simp at x13 x14
  go_enter Tryz.func28, Tryz.ntmps28
  go_upto_region 2 with fail
  refine world_gen (fun w1 => Tw Rb w w1 ∧ Blk w1 Rb 102 (rdC L p v5 v6 v7 vd b (.slice none 0 0) 0)) ⟨(Tw.set Rb 13 w _).tr (Tw.set Rb 14 _ _), (H.out.set_ 13 _).set_ 14 _⟩ ?_
  rintro w1 ⟨ht1, hx1⟩
  have HT1 := Lib.hid ht1
  have HX1 := Lib.hid hx1
  clear ht1 hx1 x13 x14 f13 f14
  go_wp2_with fail
  go_loopg [20] 4 (fun k v wr => PdL w Rb L p v5 v6 v7 vd b ws k v wr)
  case atStart => exact ⟨0, .slice none 0 0, rfl, by omega, HT1.out, HX1.out, World.ownsRow_nil _ _ _ _⟩
  case round =>
    obtain ⟨j, v13, rfl, hj, ht, hx, ho⟩ := hrel
    have HT := Lib.hid ht
    have HX := Lib.hid hx
    have HO := Lib.hid ho
    have Hj := Lib.hid hj
    clear ht hx ho hj HT1 HX1
    obtain ⟨A5, c5, rfl, _, _⟩ := own_slice HO.out
    by_cases hlt : j < ws.length
    · have hji : (j : Int) < 4 := by omega
      obtain ⟨d0, d1, d2⟩ := wd_at (HG.out.tw HT.out hgR) j hlt
      have dl := (HG.out.tw HT.out hgR).lt
      have HR := Lib.hid (ws_take ws j hlt)
      generalize hx : ws[j] = x at d0 d1 d2 HR
      clear hx
      go_upto_region 5 with fail
      refine world_gen (fun w2 => Tw Rb w w2 ∧ Blk w2 Rb 102 (rdC L p v5 v6 v7 vd b (.slice A5 j c5) 0) ∧ w2.ownsRow w.heap.size 9 1 (.slice A5 j c5) j ((ws.take j).map (fun x : Wd => Value.string x.tx)) ∧ Blk w2 wr.heap.size 98 #[.string x.tx, .int .i64 x.ln, .int .i64 x.cl] ∧ w.heap.size ≤ wr.heap.size) ⟨HT.out.tr (Tw.of ((Below.refl _ _).alloc (Nat.le_refl _) _)), HX.out.al _, HO.out.alloc _, (by repeat (first | (refine Blk.new' _ _ _ _ ?_; first | rfl | (simp <;> omega)) | refine Blk.al ?_ _ | refine Blk.dr ?_ | refine Blk.drN ?_ _ | refine Blk.far ?_ (by first | omega | (simp; omega)))), HT.out.size⟩ ?_
      rintro w2 ⟨ht2, hx2, ho2, hz2, hZw⟩
      have HT2 := Lib.hid ht2
      have HX2 := Lib.hid hx2
      have HO2 := Lib.hid ho2
      have z0 := hz2.cell 0
      have zl := hz2.lt
      have x13 := hx2.cell 13
      have xl := hx2.lt
      have hbz := ht2.size
      simp at z0 x13
      have hnS : (Value.slice A5 j c5).ownBlock ≠ some wr.heap.size := fun e => by have h1 := (own_block HO.out _ e).2; omega
      have hnR : (Value.slice A5 j c5).ownBlock ≠ some Rb := fun e => by have h1 := (own_block HO.out _ e).1; omega
      clear ht2 hx2 ho2 hz2 HT HX HO d0 d1 d2 dl
      generalize wr.heap.size = Z at *
      have hbd : Below w2.heap.size w2 (w2.drew.alloc (.cells #[.string x.tx] 9)) := (Below.refl _ w2).drew.alloc (Nat.le_refl _) _
      refine wp_region_cut 9 (by kernel_rfl) (by kernel_rfl) ?_
      simp only [dulled, dull, List.take_succ_cons, List.take_zero, List.drop_succ_cons, List.drop_zero, List.map_cons, List.map_nil, List.cons_append, List.nil_append]
      refine wpAny_of_held (S := fun W => W.cell? ⟨Rb, 13, none⟩ = some (.slice A5 j c5) ∧ W.cell? ⟨Z, 0, none⟩ = some (.string x.tx)) _ _ _ _ ?_
      change wpAnyH _ _ _ _ _ 12 _ _ (World.drew w2)
      have hHeld : (fun W => W.cell? ⟨Rb, 13, none⟩ = some (.slice A5 j c5) ∧ W.cell? ⟨Z, 0, none⟩ = some (.string x.tx)) (World.drew w2) := ⟨x13, z0⟩
      refine wpAnyH_take (i := 0) (oi := ⟨some _, _, _, _, _, _⟩) (v := ?_) rfl (by kernel_rfl) (by kernel_rfl) (by kernel_rfl) (fun _ _ _ h => h) (Or.inl ⟨by rfl, ?_⟩) (by assumption) ?_
      rotate_left
      · (intro w hSw; (try dsimp only at hSw); go_simp; try with_reducible rfl)
      simp only [Act.put, List.setIfInBounds_toArray, List.set_cons_zero, List.set_cons_succ]
      refine wpAnyH_take (i := 1) (oi := ⟨some _, _, _, _, _, _⟩) (v := ?_) rfl (by kernel_rfl) (by kernel_rfl) (by kernel_rfl) (fun _ _ _ h => h) (Or.inl ⟨by rfl, ?_⟩) (by assumption) ?_
      rotate_left
      · (intro w hSw; (try dsimp only at hSw); go_simp; try with_reducible rfl)
      simp only [Act.put, List.setIfInBounds_toArray, List.set_cons_zero, List.set_cons_succ]
      refine wpAnyH_take (i := 2) (oi := ⟨some _, _, _, _, _, _⟩) (v := ?_) rfl (by kernel_rfl) (by kernel_rfl) (by kernel_rfl) (fun _ _ _ h => h) (Or.inl ⟨by rfl, ?_⟩) (by assumption) ?_
      rotate_left
      · (intro w hSw; (try dsimp only at hSw); go_simp; try with_reducible rfl)
      simp only [Act.put, List.setIfInBounds_toArray, List.set_cons_zero, List.set_cons_succ]
      refine wpAnyH_take (i := 3) (oi := ⟨some _, _, _, _, _, _⟩) (v := ?_) rfl (by kernel_rfl) (by kernel_rfl) (by kernel_rfl) (fun _ _ _ h => h) (Or.inl ⟨by rfl, ?_⟩) (by assumption) ?_
      rotate_left
      · (intro w hSw; (try dsimp only at hSw); go_simp; try with_reducible rfl)
      simp only [Act.put, List.setIfInBounds_toArray, List.set_cons_zero, List.set_cons_succ]
      refine wpAnyH_take (i := 4) (oi := ⟨some _, _, _, _, _, _⟩) (v := ?_) rfl (by kernel_rfl) (by kernel_rfl) (by kernel_rfl) (fun _ _ _ h => h) (Or.inl ⟨by rfl, ?_⟩) (by assumption) ?_
      rotate_left
      · (intro w hSw; (try dsimp only at hSw); go_simp; try with_reducible rfl)
      simp only [Act.put, List.setIfInBounds_toArray, List.set_cons_zero, List.set_cons_succ]
      refine wpAnyH_take (i := 5) (oi := ⟨some _, _, _, _, _, _⟩) (v := ?_) rfl (by kernel_rfl) (by kernel_rfl) (by kernel_rfl) (fun _ _ _ h => h) (Or.inl ⟨by rfl, ?_⟩) (by assumption) ?_
      rotate_left
      · (intro w hSw; (try dsimp only at hSw); go_simp; try with_reducible rfl)
      simp only [Act.put, List.setIfInBounds_toArray, List.set_cons_zero, List.set_cons_succ]
      refine wpAnyH_take (i := 6) (oi := ⟨some _, _, _, _, _, _⟩) (v := ?_) rfl (by kernel_rfl) (by kernel_rfl) (by kernel_rfl) (fun _ _ _ h => h) (Or.inl ⟨by rfl, ?_⟩) (by assumption) ?_
      rotate_left
      · (intro w hSw; (try dsimp only at hSw); go_simp; try with_reducible rfl)
      simp only [Act.put, List.setIfInBounds_toArray, List.set_cons_zero, List.set_cons_succ]
      refine wpAnyH_ready (rs := [7]) (by kernel_rfl) (by simp) ?_
      refine AllReadyH.cons rfl (fun K hK => ?_) AllReadyH.nil
      go_simp
      refine hK.out _ _ ⟨cell_bel hbd x13, cell_bel hbd z0⟩ (fun hHeld => ?_)
      clear hK K
      try simp only [Act.put, List.setIfInBounds_toArray, List.set_cons_zero, List.set_cons_succ]
      refine wpAnyH_ready (rs := [8]) (by kernel_rfl) (by simp) ?_
      refine AllReadyH.cons (o := ⟨some _, _, _, _, _, _⟩) rfl (fun K hK => ?_) AllReadyH.nil
      refine step_append_any (by rfl) _ _ _ (by rfl) w.heap.size 9 _ _ 1 16 Tryz.underlying22 HIT.out.1 HIT.out.2.1 HIT.out.2.2.1 HIT.out.2.2.2 rfl (by omega) (.slice A5 j c5) j ((ws.take j).map (fun x : Wd => Value.string x.tx)) rfl ((show (w2.drew.alloc _).ownsRow _ _ _ _ _ _ from World.ownsRow.alloc HO2.out _)) (some ⟨w2.drew.heap.size, 0, none⟩) 1 1 (w2.drew.heap.size + 1) [.string x.tx] rfl (fun e => by cases e) (Rd.more (Rd.of_blk (cs := [.string x.tx]) (n := 1) (sz := 1) (by repeat (first | (refine Blk.new' _ _ _ _ ?_; first | rfl | (simp <;> omega)) | refine Blk.al ?_ _ | refine Blk.dr ?_ | refine Blk.drN ?_ _ | refine Blk.far ?_ (by first | omega | (simp; omega)))) rfl) (by simp)) ((List.all_eq_true (p := fun (u : Value) => u.oneCell')).1 (by rfl)) (by simp only [maxLen]; omega) (by omega) (by simp; try omega) ?_; intro va wa hoa hga hta; obtain ⟨Aa, ca, rfl, _, _⟩ := own_slice hoa
      have hgg : (w2.drew.alloc (.cells #[.string x.tx] 9)).grownBy wa (Value.slice A5 j c5).ownBlock := hga
      refine hK.out _ _ ⟨cell_gr (cell_bel hbd x13) hgg hnR, cell_gr (cell_bel hbd z0) hgg hnS⟩ (fun hHeld => ?_)
      clear hK K
      try simp only [Act.put, List.setIfInBounds_toArray, List.set_cons_zero, List.set_cons_succ]
      refine wpAnyH_ready (rs := [9]) (by kernel_rfl) (by simp) ?_
      refine AllReadyH.cons rfl (fun K hK => ?_) AllReadyH.nil
      go_simp
      refine hK.out _ _ hHeld (fun hHeld => ?_)
      clear hK K
      refine wpAnyH_ready (rs := [10]) (by kernel_rfl) (by simp) ?_
      refine AllReadyH.cons rfl (fun K hK => ?_) AllReadyH.nil
      go_simp
      refine hK.out _ _ hHeld (fun hHeld => ?_)
      clear hK K
      refine wpAnyH_ready (rs := [11]) (by kernel_rfl) (by simp) ?_
      refine AllReadyH.cons rfl (fun K hK => ?_) AllReadyH.nil
      go_simp
      refine hK.out _ _ hHeld (fun hHeld => ?_)
      clear hK K
      refine wpAnyH_done (by kernel_rfl) ?_ _
      simp only [cutQ, List.drop_succ_cons, List.drop_zero]
      have HN := Lib.hid (pd_step HT2.out HX2.out HO2.out hxl hgg (show wa.ownsRow w.heap.size 9 1 (.slice Aa (j + 1) ca) (j + 1) ((ws.take (j + 1)).map (fun x : Wd => Value.string x.tx)) by rw [HR.out]; exact hoa))
      have y13 : wa.cell? ⟨Rb, 13, none⟩ = some (.slice A5 j c5) := hHeld.1
      have fy13 := HN.out.1.frozen 13
      have yl := HN.out.1.lt
      clear hHeld hoa hga hta hbd hgg x13 xl z0 zl hnR hnS
      go_wp2_with fail
      go_roundg (4 - j - 1)
      case measure => have := Hj.out; omega
      case rel => exact ⟨j + 1, _, by first | rfl | go_num, by have := Hj.out; omega, HN.out.2⟩
    · obtain rfl : j = 4 := by have := Hj.out; omega
      obtain ⟨g5, c5', hv5, hc5, hg5, _⟩ := own_cs HO.out (by omega)
      obtain ⟨rfl, rfl⟩ : A5 = some ⟨g5, 0, none⟩ ∧ c5 = c5' := by simp at hv5; exact hv5
      rw [List.take_of_length_le (by omega), HTX.out] at hc5
      have HC5 := Lib.hid hc5
      clear hv5 hc5 HO HG HTX
      have hv := HVD.out
      subst hv
      have x11 := HX.out.cell 11
      have x13 := HX.out.cell 13
      have x0 := HX.out.cell 0
      have xl := HX.out.lt
      simp at x11 x13 x0
      have HX0 := Lib.hid x0
      clear x0
      have q0 : wr.cell? ⟨g5, 0, none⟩ = some (.string kwPde) := HC5.out.c 0 _ rfl
      have ql := HC5.out.lt
      have HRW := Lib.hid (show RdW wr Rb g5 4 c5 [kwPde, ⟨#[88]⟩, ⟨#[89]⟩, t3] from ⟨x13, HC5.out, rfl⟩)
      have HL := Lib.hid (show LayM wr L from ⟨HLM.out.st.tw HT.out hlR.1, HLM.out.se.tw HT.out hlR.2.1, HLM.out.li.tw HT.out hlR.2.2⟩)
      go_wp2_with fail
      refine (need_ok Rb _).mono ?_
      rintro e wn ⟨⟨vn, rfl⟩, hwn⟩
      rw [hwn]
      clear hwn wn
      go_upto_region 35 with fail
      clear q0 ql
      refine wp_region_cut 15 (by kernel_rfl) (by kernel_rfl) ?_
      simp only [dulled, dull, List.take_succ_cons, List.take_zero, List.drop_succ_cons, List.drop_zero, List.map_cons, List.map_nil, List.cons_append, List.nil_append]
      refine wpAny_of_held (S := fun W => Below wr.heap.size wr W ∧ W.cell? ⟨Rb, 11, none⟩ = some (.slice none 0 0)) _ _ _ _ ?_
      change wpAnyH _ _ _ _ _ 19 _ _ (World.drew wr)
      have hHeld : (fun W => Below wr.heap.size wr W ∧ W.cell? ⟨Rb, 11, none⟩ = some (.slice none 0 0)) (World.drew wr) := ⟨(Below.refl _ _).drew, x11⟩
      refine wpAnyH_take (i := 0) (oi := ⟨some _, _, _, _, _, _⟩) (v := ?_) rfl (by kernel_rfl) (by kernel_rfl) (by kernel_rfl) (fun _ _ _ h => h) (Or.inl ⟨by rfl, ?_⟩) (by assumption) ?_
      rotate_left
      · (intro w hSw; (try dsimp only at hSw); go_simp; try with_reducible rfl)
      simp only [Act.put, List.setIfInBounds_toArray, List.set_cons_zero, List.set_cons_succ]
      refine wpAnyH_take (i := 1) (oi := ⟨some _, _, _, _, _, _⟩) (v := ?_) rfl (by kernel_rfl) (by kernel_rfl) (by kernel_rfl) (fun _ _ _ h => h) (Or.inl ⟨by rfl, ?_⟩) (by assumption) ?_
      rotate_left
      · (intro w hSw; (try dsimp only at hSw); go_simp; try with_reducible rfl)
      simp only [Act.put, List.setIfInBounds_toArray, List.set_cons_zero, List.set_cons_succ]
      refine wpAnyH_take (i := 2) (oi := ⟨some _, _, _, _, _, _⟩) (v := ?_) rfl (by kernel_rfl) (by kernel_rfl) (by kernel_rfl) (fun _ _ _ h => h) (Or.inl ⟨by rfl, ?_⟩) (by assumption) ?_
      rotate_left
      · (intro w hSw; (try dsimp only at hSw); go_simp; try with_reducible rfl)
      simp only [Act.put, List.setIfInBounds_toArray, List.set_cons_zero, List.set_cons_succ]
      refine wpAnyH_take (i := 3) (oi := ⟨some _, _, _, _, _, _⟩) (v := ?_) rfl (by kernel_rfl) (by kernel_rfl) (by kernel_rfl) (fun _ _ _ h => h) (Or.inl ⟨by rfl, ?_⟩) (by assumption) ?_
      rotate_left
      · (intro w hSw; (try dsimp only at hSw); go_simp; try with_reducible rfl)
      simp only [Act.put, List.setIfInBounds_toArray, List.set_cons_zero, List.set_cons_succ]
      refine wpAnyH_take (i := 4) (oi := ⟨some _, _, _, _, _, _⟩) (v := ?_) rfl (by kernel_rfl) (by kernel_rfl) (by kernel_rfl) (fun _ _ _ h => h) (Or.inl ⟨by rfl, ?_⟩) (by assumption) ?_
      rotate_left
      · (intro w hSw; (try dsimp only at hSw); go_simp; try with_reducible rfl)
      simp only [Act.put, List.setIfInBounds_toArray, List.set_cons_zero, List.set_cons_succ]
      refine wpAnyH_take (i := 5) (oi := ⟨some _, _, _, _, _, _⟩) (v := ?_) rfl (by kernel_rfl) (by kernel_rfl) (by kernel_rfl) (fun _ _ _ h => h) (Or.inl ⟨by rfl, ?_⟩) (by assumption) ?_
      rotate_left
      · (intro w hSw; (try dsimp only at hSw); go_simp; try with_reducible rfl)
      simp only [Act.put, List.setIfInBounds_toArray, List.set_cons_zero, List.set_cons_succ]
      refine wpAnyH_take (i := 6) (oi := ⟨some _, _, _, _, _, _⟩) (v := ?_) rfl (by kernel_rfl) (by kernel_rfl) (by kernel_rfl) (fun _ _ _ h => h) (Or.inl ⟨by rfl, ?_⟩) (by assumption) ?_
      rotate_left
      · (intro w hSw; (try dsimp only at hSw); go_simp; try with_reducible rfl)
      simp only [Act.put, List.setIfInBounds_toArray, List.set_cons_zero, List.set_cons_succ]
      refine wpAnyH_take (i := 8) (oi := ⟨some _, _, _, _, _, _⟩) (v := ?_) rfl (by kernel_rfl) (by kernel_rfl) (by kernel_rfl) (fun _ _ _ h => h) (Or.inl ⟨by rfl, ?_⟩) (by assumption) ?_
      rotate_left
      · (intro w hSw; (try dsimp only at hSw); go_simp; try with_reducible rfl)
      simp only [Act.put, List.setIfInBounds_toArray, List.set_cons_zero, List.set_cons_succ]
      refine wpAnyH_take (i := 10) (oi := ⟨some _, _, _, _, _, _⟩) (v := ?_) rfl (by kernel_rfl) (by kernel_rfl) (by kernel_rfl) (fun _ _ _ h => h) (Or.inl ⟨by rfl, ?_⟩) (by assumption) ?_
      rotate_left
      · (intro w hSw; (try dsimp only at hSw); go_simp; try with_reducible rfl)
      simp only [Act.put, List.setIfInBounds_toArray, List.set_cons_zero, List.set_cons_succ]
      refine wpAnyH_ready (rs := [7]) (by kernel_rfl) (by simp) ?_
      refine AllReadyH.cons rfl (fun K hK => ?_) AllReadyH.nil
      go_simp
      go_at_call 83
      refine (rstnX_ok Rb g5 4 c5 1 _ L _ (HRW.out.go hHeld.1) rfl (HL.out.go hHeld.1) (cell_bel hHeld.1 HX0.out)).mono ?_
      rintro e wp ⟨rfl, hbc⟩
      refine hK.out _ _ ⟨hHeld.1.trans (hbc.mono hHeld.1.size), cell_bel hbc hHeld.2⟩ (fun hHeld => ?_)
      clear hK K hbc
      try simp only [Act.put, List.setIfInBounds_toArray, List.set_cons_zero, List.set_cons_succ]
      refine wpAnyH_ready (rs := [9]) (by kernel_rfl) (by simp) ?_
      refine AllReadyH.cons rfl (fun K hK => ?_) AllReadyH.nil
      go_simp
      go_at_call 83
      refine (rstnY_ok Rb g5 4 c5 2 _ L _ (HRW.out.go hHeld.1) rfl (HL.out.go hHeld.1) (cell_bel hHeld.1 HX0.out)).mono ?_
      rintro e wq ⟨rfl, hbc⟩
      refine hK.out _ _ ⟨hHeld.1.trans (hbc.mono hHeld.1.size), cell_bel hbc hHeld.2⟩ (fun hHeld => ?_)
      clear hK K hbc
      try simp only [Act.put, List.setIfInBounds_toArray, List.set_cons_zero, List.set_cons_succ]
      refine wpAnyH_ready (rs := [11]) (by kernel_rfl) (by simp) ?_
      refine AllReadyH.cons rfl (fun K hK => ?_) AllReadyH.nil
      go_simp
      go_at_call 77
      refine (rnum_ok Rb g5 4 c5 3 _ t3 3 _ (HRW.out.go hHeld.1) rfl (by decide) (by decide)).mono ?_
      rintro e wc ⟨rfl, hwc⟩
      subst hwc
      refine hK.out _ _ hHeld (fun hHeld => ?_)
      clear hK K
      try simp only [Act.put, List.setIfInBounds_toArray, List.set_cons_zero, List.set_cons_succ]
      refine wpAnyH_take (i := 12) (oi := ⟨some _, _, _, _, _, _⟩) (v := ?_) rfl (by kernel_rfl) (by kernel_rfl) (by kernel_rfl) (fun _ _ _ h => h) (Or.inl ⟨by rfl, ?_⟩) (by assumption) ?_
      rotate_left
      · (intro w hSw; (try dsimp only at hSw); go_simp; try with_reducible rfl)
      simp only [Act.put, List.setIfInBounds_toArray, List.set_cons_zero, List.set_cons_succ]
      refine wpAnyH_ready (rs := [13]) (by kernel_rfl) (by simp) ?_
      refine AllReadyH.cons rfl (fun K hK => ?_) AllReadyH.nil
      go_simp
      refine hK.out _ _ ⟨hHeld.1.alloc hHeld.1.size _, cell_bel ((Below.refl _ _).alloc (Nat.le_refl _) _) hHeld.2⟩ (fun hHeld => ?_)
      clear hK K
      try simp only [Act.put, List.setIfInBounds_toArray, List.set_cons_zero, List.set_cons_succ]
      refine wpAnyH_ready (rs := [14]) (by kernel_rfl) (by simp) ?_
      refine AllReadyH.cons (o := ⟨some _, _, _, _, _, _⟩) rfl (fun K hK => ?_) AllReadyH.nil
      have hsz := hHeld.1.size
      simp at hsz
      refine step_append_any (by rfl) _ _ _ (by rfl) wr.heap.size 85 _ _ 3 24 Tryz.underlying33 HIS.out.1 HIS.out.2.1 HIS.out.2.2.1 HIS.out.2.2.2 rfl (by omega) (.slice none 0 0) 0 ([]) rfl (World.ownsRow_nil _ _ _ _) (some ⟨wc.heap.size, 0, none⟩) 1 1 (wc.heap.size + 1) [.int .i64 0, .int .i64 1, .int .i64 3] rfl (fun e => by cases e) (Rd.more (Rd.of_blk (cs := [.int .i64 0, .int .i64 1, .int .i64 3]) (n := 1) (sz := 3) (by repeat (first | (refine Blk.new' _ _ _ _ ?_; first | rfl | (simp <;> omega)) | refine Blk.al ?_ _ | refine Blk.dr ?_ | refine Blk.drN ?_ _ | refine Blk.far ?_ (by first | omega | (simp; omega)))) rfl) (by simp)) ((List.all_eq_true (p := fun (u : Value) => u.oneCell')).1 (by rfl)) (by simp only [maxLen]; omega) (by omega) (by simp; try omega) ?_; intro va wa hoa hga hta; obtain ⟨ga, ca, rfl, hca, hgA, _⟩ := own_cs hoa (by omega)
      refine hK.out _ _ ⟨hHeld.1.trans ((bel_grow hga).mono hHeld.1.size), cell_bel (bel_grow hga) hHeld.2⟩ (fun hHeld => ?_)
      clear hK K
      try simp only [Act.put, List.setIfInBounds_toArray, List.set_cons_zero, List.set_cons_succ]
      refine wpAnyH_ready (rs := [15]) (by kernel_rfl) (by simp) ?_
      refine AllReadyH.cons rfl (fun K hK => ?_) AllReadyH.nil
      go_simp
      refine hK.out _ _ hHeld (fun hHeld => ?_)
      clear hK K
      refine wpAnyH_ready (rs := [16]) (by kernel_rfl) (by simp) ?_
      refine AllReadyH.cons rfl (fun K hK => ?_) AllReadyH.nil
      go_simp
      refine hK.out _ _ hHeld (fun hHeld => ?_)
      clear hK K
      refine wpAnyH_ready (rs := [17]) (by kernel_rfl) (by simp) ?_
      refine AllReadyH.cons rfl (fun K hK => ?_) AllReadyH.nil
      go_simp
      refine hK.out _ _ hHeld (fun hHeld => ?_)
      clear hK K
      refine wpAnyH_ready (rs := [18]) (by kernel_rfl) (by simp) ?_
      refine AllReadyH.cons rfl (fun K hK => ?_) AllReadyH.nil
      go_simp
      refine hK.out _ _ hHeld (fun hHeld => ?_)
      clear hK K
      refine wpAnyH_done (by kernel_rfl) ?_ _
      simp only [cutQ, List.drop_succ_cons, List.drop_zero]
      have hba := hHeld.1
      have HXA := Lib.hid (HX.out.same (hba.block _ HX.out.lt))
      have HTA := Lib.hid (HT.out.tr (Tw.of hba))
      have hgaR : ga ≠ Rb := by have := HX.out.lt; omega
      have HCA := Lib.hid ((CB.own hoa).tw (Tw.set Rb (11) wa (.slice (some ⟨ga, 0, none⟩) 1 ca)) hgaR)
      have hgw : w.heap.size ≤ ga := by have := HT.out.size; omega
      have y11 := HXA.out.cell 11
      have fy11 := HXA.out.frozen 11
      have y14 := HXA.out.cell 14
      have yl := HXA.out.lt
      simp at y11 y14
      clear hHeld hoa hga hta hca hba HX HT x11 x13 xl
      go_wp2_with fail
      go_ret
      exact ⟨rfl, HTA.out.tr (Tw.set Rb (11) _ _), ga, ca, _, hgw, HCA.out, HXA.out.set_ (11) _⟩
end Go.Proofs.YtinjdcefagaaeaaGreatDoor
