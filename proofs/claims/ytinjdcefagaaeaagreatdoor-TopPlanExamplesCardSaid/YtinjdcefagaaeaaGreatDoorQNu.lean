import Derived.Test.YtinjdcefagaaeaaGreatDoorQNt
import Derived.Deep.RegionHeld3
import Derived.Test.YtinjdcefagaaeaaGreatDoorQCu
set_option linter.unusedVariables false
set_option linter.unusedSimpArgs false
namespace Go.Proofs.YtinjdcefagaaeaaGreatDoor
open Go.RowKit
/-! the builder's events and activities -/
abbrev evL : List Value := [.int .i64 1, .int .i64 0, .int .i64 0, .int .i64 2, .int .i64 0, .int .i64 0]
abbrev acL : List Value := [.int .i64 1, .int .i64 0, .int .i64 1, .int .i64 41, .int .i64 46, .int .i64 2]
theorem infoE : (Tryz.prog.info? 162).map (fun i => (i.zero, i.size, i.bytes)) = some (some (.agg #[.int .i64 0, .int .i64 0, .int .i64 0]), 3, 24) := by kernel_rfl
theorem infoAc : (Tryz.prog.info? 138).map (fun i => (i.zero, i.size, i.bytes)) = some (some (.agg #[.int .i64 0, .int .i64 0, .int .i64 0, .int .i64 0, .int .i64 0, .int .i64 0]), 6, 48) := by kernel_rfl
theorem Tw.rf (g : Nat) (w : World) : Tw g w w := ⟨rfl, rfl, rfl, Nat.le_refl _, fun _ _ _ => rfl⟩
theorem BdS.tw {w w' : World} {L : LyA} {P : PlA} {Bb g : Nat} {vf vo vr ve va : Value} (h : BdS w L P Bb vf vo vr ve va) (ht : Tw g w w') (hg : w.heap.size ≤ g) : BdS w' L P Bb vf vo vr ve va :=
  h.go ⟨ht.os, ht.tape, ht.output, ht.size, fun k hk => ht.block k hk (by omega)⟩
theorem BdS.st {w : World} {L : LyA} {P : PlA} {Bb : Nat} {vf vo vr ve va : Value} (h : BdS w L P Bb vf vo vr ve va) (i : Nat) (u : Value) {vf' vo' vr' ve' va' : Value} (he : (buC L P vf vo vr ve va).setIfInBounds i u = buC L P vf' vo' vr' ve' va') : BdS (w.setCell ⟨Bb, i, none⟩ u) L P Bb vf' vo' vr' ve' va' :=
  ⟨by have := h.x.set_ i u; rw [he] at this; exact this, h.p.tw h.b (Tw.set _ _ _ _), h.b⟩
def EvT (wr : World) (Bb : Nat) (vf : Value) : Prop := ∃ g c, vf = .slice (some ⟨g, 0, none⟩) 1 c ∧ Cs wr g [.int .i64 0] ∧ g ≠ Bb
def EvE (wr : World) (Bb : Nat) (ve : Value) : Prop := ∃ g c, ve = .slice (some ⟨g, 0, none⟩) 2 c ∧ Cs wr g evL ∧ g ≠ Bb
theorem EvT.tw {w w' : World} {Bb : Nat} {v : Value} (h : EvT w Bb v) (ht : Tw Bb w w') : EvT w' Bb v := by obtain ⟨g, c, rfl, hc, hn⟩ := h; exact ⟨g, c, rfl, hc.tw ht hn, hn⟩
theorem EvE.tw {w w' : World} {Bb : Nat} {v : Value} (h : EvE w Bb v) (ht : Tw Bb w w') : EvE w' Bb v := by obtain ⟨g, c, rfl, hc, hn⟩ := h; exact ⟨g, c, rfl, hc.tw ht hn, hn⟩
def nlV : Value := .slice none 0 0
def EvL (w : World) (L : LyA) (P : PlA) (Bb : Nat) (k : Nat) (v : Value) (wr : World) : Prop := Tw Bb w wr ∧ ((k = 1 ∧ v = .int .i64 0 ∧ BdS wr L P Bb (.slice none 0 0) (.slice none 0 0) (.slice none 0 0) (.slice none 0 0) (.slice none 0 0)) ∨
  (k = 0 ∧ v = .int .i64 1 ∧ ∃ vf ve, BdS wr L P Bb vf (.slice none 0 0) (.slice none 0 0) ve (.slice none 0 0) ∧ EvT wr Bb vf ∧ EvE wr Bb ve))
def Ev2 (w : World) (L : LyA) (P : PlA) (Bb : Nat) (k : Nat) (v : Value) (wr : World) : Prop := Tw Bb w wr ∧ ((k = 1 ∧ v = .int .i64 0 ∧ ∃ vf, BdS wr L P Bb vf (.slice none 0 0) (.slice none 0 0) (.slice none 0 0) (.slice none 0 0) ∧ EvT wr Bb vf) ∨
  (k = 0 ∧ v = .int .i64 1 ∧ ∃ vf ve, BdS wr L P Bb vf (.slice none 0 0) (.slice none 0 0) ve (.slice none 0 0) ∧ EvT wr Bb vf ∧ EvE wr Bb ve))
set_option maxRecDepth 100000 in
set_option maxHeartbeats 6400000 in
theorem addev_ok (L : LyA) (P : PlA) (Bb : Nat) (w : World) (h : BdS w L P Bb (.slice none 0 0) (.slice none 0 0) (.slice none 0 0) (.slice none 0 0) (.slice none 0 0)) :
    Calls Tryz.prog 37 #[.pointer (some ⟨Bb, 0, none⟩)] w fun e w' => (∃ v, e = .returned v) ∧ Tw Bb w w' ∧ ∃ vf ve, BdS w' L P Bb vf (.slice none 0 0) (.slice none 0 0) ve (.slice none 0 0) ∧ EvT w' Bb vf ∧ EvE w' Bb ve := by
  have H := Lib.hid h
  obtain ⟨i0, b1, b2, b3, b4⟩ := info_parts infoI
  have HI := Lib.hid (And.intro b1 (And.intro b2 (And.intro b3 b4)))
  clear b1 b2 b3 b4
  obtain ⟨iE, b1, b2, b3, b4⟩ := info_parts infoE
  have HIE := Lib.hid (And.intro b1 (And.intro b2 (And.intro b3 b4)))
  clear b1 b2 b3 b4
  have x7 := h.x.cell 7
  have xl := h.x.lt
  simp at x7
  clear h
  go_enter Tryz.func37, Tryz.ntmps37
  go_wp2_with fail
  clear x7
  go_loopg [11] 1 (fun k v wr => EvL w L P Bb k v wr)
  case atStart => exact ⟨Tw.rf _ _, .inl ⟨rfl, rfl, H.out⟩⟩
  case round =>
    obtain ⟨ht, hor⟩ := hrel
    have HT := Lib.hid ht
    clear ht
    rcases hor with ⟨rfl, rfl, hs⟩ | ⟨rfl, rfl, vf, ve, hs, hvf, hve⟩
    · have HS := Lib.hid hs
      have d0 : wr.cell? ⟨P.li, 0, none⟩ = some (.string ⟨#[65]⟩) := hs.p.li.c 0 _ rfl
      have d1 : wr.cell? ⟨P.li, 1, none⟩ = some (.int .i64 0) := hs.p.li.c 1 _ rfl
      have d2 : wr.cell? ⟨P.li, 2, none⟩ = some (.int .i64 2) := hs.p.li.c 2 _ rfl
      have d3 : wr.cell? ⟨P.li, 3, none⟩ = some (.slice (some ⟨P.ri, 0, none⟩) 1 P.cr) := hs.p.li.c 3 _ rfl
      have dl := hs.p.li.lt
      clear hs
      go_upto_region 3 with fail
      refine world_gen (fun w2 => Tw Bb w w2 ∧ BdS w2 L P Bb (.slice none 0 0) (.slice none 0 0) (.slice none 0 0) (.slice none 0 0) (.slice none 0 0) ∧ Blk w2 wr.heap.size 167 P.lC) ⟨HT.out.tr (Tw.of ((Below.refl _ _).alloc (Nat.le_refl _) _)), HS.out.go ((Below.refl _ _).alloc (Nat.le_refl _) _), (by repeat (first | (refine Blk.new' _ _ _ _ ?_; first | rfl | (simp <;> omega)) | refine Blk.al ?_ _ | refine Blk.dr ?_ | refine Blk.drN ?_ _ | refine Blk.far ?_ (by first | omega | (simp; omega))))⟩ ?_
      rintro w2 ⟨ht2, hs2, hz2⟩
      have hzB : wr.heap.size ≠ Bb := by have := HS.out.x.lt; omega
      have HT2 := Lib.hid ht2
      have HS2 := Lib.hid hs2
      have HZ2 := Lib.hid hz2
      have x12 := hs2.x.cell 12
      have x17 := hs2.x.cell 17
      have f12 := hs2.x.frozen 12
      have xl2 := hs2.x.lt
      simp at x12 x17
      clear ht2 hs2 hz2 HT HS d0 d1 d2 d3 dl
      generalize wr.heap.size = Z at *
      have hbd : Below w2.heap.size w2 (w2.drew.alloc (.cells #[.int .i64 0] 3)) := (Below.refl _ w2).drew.alloc (Nat.le_refl _) _
      refine wp_region_cut 14 (by kernel_rfl) (by kernel_rfl) ?_
      simp only [dulled, dull, List.take_succ_cons, List.take_zero, List.drop_succ_cons, List.drop_zero, List.map_cons, List.map_nil, List.cons_append, List.nil_append]
      refine wpAny_of_held (S := fun W => W.cell? ⟨Bb, 12, none⟩ = some (.slice none 0 0) ∧ W.cell? ⟨Bb, 17, none⟩ = some (.slice none 0 0)) _ _ _ _ ?_
      change wpAnyH _ _ _ _ _ 17 _ _ (World.drew w2)
      have hHeld : (fun W => W.cell? ⟨Bb, 12, none⟩ = some (.slice none 0 0) ∧ W.cell? ⟨Bb, 17, none⟩ = some (.slice none 0 0)) (World.drew w2) := ⟨x12, x17⟩
      refine wpAnyH_take (i := 0) (oi := ⟨some _, _, _, _, _, _⟩) (v := ?_) rfl (by kernel_rfl) (by kernel_rfl) (by kernel_rfl) (fun _ _ _ h => h) (Or.inl ⟨by rfl, ?_⟩) (by assumption) ?_
      rotate_left
      · (intro w hSw; (try dsimp only at hSw); go_simp; try with_reducible rfl)
      simp only [Act.put, List.setIfInBounds_toArray, List.set_cons_zero, List.set_cons_succ]
      refine wpAnyH_take (i := 1) (oi := ⟨some _, _, _, _, _, _⟩) (v := ?_) rfl (by kernel_rfl) (by kernel_rfl) (by kernel_rfl) (fun _ _ _ h => h) (Or.inl ⟨by rfl, ?_⟩) (by assumption) ?_
      rotate_left
      · (intro w hSw; (try dsimp only at hSw); go_simp; try with_reducible rfl)
      simp only [Act.put, List.setIfInBounds_toArray, List.set_cons_zero, List.set_cons_succ]
      refine wpAnyH_take (i := 2) (oi := ⟨some _, _, _, _, _, _⟩) (v := ?_) rfl (by kernel_rfl) (by kernel_rfl) (by kernel_rfl) (fun _ _ _ h => h) (Or.inl ⟨by rfl, ?_⟩) (by assumption) ?_
      rotate_left
      · (intro w hSw; (try dsimp only at hSw); go_simp; try with_reducible rfl)
      simp only [Act.put, List.setIfInBounds_toArray, List.set_cons_zero, List.set_cons_succ]
      refine wpAnyH_take (i := 3) (oi := ⟨some _, _, _, _, _, _⟩) (v := ?_) rfl (by kernel_rfl) (by kernel_rfl) (by kernel_rfl) (fun _ _ _ h => h) (Or.inl ⟨by rfl, ?_⟩) (by assumption) ?_
      rotate_left
      · (intro w hSw; (try dsimp only at hSw); go_simp; try with_reducible rfl)
      simp only [Act.put, List.setIfInBounds_toArray, List.set_cons_zero, List.set_cons_succ]
      refine wpAnyH_take (i := 4) (oi := ⟨some _, _, _, _, _, _⟩) (v := ?_) rfl (by kernel_rfl) (by kernel_rfl) (by kernel_rfl) (fun _ _ _ h => h) (Or.inl ⟨by rfl, ?_⟩) (by assumption) ?_
      rotate_left
      · (intro w hSw; (try dsimp only at hSw); go_simp; try with_reducible rfl)
      simp only [Act.put, List.setIfInBounds_toArray, List.set_cons_zero, List.set_cons_succ]
      refine wpAnyH_take (i := 5) (oi := ⟨some _, _, _, _, _, _⟩) (v := ?_) rfl (by kernel_rfl) (by kernel_rfl) (by kernel_rfl) (fun _ _ _ h => h) (Or.inl ⟨by rfl, ?_⟩) (by assumption) ?_
      rotate_left
      · (intro w hSw; (try dsimp only at hSw); go_simp; try with_reducible rfl)
      simp only [Act.put, List.setIfInBounds_toArray, List.set_cons_zero, List.set_cons_succ]
      refine wpAnyH_take (i := 6) (oi := ⟨some _, _, _, _, _, _⟩) (v := ?_) rfl (by kernel_rfl) (by kernel_rfl) (by kernel_rfl) (fun _ _ _ h => h) (Or.inl ⟨by rfl, ?_⟩) (by assumption) ?_
      rotate_left
      · (intro w hSw; (try dsimp only at hSw); go_simp; try with_reducible rfl)
      simp only [Act.put, List.setIfInBounds_toArray, List.set_cons_zero, List.set_cons_succ]
      refine wpAnyH_take (i := 7) (oi := ⟨some _, _, _, _, _, _⟩) (v := ?_) rfl (by kernel_rfl) (by kernel_rfl) (by kernel_rfl) (fun _ _ _ h => h) (Or.inl ⟨by rfl, ?_⟩) (by assumption) ?_
      rotate_left
      · (intro w hSw; (try dsimp only at hSw); go_simp; try with_reducible rfl)
      simp only [Act.put, List.setIfInBounds_toArray, List.set_cons_zero, List.set_cons_succ]
      refine wpAnyH_take (i := 8) (oi := ⟨some _, _, _, _, _, _⟩) (v := ?_) rfl (by kernel_rfl) (by kernel_rfl) (by kernel_rfl) (fun _ _ _ h => h) (Or.inl ⟨by rfl, ?_⟩) (by assumption) ?_
      rotate_left
      · (intro w hSw; (try dsimp only at hSw); go_simp; try with_reducible rfl)
      simp only [Act.put, List.setIfInBounds_toArray, List.set_cons_zero, List.set_cons_succ]
      refine wpAnyH_take (i := 9) (oi := ⟨some _, _, _, _, _, _⟩) (v := ?_) rfl (by kernel_rfl) (by kernel_rfl) (by kernel_rfl) (fun _ _ _ h => h) (Or.inl ⟨by rfl, ?_⟩) (by assumption) ?_
      rotate_left
      · (intro w hSw; (try dsimp only at hSw); go_simp; try with_reducible rfl)
      simp only [Act.put, List.setIfInBounds_toArray, List.set_cons_zero, List.set_cons_succ]
      refine wpAnyH_take (i := 10) (oi := ⟨some _, _, _, _, _, _⟩) (v := ?_) rfl (by kernel_rfl) (by kernel_rfl) (by kernel_rfl) (fun _ _ _ h => h) (Or.inl ⟨by rfl, ?_⟩) (by assumption) ?_
      rotate_left
      · (intro w hSw; (try dsimp only at hSw); go_simp; try with_reducible rfl)
      simp only [Act.put, List.setIfInBounds_toArray, List.set_cons_zero, List.set_cons_succ]
      refine wpAnyH_take (i := 11) (oi := ⟨some _, _, _, _, _, _⟩) (v := ?_) rfl (by kernel_rfl) (by kernel_rfl) (by kernel_rfl) (fun _ _ _ h => h) (Or.inl ⟨by rfl, ?_⟩) (by assumption) ?_
      rotate_left
      · (intro w hSw; (try dsimp only at hSw); go_simp; try with_reducible rfl)
      simp only [Act.put, List.setIfInBounds_toArray, List.set_cons_zero, List.set_cons_succ]
      refine wpAnyH_ready (rs := [12]) (by kernel_rfl) (by simp) ?_
      refine AllReadyH.cons rfl (fun K hK => ?_) AllReadyH.nil
      go_simp
      refine hK.out _ _ ⟨cell_bel hbd x12, cell_bel hbd x17⟩ (fun hHeld => ?_)
      clear hK K
      try simp only [Act.put, List.setIfInBounds_toArray, List.set_cons_zero, List.set_cons_succ]
      refine wpAnyH_ready (rs := [13]) (by kernel_rfl) (by simp) ?_
      refine AllReadyH.cons (o := ⟨some _, _, _, _, _, _⟩) rfl (fun K hK => ?_) AllReadyH.nil
      refine step_append_any (by rfl) _ _ _ (by rfl) w2.heap.size 3 _ _ 1 8 Tryz.underlying47 HI.out.1 HI.out.2.1 HI.out.2.2.1 HI.out.2.2.2 rfl (by omega) (.slice none 0 0) 0 ([]) rfl (World.ownsRow_nil _ _ _ _) (some ⟨w2.drew.heap.size, 0, none⟩) 1 1 (w2.drew.heap.size + 1) [.int .i64 0] rfl (fun e => by cases e) (Rd.more (Rd.of_blk (cs := [.int .i64 0]) (n := 1) (sz := 1) (by repeat (first | (refine Blk.new' _ _ _ _ ?_; first | rfl | (simp <;> omega)) | refine Blk.al ?_ _ | refine Blk.dr ?_ | refine Blk.drN ?_ _ | refine Blk.far ?_ (by first | omega | (simp; omega)))) rfl) (by simp)) ((List.all_eq_true (p := fun (u : Value) => u.oneCell')).1 (by rfl)) (by simp only [maxLen]; omega) (by omega) (by simp; try omega) ?_; intro va wa hoa hga hta; obtain ⟨ga, ca, rfl, hca, hgA, _⟩ := own_cs hoa (by omega)
      have hba : Below w2.heap.size w2 wa := hbd.trans (Below.mono (bel_grow hga) (by simp))
      refine hK.out _ _ ⟨cell_bel hba x12, cell_bel hba x17⟩ (fun hHeld => ?_)
      clear hK K
      try simp only [Act.put, List.setIfInBounds_toArray, List.set_cons_zero, List.set_cons_succ]
      refine wpAnyH_ready (rs := [14]) (by kernel_rfl) (by simp) ?_
      refine AllReadyH.cons rfl (fun K hK => ?_) AllReadyH.nil
      go_simp
      refine hK.out _ _ hHeld (fun hHeld => ?_)
      clear hK K
      refine wpAnyH_ready (rs := [15]) (by kernel_rfl) (by simp) ?_
      refine AllReadyH.cons rfl (fun K hK => ?_) AllReadyH.nil
      go_simp
      refine hK.out _ _ hHeld (fun hHeld => ?_)
      clear hK K
      refine wpAnyH_ready (rs := [16]) (by kernel_rfl) (by simp) ?_
      refine AllReadyH.cons rfl (fun K hK => ?_) AllReadyH.nil
      go_simp
      refine hK.out _ _ hHeld (fun hHeld => ?_)
      clear hK K
      refine wpAnyH_done (by kernel_rfl) ?_ _
      simp only [cutQ, List.drop_succ_cons, List.drop_zero]
      have hcf := hca
      have hsa := HS2.out.go hba
      have y12 := hsa.x.cell 12
      have fy12 := hsa.x.frozen 12
      have yl := hsa.x.lt
      simp at y12
      have HSA := Lib.hid hsa
      have HCF := Lib.hid hcf
      have HBA := Lib.hid hba
      have hgB : ga ≠ Bb := by omega
      clear hca hgA hHeld x12 x17 f12 hbd hoa hga hta hba hcf hsa
      go_upto_region 4 with fail
      have hgB2 : Bb ≠ ga := fun e => hgB e.symm
      refine world_gen (fun w3 => Tw Bb w w3 ∧ BdS w3 L P Bb (.slice (some ⟨ga, 0, none⟩) 1 ca) (.slice none 0 0) (.slice none 0 0) (.slice none 0 0) (.slice none 0 0) ∧ Blk w3 Z 167 P.lC ∧ Cs w3 ga [.int .i64 0]) ⟨(HT2.out.tr (Tw.of HBA.out)).tr (Tw.set _ _ _ _), HSA.out.st 12 _ rfl, (HZ2.out.same (HBA.out.block _ HZ2.out.lt)).far (by omega), HCF.out.tw (Tw.set _ _ _ _) hgB⟩ ?_
      rintro w3 ⟨ht3, hs3, hz3, hc3⟩
      have HT3 := Lib.hid ht3
      have HS3 := Lib.hid hs3
      have HZ3 := Lib.hid hz3
      have HC3 := Lib.hid hc3
      have z3 := hz3.cell 3
      have zl := hz3.lt
      simp at z3
      clear ht3 hs3 hz3 hc3 HSA HBA HCF HZ2 HS2 HT2 y12 fy12 yl
      go_wp2_with fail
      clear z3 zl
      go_loopg [35] 1 (fun k v wr => Ev2 w L P Bb k v wr)
      case atStart => exact ⟨HT3.out, .inl ⟨rfl, rfl, _, HS3.out, ga, ca, rfl, HC3.out, hgB⟩⟩
      case round =>
        obtain ⟨ht, hor⟩ := hrel
        have HT := Lib.hid ht
        clear ht HT3 HS3 HZ3 HC3
        rcases hor with ⟨rfl, rfl, vf, hs, hvf⟩ | ⟨rfl, rfl, vf, ve, hs, hvf, hve⟩
        · have HS := Lib.hid hs
          have HVF := Lib.hid hvf
          have x17 := hs.x.cell 17
          have f17 := hs.x.frozen 17
          have xl2 := hs.x.lt
          simp at x17
          clear hs hvf
          go_upto_region 8 with ((at_builtin; refine wpList_append_own_at _ rfl _ _ 65 rfl wr.heap.size 162 iE _ 3 24 Tryz.underlying65 HIE.out.1 HIE.out.2.1 HIE.out.2.2.1 HIE.out.2.2.2 rfl (by omega) _ 0 ([]) rfl (World.ownsRow_nil _ _ _ _) ⟨wr.heap.size, 0, none⟩ 2 2 evL rfl rfl ?c0 ?c1 ?c2 ?c3 ?c4 ?_; rotate_right; intro va wa hoa hga hna hta); obtain ⟨ge, ce, rfl, hce, hge, _⟩ := own_cs hoa (by omega); have hba : Below wr.heap.size wr wa := Below.trans ((Below.refl _ _).alloc (Nat.le_refl _) (.cells evL.toArray 162)) (Below.mono (bel_grow hga) (by simp)); clear x17 f17 xl2; have y17 := (HS.out.go hba).x.cell 17; have fy17 := (HS.out.go hba).x.frozen 17; have yl := (HS.out.go hba).x.lt; simp at y17; have HBA := Lib.hid hba; have HCE := Lib.hid hce; clear hce hoa hga hna hta hba)
          case c0 => exact news_new _ _ _
          case c1 => exact (List.all_eq_true (p := fun (u : Value) => u.oneCell')).1 (by rfl)
          case c2 => simp only [maxLen]; omega
          case c3 => omega
          case c4 => first | omega | (simp; done) | (simp; omega)
          have hgeB : ge ≠ Bb := by have := HS.out.x.lt; omega
          have hgeB2 : Bb ≠ ge := fun e => hgeB e.symm
          have ht9 : Tw Bb wr (wa.setCell ⟨Bb, 17, none⟩ (.slice (some ⟨ge, 0, none⟩) 2 ce)) := (Tw.of HBA.out).tr (Tw.set _ _ _ _)
          have hs9 := (HS.out.go HBA.out).st 17 (.slice (some ⟨ge, 0, none⟩) 2 ce) rfl
          have HF := Lib.hid (show Ev2 w L P Bb 0 (.int .i64 1) (wa.setCell ⟨Bb, 17, none⟩ (.slice (some ⟨ge, 0, none⟩) 2 ce)) from ⟨HT.out.tr ht9, .inr ⟨rfl, rfl, vf, _, hs9, HVF.out.tw ht9, ge, ce, rfl, HCE.out.tw (Tw.set _ _ _ _) hgeB, hgeB⟩⟩)
          clear ht9 hs9 y17 fy17 yl HBA HCE
          go_wp2_with fail
          go_roundg 0
          case measure => omega
          case rel => exact HF.out
        · have HF := Lib.hid (show EvL w L P Bb 0 (.int .i64 1) wr from ⟨HT.out, .inr ⟨rfl, rfl, vf, ve, hs, hvf, hve⟩⟩)
          clear hs hvf hve
          go_wp2_with fail
          go_roundg 0
          case measure => omega
          case rel => exact HF.out
    · have HF := Lib.hid (And.intro HT.out (⟨vf, ve, hs, hvf, hve⟩ : ∃ vf ve, BdS wr L P Bb vf (.slice none 0 0) (.slice none 0 0) ve (.slice none 0 0) ∧ EvT wr Bb vf ∧ EvE wr Bb ve))
      clear hs hvf hve
      go_wp2_with fail
      go_end0
      exact ⟨⟨_, rfl⟩, HF.out.1, HF.out.2⟩
end Go.Proofs.YtinjdcefagaaeaaGreatDoor
namespace Go.Proofs.YtinjdcefagaaeaaGreatDoor
open Go.RowKit
/-! builder.add, addPlanned -/
theorem dep0 (w : World) : Calls Tryz.prog 107 #[.int .i64 0] w fun e w' => e = .returned (.int .i64 0) ∧ Below w.heap.size w w' := by simpa using depart_ok 0 w (by omega) (by omega)
theorem arr0 (w : World) : Calls Tryz.prog 108 #[.int .i64 0] w fun e w' => e = .returned (.int .i64 1) ∧ Below w.heap.size w w' := by simpa using arrive_ok 0 w (by omega) (by omega)
def EvA (wr : World) (Bb : Nat) (va : Value) : Prop := ∃ g c, va = .slice (some ⟨g, 0, none⟩) 1 c ∧ Cs wr g acL ∧ g ≠ Bb
theorem EvA.tw {w w' : World} {Bb : Nat} {v : Value} (h : EvA w Bb v) (ht : Tw Bb w w') : EvA w' Bb v := by obtain ⟨g, c, rfl, hc, hn⟩ := h; exact ⟨g, c, rfl, hc.tw ht hn, hn⟩
set_option maxRecDepth 100000 in
set_option maxHeartbeats 6400000 in
theorem badd_ok (L : LyA) (P : PlA) (Bb : Nat) (vf vo vr ve : Value) (w : World) (h : BdS w L P Bb vf vo vr ve (.slice none 0 0)) :
    Calls Tryz.prog 106 #[.pointer (some ⟨Bb, 0, none⟩), .int .i64 1, .int .i64 0, .int .i64 1, .int .i64 41, .int .i64 46, .int .i64 2] w fun e w' => (∃ v, e = .returned v) ∧ Tw Bb w w' ∧ ∃ va, BdS w' L P Bb vf vo vr ve va ∧ EvA w' Bb va := by
  have HS := Lib.hid h
  obtain ⟨iA, b1, b2, b3, b4⟩ := info_parts infoAc
  have HIA := Lib.hid (And.intro b1 (And.intro b2 (And.intro b3 b4)))
  clear b1 b2 b3 b4
  have x18 := h.x.cell 18
  have f18 := h.x.frozen 18
  have xl := h.x.lt
  simp at x18
  clear h
  go_enter Tryz.func106, Tryz.ntmps106
  go_wp2_with ((at_builtin; refine wpList_append_own_at _ rfl _ _ 66 rfl w.heap.size 138 iA _ 6 48 Tryz.underlying66 HIA.out.1 HIA.out.2.1 HIA.out.2.2.1 HIA.out.2.2.2 rfl (by omega) _ 0 ([]) rfl (World.ownsRow_nil _ _ _ _) ⟨w.heap.size, 0, none⟩ 1 1 acL rfl rfl ?c0 ?c1 ?c2 ?c3 ?c4 ?_; rotate_right; intro va wa hoa hga hna hta); obtain ⟨ge, ce, rfl, hce, hge, _⟩ := own_cs hoa (by omega); have hba : Below w.heap.size w wa := Below.trans ((Below.refl _ _).alloc (Nat.le_refl _) (.cells acL.toArray 138)) (Below.mono (bel_grow hga) (by simp)); clear x18 f18 xl; have y18 := (HS.out.go hba).x.cell 18; have fy18 := (HS.out.go hba).x.frozen 18; have yl := (HS.out.go hba).x.lt; simp at y18; have HBA := Lib.hid hba; have HCE := Lib.hid hce; clear hce hoa hga hna hta hba)
  case c0 => exact news_new _ _ _
  case c1 => exact (List.all_eq_true (p := fun (u : Value) => u.oneCell')).1 (by rfl)
  case c2 => simp only [maxLen]; omega
  case c3 => omega
  case c4 => first | omega | (simp; done) | (simp; omega)
  have hgeB : ge ≠ Bb := by have := HS.out.x.lt; omega
  go_end0
  exact ⟨⟨_, rfl⟩, (Tw.of HBA.out).tr (Tw.set _ _ _ _), _, (HS.out.go HBA.out).st 18 (.slice (some ⟨ge, 0, none⟩) 1 ce) rfl, ge, ce, rfl, HCE.out.tw (Tw.set _ _ _ _) hgeB, hgeB⟩
/-- the builder behind Rides -/
structure BpS (w wr : World) (L : LyA) (P : PlA) (Bb gf cf gr cr : Nat) (vo ve va : Value) : Prop where
  t : Tw Bb w wr
  s : BdS wr L P Bb (.slice (some ⟨gf, 0, none⟩) 1 cf) vo (.slice (some ⟨gr, 0, none⟩) 1 cr) ve va
  f : Cs wr gf [.int .i64 0]
  r : Cs wr gr [.int .i64 41]
  n1 : gf ≠ Bb
  n2 : gr ≠ Bb
theorem BpS.go {w wr w' : World} {L : LyA} {P : PlA} {Bb gf cf gr cr : Nat} {vo ve va : Value} (h : BpS w wr L P Bb gf cf gr cr vo ve va) (hb : Below wr.heap.size wr w') : BpS w w' L P Bb gf cf gr cr vo ve va :=
  ⟨h.t.tr (Tw.of hb), h.s.go hb, h.f.go hb, h.r.go hb, h.n1, h.n2⟩
theorem BpS.tw {w wr w' : World} {L : LyA} {P : PlA} {Bb gf cf gr cr : Nat} {vo ve va va' : Value} (h : BpS w wr L P Bb gf cf gr cr vo ve va) (ht : Tw Bb wr w') (hs : BdS w' L P Bb (.slice (some ⟨gf, 0, none⟩) 1 cf) vo (.slice (some ⟨gr, 0, none⟩) 1 cr) ve va') : BpS w w' L P Bb gf cf gr cr vo ve va' :=
  ⟨h.t.tr ht, hs, h.f.tw ht h.n1, h.r.tw ht h.n2, h.n1, h.n2⟩
def Bp1 (w : World) (L : LyA) (P : PlA) (Bb gf cf gr cr : Nat) (vo ve : Value) (k : Nat) (v : Value) (wr : World) : Prop :=
  (k = 1 ∧ v = .int .i64 0 ∧ BpS w wr L P Bb gf cf gr cr vo ve (.slice none 0 0)) ∨ (k = 0 ∧ v = .int .i64 1 ∧ ∃ va, BpS w wr L P Bb gf cf gr cr vo ve va ∧ EvA wr Bb va)
def Bp2 (w : World) (L : LyA) (P : PlA) (Bb gf cf gr cr Z : Nat) (vo ve : Value) (k : Nat) (v : Value) (wr : World) : Prop :=
  Blk wr Z 167 P.lC ∧ ((k = 1 ∧ v = .int .i64 0 ∧ BpS w wr L P Bb gf cf gr cr vo ve (.slice none 0 0)) ∨ (k = 0 ∧ v = .int .i64 1 ∧ ∃ va, BpS w wr L P Bb gf cf gr cr vo ve va ∧ EvA wr Bb va))
def Bp3 (w : World) (L : LyA) (P : PlA) (Bb gf cf gr cr : Nat) (vo ve : Value) (k : Nat) (v : Value) (wr : World) : Prop :=
  k = 0 ∧ v = .int .i64 0 ∧ ∃ va, BpS w wr L P Bb gf cf gr cr vo ve va ∧ EvA wr Bb va
set_option maxRecDepth 100000 in
set_option maxHeartbeats 12800000 in
theorem bplan_ok (L : LyA) (P : PlA) (Bb gf cf gr cr : Nat) (vo ve : Value) (w : World) (h : BpS w w L P Bb gf cf gr cr vo ve (.slice none 0 0)) :
    Calls Tryz.prog 41 #[.pointer (some ⟨Bb, 0, none⟩)] w fun e w' => (∃ v, e = .returned v) ∧ ∃ va, BpS w w' L P Bb gf cf gr cr vo ve va ∧ EvA w' Bb va := by
  have H := Lib.hid h
  have x7 := h.s.x.cell 7
  have xl := h.s.x.lt
  simp at x7
  clear h
  go_enter Tryz.func41, Tryz.ntmps41
  go_wp2_with fail
  clear x7
  go_loopg [22] 1 (fun k v wr => Bp1 w L P Bb gf cf gr cr vo ve k v wr)
  case atStart => exact .inl ⟨rfl, rfl, H.out⟩
  case round =>
    rcases hrel with ⟨rfl, rfl, hs⟩ | ⟨rfl, rfl, va, hs, hva⟩
    · have HS := Lib.hid hs
      have d0 : wr.cell? ⟨P.li, 0, none⟩ = some (.string ⟨#[65]⟩) := hs.s.p.li.c 0 _ rfl
      have d1 : wr.cell? ⟨P.li, 1, none⟩ = some (.int .i64 0) := hs.s.p.li.c 1 _ rfl
      have d2 : wr.cell? ⟨P.li, 2, none⟩ = some (.int .i64 2) := hs.s.p.li.c 2 _ rfl
      have d3 : wr.cell? ⟨P.li, 3, none⟩ = some (.slice (some ⟨P.ri, 0, none⟩) 1 P.cr) := hs.s.p.li.c 3 _ rfl
      have dl := hs.s.p.li.lt
      clear hs
      go_upto_region 3 with fail
      have hzB : wr.heap.size ≠ Bb := by have := HS.out.s.x.lt; omega
      refine world_gen (fun w2 => BpS w w2 L P Bb gf cf gr cr vo ve (.slice none 0 0) ∧ Blk w2 wr.heap.size 167 P.lC) ⟨HS.out.go ((Below.refl _ _).alloc (Nat.le_refl _) _), (by repeat (first | (refine Blk.new' _ _ _ _ ?_; first | rfl | (simp <;> omega)) | refine Blk.al ?_ _ | refine Blk.dr ?_ | refine Blk.drN ?_ _ | refine Blk.far ?_ (by first | omega | (simp; omega))))⟩ ?_
      rintro w2 ⟨hs2, hz2⟩
      have HS2 := Lib.hid hs2
      have HZ2 := Lib.hid hz2
      have z3 := hz2.cell 3
      have zl := hz2.lt
      simp at z3
      clear hs2 hz2 HS d0 d1 d2 d3 dl
      generalize wr.heap.size = Z at *
      go_wp2_with fail
      clear z3 zl
      go_loopg [30] 1 (fun k v wr => Bp2 w L P Bb gf cf gr cr Z vo ve k v wr)
      case atStart => exact ⟨HZ2.out, .inl ⟨rfl, rfl, HS2.out⟩⟩
      case round =>
        obtain ⟨hz, hor⟩ := hrel
        have HZ := Lib.hid hz
        clear hz HS2 HZ2
        rcases hor with ⟨rfl, rfl, hs⟩ | ⟨rfl, rfl, va, hs, hva⟩
        · have HS := Lib.hid hs
          have d0 : wr.cell? ⟨P.ri, 0, none⟩ = some (.int .i64 0) := hs.s.p.ri.c 0 _ rfl
          have d1 : wr.cell? ⟨P.ri, 1, none⟩ = some (.int .i64 5) := hs.s.p.ri.c 1 _ rfl
          have d2 : wr.cell? ⟨P.ri, 2, none⟩ = some (.int .i64 0) := hs.s.p.ri.c 2 _ rfl
          have d3 : wr.cell? ⟨P.ri, 3, none⟩ = some (.int .i64 0) := hs.s.p.ri.c 3 _ rfl
          have dl := hs.s.p.ri.lt
          clear hs
          go_upto_region 6 with fail
          refine world_gen (fun w3 => BpS w w3 L P Bb gf cf gr cr vo ve (.slice none 0 0) ∧ Blk w3 Z 167 P.lC ∧ Blk w3 wr.heap.size 164 #[.int .i64 0, .int .i64 5, .int .i64 0, .int .i64 0]) ⟨HS.out.go ((Below.refl _ _).alloc (Nat.le_refl _) _), (by have hblk := HZ.out; repeat (first | exact hblk | refine Blk.al ?_ _ | refine Blk.dr ?_ | refine Blk.drN ?_ _)), (by repeat (first | (refine Blk.new' _ _ _ _ ?_; first | rfl | (simp <;> omega)) | refine Blk.al ?_ _ | refine Blk.dr ?_ | refine Blk.drN ?_ _ | refine Blk.far ?_ (by first | omega | (simp; omega))))⟩ ?_
          rintro w3 ⟨hs3, hz3, hr3⟩
          have HS3 := Lib.hid hs3
          have HZ3 := Lib.hid hz3
          have HR3 := Lib.hid hr3
          have hyB : wr.heap.size ≠ Bb := by have := HS.out.s.x.lt; omega
          clear hs3 hz3 hr3 HS HZ d0 d1 d2 d3 dl
          generalize wr.heap.size = Y at *
          go_wp2_with fail
          refine (ride_ok L P Bb gf cf _ _ _ _ _ HS3.out.s HS3.out.f).mono ?_
          rintro e w4 ⟨rfl, hw⟩
          obtain rfl := hw
          have x14 := HS3.out.s.x.cell 14
          have c0 : w4.cell? ⟨gr, 0, none⟩ = some (.int .i64 41) := HS3.out.r.c 0 _ rfl
          have cl := HS3.out.r.lt
          have xl3 := HS3.out.s.x.lt
          simp at x14
          go_upto_region 8 with fail
          clear x14 c0 cl xl3
          have y1 := HR3.out.cell 1
          have yl := HR3.out.lt
          have z2 := HZ3.out.cell 2
          have zl := HZ3.out.lt
          simp at y1 z2
          refine wp_region_overM 12 _ rfl (by kernel_rfl) (by kernel_rfl) ?_
          simp only [List.take_succ_cons, List.take_zero]
          repeat (go_big_quiet_step ((first | (go_at_call 107; exact callsOver (dep0 _)) | (go_at_call 108; exact callsOver (arr0 _)))))
          refine wpQuiet_nil ?_
          intro w6 hb6
          have HS6 := Lib.hid (HS3.out.go hb6)
          have HZ6 := Lib.hid (HZ3.out.same (hb6.block _ HZ3.out.lt))
          have HR6 := Lib.hid (HR3.out.same (hb6.block _ HR3.out.lt))
          clear hb6 HS3 HZ3 HR3 y1 yl z2 zl
          go_wp2_with (go_at_call 106; refine (badd_ok L P Bb _ _ _ _ _ HS6.out.s).mono ?_; rintro e w7 ⟨⟨v7, rfl⟩, ht7, va, hs7, hva⟩)
          simp only [midQ, List.drop_succ_cons, List.drop_zero]
          repeat (go_big_quiet_step (fail))
          refine wpQuiet_nil ?_
          have HS7 := Lib.hid (HS6.out.tw ht7 hs7)
          have HVA := Lib.hid hva
          have HZ7 := Lib.hid (HZ6.out.same (ht7.block _ HZ6.out.lt hzB))
          have HR7 := Lib.hid (HR6.out.same (ht7.block _ HR6.out.lt hyB))
          clear ht7 hs7 hva HS6 HZ6 HR6
          have z3 := HZ7.out.cell 3
          have zl := HZ7.out.lt
          simp at z3
          go_wp2_with fail
          go_roundg 0
          case measure => omega
          case rel => exact ⟨HZ7.out, .inr ⟨rfl, rfl, va, HS7.out, HVA.out⟩⟩
        · have HF := Lib.hid (show Bp1 w L P Bb gf cf gr cr vo ve 0 (.int .i64 1) wr from .inr ⟨rfl, rfl, va, hs, hva⟩)
          clear hs hva
          go_wp2_with fail
          go_roundg 0
          case measure => omega
          case rel => exact HF.out
    · have HS := Lib.hid hs
      have HVA := Lib.hid hva
      have x8 := hs.s.x.cell 8
      have x9 := hs.s.x.cell 9
      have x10 := hs.s.x.cell 10
      have xl := hs.s.x.lt
      simp at x8 x9 x10
      clear hs hva
      go_wp2_with fail
      clear x8 x9 x10
      go_loopg [86] 0 (fun k v wr => Bp3 w L P Bb gf cf gr cr vo ve k v wr)
      case atStart => exact ⟨rfl, rfl, va, HS.out, HVA.out⟩
      case round =>
        obtain ⟨rfl, rfl, va, hs, hva⟩ := hrel
        have HS := Lib.hid hs
        have HVA := Lib.hid hva
        have x9 := hs.s.x.cell 9
        have xl := hs.s.x.lt
        simp at x9
        clear hs hva
        go_wp2_with fail
        clear x9
        go_loopg [121] 0 (fun k v wr => Bp3 w L P Bb gf cf gr cr vo ve k v wr)
        case atStart => exact ⟨rfl, rfl, va, HS.out, HVA.out⟩
        case round =>
          obtain ⟨rfl, rfl, va, hs, hva⟩ := hrel
          have HS := Lib.hid hs
          have HVA := Lib.hid hva
          have x10 := hs.s.x.cell 10
          have xl := hs.s.x.lt
          simp at x10
          clear hs hva
          go_wp2_with fail
          clear x10
          go_loopg [148] 0 (fun k v wr => Bp3 w L P Bb gf cf gr cr vo ve k v wr)
          case atStart => exact ⟨rfl, rfl, va, HS.out, HVA.out⟩
          case round =>
            obtain ⟨rfl, rfl, va, hs, hva⟩ := hrel
            have HS := Lib.hid hs
            have HVA := Lib.hid hva
            clear hs hva
            go_wp2_with fail
            go_end0
            exact ⟨⟨_, rfl⟩, va, HS.out, HVA.out⟩
end Go.Proofs.YtinjdcefagaaeaaGreatDoor
