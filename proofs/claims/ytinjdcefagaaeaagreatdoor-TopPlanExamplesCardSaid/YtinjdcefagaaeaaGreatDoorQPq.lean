import Derived.Test.YtinjdcefagaaeaaGreatDoorQPp
set_option linter.unusedVariables false
set_option linter.unusedSimpArgs false
namespace Go.Proofs.YtinjdcefagaaeaaGreatDoor
open Go.RowKit
/-! plan.Parse: the reader, declare's head, period -/
abbrev rdC (L : LyA) (p : Int) (v5 v6 v7 vd : Value) (b : Bool) (vw : Value) (e : Int) : Array Value := #[.slice (some ⟨L.st, 0, none⟩) 2 L.c1, .slice none 0 0, .slice (some ⟨L.se, 0, none⟩) 3 L.c3, .slice (some ⟨L.li, 0, none⟩) 2 L.c4, .int .i64 p, v5, v6, v7, .slice none 0 0, .slice none 0 0, .slice none 0 0, vd, .bool b, vw, .int .i64 e]
def PdL (w : World) (Rb : Nat) (L : LyA) (p : Int) (v5 v6 v7 vd : Value) (b : Bool) (ws : List Wd) (k : Nat) (v : Value) (wr : World) : Prop := ∃ (j : Nat) (v13 : Value), v = .int .i64 j ∧ j + k = ws.length ∧ Tw Rb w wr ∧ Blk wr Rb 102 (rdC L p v5 v6 v7 vd b v13 0) ∧ wr.ownsRow w.heap.size 9 1 v13 j ((ws.take j).map (fun x => .string x.tx))
theorem pd_step {w w2 wa : World} {Rb j j' : Nat} {L : LyA} {p : Int} {v5 v6 v7 vd : Value} {b : Bool} {v13 v' : Value} {cs cs' : List Value} {o : Obj} (ht : Tw Rb w w2) (hx : Blk w2 Rb 102 (rdC L p v5 v6 v7 vd b v13 0)) (ho : w2.ownsRow w.heap.size 9 1 v13 j cs) (hR : Rb < w.heap.size)
    (hg : (w2.drew.alloc o).grownBy wa v13.ownBlock) (hoa : wa.ownsRow w.heap.size 9 1 v' j' cs') :
    Blk wa Rb 102 (rdC L p v5 v6 v7 vd b v13 0) ∧ Tw Rb w (wa.setCell ⟨Rb, 13, none⟩ v') ∧ Blk (wa.setCell ⟨Rb, 13, none⟩ v') Rb 102 (rdC L p v5 v6 v7 vd b v' 0) ∧ (wa.setCell ⟨Rb, 13, none⟩ v').ownsRow w.heap.size 9 1 v' j' cs' := by
  have hob := own_block ho
  have hoab := own_block hoa
  have hs := hg.size
  have hts := ht.size
  simp at hs
  have key : ∀ k, k < w2.heap.size → v13.ownBlock ≠ some k → wa.heap[k]? = w2.heap[k]? := fun k hk hne => by
    rw [hg.block k (by simp; omega) (fun e => hne e.symm)]
    exact Below.heap_alloc _ _ _ hk
  have hxa : Blk wa Rb 102 (rdC L p v5 v6 v7 vd b v13 0) := hx.same (key Rb (by omega) (fun e => by have := (hob _ e).1; omega))
  have hta : Tw Rb w wa := ⟨hg.os.trans ht.os, hg.tape.trans ht.tape, hg.output.trans ht.output, by omega, fun k hk hne => (key k (by omega) (fun e => by have := (hob _ e).1; omega)).trans (ht.block k hk hne)⟩
  exact ⟨hxa, hta.tr (Tw.set Rb 13 wa v'), hxa.set_ 13 v', own_far hoa (fun e => by have h1 : w.heap.size ≤ Rb := (hoab _ e).1; omega)⟩
set_option maxRecDepth 100000 in
set_option maxHeartbeats 3200000 in
theorem dperiod_ok (Rb g c : Nat) (L : LyA) (p : Int) (v5 v6 v7 vd : Value) (w : World) (h : Blk w Rb 102 (rdC L p v5 v6 v7 vd false (.slice (some ⟨g, 0, none⟩) 2 c) 0)) (hc : Cs w g [.string ⟨#[112, 101, 114, 105, 111, 100]⟩, .string ⟨#[51, 48, 48]⟩]) :
    Calls Tryz.prog 74 #[.pointer (some ⟨Rb, 0, none⟩)] w fun e w' => (∃ v, e = .returned v) ∧ Tw Rb w w' ∧ Blk w' Rb 102 (rdC L 300 v5 v6 v7 vd true (.slice (some ⟨g, 0, none⟩) 2 c) 0) := by
  have H := Lib.hid h
  have x4 := h.cell 4
  have x12 := h.cell 12
  have x13 := h.cell 13
  have x14 := h.cell 14
  have f4 := h.frozen 4
  have f12 := h.frozen 12
  have xl := h.lt
  simp at x4 x12 x13 x14
  have HW := Lib.hid (show RdW w Rb g 2 c [⟨#[112, 101, 114, 105, 111, 100]⟩, ⟨#[51, 48, 48]⟩] from ⟨x13, hc, rfl⟩)
  clear h hc
  go_enter Tryz.func74, Tryz.ntmps74
  go_wp2_with fail
  refine (need_ok Rb _).mono ?_
  rintro e w1 ⟨⟨v1, rfl⟩, hw⟩
  subst hw
  go_wp2_with fail
  refine (rnum_ok Rb g 2 c 1 _ ⟨#[51, 48, 48]⟩ 300 _ HW.out rfl (by decide) (by decide)).mono ?_
  rintro e w2 ⟨rfl, hw⟩
  subst hw
  go_wp2_with fail
  go_end0
  exact ⟨⟨_, rfl⟩, (Tw.set Rb 4 _ _).tr (Tw.set Rb 12 _ _), (H.out.set_ 4 _).set_ 12 _⟩
set_option maxRecDepth 100000 in
set_option maxHeartbeats 12800000 in
theorem pdper_ok (Rb g c : Nat) (ws : List Wd) (L : LyA) (p : Int) (v5 v6 v7 vd vw : Value) (w : World) (h : Blk w Rb 102 (rdC L p v5 v6 v7 vd false vw 0)) (hg : Cs w g (ws.flatMap Wd.cells)) (hgR : g ≠ Rb) (ht : ws.map (fun x => Value.string x.tx) = [.string ⟨#[112, 101, 114, 105, 111, 100]⟩, .string ⟨#[51, 48, 48]⟩]) (hl : ws.length = 2) :
    Calls Tryz.prog 28 #[.pointer (some ⟨Rb, 0, none⟩), .slice (some ⟨g, 0, none⟩) 2 c] w fun e w' => e = .returned (.int .i64 0) ∧ Tw Rb w w' ∧ ∃ vw', Blk w' Rb 102 (rdC L 300 v5 v6 v7 vd true vw' 0) := by
  let b := false
  have H := Lib.hid h
  have HG := Lib.hid hg
  have HTX := Lib.hid ht
  have hxl := h.lt
  have hgl := hg.lt
  clear h hg ht
  obtain ⟨iT, b1, b2, b3, b4⟩ := info_parts infoStr
  have HIT := Lib.hid (And.intro b1 (And.intro b2 (And.intro b3 b4)))
  clear b1 b2 b3 b4
  have x13 := H.out.cell 13
  have x14 := H.out.cell 14
  have f13 := H.out.frozen 13
  have f14 := H.out.frozen 14
  simp at x13 x14
  go_enter Tryz.func28, Tryz.ntmps28
  go_upto_region 2 with fail
  refine world_gen (fun w1 => Tw Rb w w1 ∧ Blk w1 Rb 102 (rdC L p v5 v6 v7 vd b (.slice none 0 0) 0)) ⟨(Tw.set Rb 13 w _).tr (Tw.set Rb 14 _ _), (H.out.set_ 13 _).set_ 14 _⟩ ?_
  rintro w1 ⟨ht1, hx1⟩
  have HT1 := Lib.hid ht1
  have HX1 := Lib.hid hx1
  clear ht1 hx1 x13 x14 f13 f14
  go_wp2_with fail
  go_loopg [20] 2 (fun k v wr => PdL w Rb L p v5 v6 v7 vd b ws k v wr)
  case atStart => exact ⟨0, .slice none 0 0, rfl, by omega, HT1.out, HX1.out, World.ownsRow_nil _ _ _ _⟩
  case round =>
    obtain ⟨j, v13, rfl, hj, ht, hx, ho⟩ := hrel
    have HT := Lib.hid ht
    have HX := Lib.hid hx
    have HO := Lib.hid ho
    have Hj := Lib.hid hj
    clear ht hx ho hj HT1 HX1
    obtain ⟨A5, c5, rfl, _, _⟩ := own_slice HO.out
    by_cases hlt : j < ws.length
    · have hji : (j : Int) < 2 := by omega
      obtain ⟨d0, d1, d2⟩ := wd_at (HG.out.tw HT.out hgR) j hlt
      have dl := (HG.out.tw HT.out hgR).lt
      have HR := Lib.hid (ws_take ws j hlt)
      generalize hx : ws[j] = x at d0 d1 d2 HR
      clear hx
      go_upto_region 5 with fail
      refine world_gen (fun w2 => Tw Rb w w2 ∧ Blk w2 Rb 102 (rdC L p v5 v6 v7 vd b (.slice A5 j c5) 0) ∧ w2.ownsRow w.heap.size 9 1 (.slice A5 j c5) j ((ws.take j).map (fun x : Wd => Value.string x.tx)) ∧ Blk w2 wr.heap.size 98 #[.string x.tx, .int .i64 x.ln, .int .i64 x.cl] ∧ w.heap.size ≤ wr.heap.size) ⟨HT.out.tr (Tw.of ((Below.refl _ _).alloc (Nat.le_refl _) _)), HX.out.al _, HO.out.alloc _, (by repeat (first | (refine Blk.new' _ _ _ _ ?_; first | rfl | (simp <;> omega)) | refine Blk.al ?_ _ | refine Blk.dr ?_ | refine Blk.drN ?_ _ | refine Blk.far ?_ (by first | omega | (simp; omega)))), HT.out.size⟩ ?_
      rintro w2 ⟨ht2, hx2, ho2, hz2, hZw⟩
      have HT2 := Lib.hid ht2
      have HX2 := Lib.hid hx2
      have HO2 := Lib.hid ho2
      have z0 := hz2.cell 0
      have zl := hz2.lt
      have x13 := hx2.cell 13
      have xl := hx2.lt
      have hbz := ht2.size
      simp at z0 x13
      have hnS : (Value.slice A5 j c5).ownBlock ≠ some wr.heap.size := fun e => by have h1 := (own_block HO.out _ e).2; omega
      have hnR : (Value.slice A5 j c5).ownBlock ≠ some Rb := fun e => by have h1 := (own_block HO.out _ e).1; omega
      clear ht2 hx2 ho2 hz2 HT HX HO d0 d1 d2 dl
      generalize wr.heap.size = Z at *
      have hbd : Below w2.heap.size w2 (w2.drew.alloc (.cells #[.string x.tx] 9)) := (Below.refl _ w2).drew.alloc (Nat.le_refl _) _
      refine wp_region_cut 9 (by kernel_rfl) (by kernel_rfl) ?_
      simp only [dulled, dull, List.take_succ_cons, List.take_zero, List.drop_succ_cons, List.drop_zero, List.map_cons, List.map_nil, List.cons_append, List.nil_append]
      refine wpAny_of_held (S := fun W => W.cell? ⟨Rb, 13, none⟩ = some (.slice A5 j c5) ∧ W.cell? ⟨Z, 0, none⟩ = some (.string x.tx)) _ _ _ _ ?_
      change wpAnyH _ _ _ _ _ 12 _ _ (World.drew w2)
      have hHeld : (fun W => W.cell? ⟨Rb, 13, none⟩ = some (.slice A5 j c5) ∧ W.cell? ⟨Z, 0, none⟩ = some (.string x.tx)) (World.drew w2) := ⟨x13, z0⟩
      refine wpAnyH_take (i := 0) (oi := ⟨some _, _, _, _, _, _⟩) (v := ?_) rfl (by kernel_rfl) (by kernel_rfl) (by kernel_rfl) (fun _ _ _ h => h) (Or.inl ⟨by rfl, ?_⟩) (by assumption) ?_
      rotate_left
      · (intro w hSw; (try dsimp only at hSw); go_simp; try with_reducible rfl)
      simp only [Act.put, List.setIfInBounds_toArray, List.set_cons_zero, List.set_cons_succ]
      refine wpAnyH_take (i := 1) (oi := ⟨some _, _, _, _, _, _⟩) (v := ?_) rfl (by kernel_rfl) (by kernel_rfl) (by kernel_rfl) (fun _ _ _ h => h) (Or.inl ⟨by rfl, ?_⟩) (by assumption) ?_
      rotate_left
      · (intro w hSw; (try dsimp only at hSw); go_simp; try with_reducible rfl)
      simp only [Act.put, List.setIfInBounds_toArray, List.set_cons_zero, List.set_cons_succ]
      refine wpAnyH_take (i := 2) (oi := ⟨some _, _, _, _, _, _⟩) (v := ?_) rfl (by kernel_rfl) (by kernel_rfl) (by kernel_rfl) (fun _ _ _ h => h) (Or.inl ⟨by rfl, ?_⟩) (by assumption) ?_
      rotate_left
      · (intro w hSw; (try dsimp only at hSw); go_simp; try with_reducible rfl)
      simp only [Act.put, List.setIfInBounds_toArray, List.set_cons_zero, List.set_cons_succ]
      refine wpAnyH_take (i := 3) (oi := ⟨some _, _, _, _, _, _⟩) (v := ?_) rfl (by kernel_rfl) (by kernel_rfl) (by kernel_rfl) (fun _ _ _ h => h) (Or.inl ⟨by rfl, ?_⟩) (by assumption) ?_
      rotate_left
      · (intro w hSw; (try dsimp only at hSw); go_simp; try with_reducible rfl)
      simp only [Act.put, List.setIfInBounds_toArray, List.set_cons_zero, List.set_cons_succ]
      refine wpAnyH_take (i := 4) (oi := ⟨some _, _, _, _, _, _⟩) (v := ?_) rfl (by kernel_rfl) (by kernel_rfl) (by kernel_rfl) (fun _ _ _ h => h) (Or.inl ⟨by rfl, ?_⟩) (by assumption) ?_
      rotate_left
      · (intro w hSw; (try dsimp only at hSw); go_simp; try with_reducible rfl)
      simp only [Act.put, List.setIfInBounds_toArray, List.set_cons_zero, List.set_cons_succ]
      refine wpAnyH_take (i := 5) (oi := ⟨some _, _, _, _, _, _⟩) (v := ?_) rfl (by kernel_rfl) (by kernel_rfl) (by kernel_rfl) (fun _ _ _ h => h) (Or.inl ⟨by rfl, ?_⟩) (by assumption) ?_
      rotate_left
      · (intro w hSw; (try dsimp only at hSw); go_simp; try with_reducible rfl)
      simp only [Act.put, List.setIfInBounds_toArray, List.set_cons_zero, List.set_cons_succ]
      refine wpAnyH_take (i := 6) (oi := ⟨some _, _, _, _, _, _⟩) (v := ?_) rfl (by kernel_rfl) (by kernel_rfl) (by kernel_rfl) (fun _ _ _ h => h) (Or.inl ⟨by rfl, ?_⟩) (by assumption) ?_
      rotate_left
      · (intro w hSw; (try dsimp only at hSw); go_simp; try with_reducible rfl)
      simp only [Act.put, List.setIfInBounds_toArray, List.set_cons_zero, List.set_cons_succ]
      refine wpAnyH_ready (rs := [7]) (by kernel_rfl) (by simp) ?_
      refine AllReadyH.cons rfl (fun K hK => ?_) AllReadyH.nil
      go_simp
      refine hK.out _ _ ⟨cell_bel hbd x13, cell_bel hbd z0⟩ (fun hHeld => ?_)
      clear hK K
      try simp only [Act.put, List.setIfInBounds_toArray, List.set_cons_zero, List.set_cons_succ]
      refine wpAnyH_ready (rs := [8]) (by kernel_rfl) (by simp) ?_
      refine AllReadyH.cons (o := ⟨some _, _, _, _, _, _⟩) rfl (fun K hK => ?_) AllReadyH.nil
      refine step_append_any (by rfl) _ _ _ (by rfl) w.heap.size 9 _ _ 1 16 Tryz.underlying22 HIT.out.1 HIT.out.2.1 HIT.out.2.2.1 HIT.out.2.2.2 rfl (by omega) (.slice A5 j c5) j ((ws.take j).map (fun x : Wd => Value.string x.tx)) rfl ((show (w2.drew.alloc _).ownsRow _ _ _ _ _ _ from World.ownsRow.alloc HO2.out _)) (some ⟨w2.drew.heap.size, 0, none⟩) 1 1 (w2.drew.heap.size + 1) [.string x.tx] rfl (fun e => by cases e) (Rd.more (Rd.of_blk (cs := [.string x.tx]) (n := 1) (sz := 1) (by repeat (first | (refine Blk.new' _ _ _ _ ?_; first | rfl | (simp <;> omega)) | refine Blk.al ?_ _ | refine Blk.dr ?_ | refine Blk.drN ?_ _ | refine Blk.far ?_ (by first | omega | (simp; omega)))) rfl) (by simp)) ((List.all_eq_true (p := fun (u : Value) => u.oneCell')).1 (by rfl)) (by simp only [maxLen]; omega) (by omega) (by simp; try omega) ?_; intro va wa hoa hga hta; obtain ⟨Aa, ca, rfl, _, _⟩ := own_slice hoa
      have hgg : (w2.drew.alloc (.cells #[.string x.tx] 9)).grownBy wa (Value.slice A5 j c5).ownBlock := hga
      refine hK.out _ _ ⟨cell_gr (cell_bel hbd x13) hgg hnR, cell_gr (cell_bel hbd z0) hgg hnS⟩ (fun hHeld => ?_)
      clear hK K
      try simp only [Act.put, List.setIfInBounds_toArray, List.set_cons_zero, List.set_cons_succ]
      refine wpAnyH_ready (rs := [9]) (by kernel_rfl) (by simp) ?_
      refine AllReadyH.cons rfl (fun K hK => ?_) AllReadyH.nil
      go_simp
      refine hK.out _ _ hHeld (fun hHeld => ?_)
      clear hK K
      refine wpAnyH_ready (rs := [10]) (by kernel_rfl) (by simp) ?_
      refine AllReadyH.cons rfl (fun K hK => ?_) AllReadyH.nil
      go_simp
      refine hK.out _ _ hHeld (fun hHeld => ?_)
      clear hK K
      refine wpAnyH_ready (rs := [11]) (by kernel_rfl) (by simp) ?_
      refine AllReadyH.cons rfl (fun K hK => ?_) AllReadyH.nil
      go_simp
      refine hK.out _ _ hHeld (fun hHeld => ?_)
      clear hK K
      refine wpAnyH_done (by kernel_rfl) ?_ _
      simp only [cutQ, List.drop_succ_cons, List.drop_zero]
      have HN := Lib.hid (pd_step HT2.out HX2.out HO2.out hxl hgg (show wa.ownsRow w.heap.size 9 1 (.slice Aa (j + 1) ca) (j + 1) ((ws.take (j + 1)).map (fun x : Wd => Value.string x.tx)) by rw [HR.out]; exact hoa))
      have y13 : wa.cell? ⟨Rb, 13, none⟩ = some (.slice A5 j c5) := hHeld.1
      have fy13 := HN.out.1.frozen 13
      have yl := HN.out.1.lt
      clear hHeld hoa hga hta hbd hgg x13 xl z0 zl hnR hnS
      go_wp2_with fail
      go_roundg (2 - j - 1)
      case measure => have := Hj.out; omega
      case rel => exact ⟨j + 1, _, by first | rfl | go_num, by have := Hj.out; omega, HN.out.2⟩
    · obtain rfl : j = 2 := by have := Hj.out; omega
      obtain ⟨g5, c5', hv5, hc5, hg5, _⟩ := own_cs HO.out (by omega)
      obtain ⟨rfl, rfl⟩ : A5 = some ⟨g5, 0, none⟩ ∧ c5 = c5' := by simp at hv5; exact hv5
      rw [List.take_of_length_le (by omega), HTX.out] at hc5
      have HC5 := Lib.hid hc5
      clear hv5 hc5 HO HG HTX
      have x13 := HX.out.cell 13
      have xl := HX.out.lt
      simp at x13
      have q0 : wr.cell? ⟨g5, 0, none⟩ = some (.string ⟨#[112, 101, 114, 105, 111, 100]⟩) := HC5.out.c 0 _ rfl
      have ql := HC5.out.lt
      go_wp2_with fail
      refine (dperiod_ok Rb g5 c5 L p v5 v6 v7 vd _ HX.out HC5.out).mono ?_
      rintro e w3 ⟨⟨v3, rfl⟩, ht3, hx3⟩
      have HT3 := Lib.hid (HT.out.tr ht3)
      have HX3 := Lib.hid hx3
      have y14 := hx3.cell 14
      have yl := hx3.lt
      simp at y14
      clear ht3 hx3 HT HX x13 xl q0 ql
      go_wp2_with fail
      go_ret
      exact ⟨rfl, HT3.out, _, HX3.out⟩
/-- block g begins with these cells and can be written -/
def CB (w : World) (g : Nat) (t : TypeId) (cl : List Value) : Prop := ∃ cur : Array Value, Blk w g t cur ∧ ∀ (i : Nat) (u : Value), cl[i]? = some u → cur[i]? = some u
theorem CB.lt {w : World} {g : Nat} {t : TypeId} {cl : List Value} (h : CB w g t cl) : g < w.heap.size := by obtain ⟨cur, hb, _⟩ := h; exact hb.lt
theorem CB.cs {w : World} {g : Nat} {t : TypeId} {cl : List Value} (h : CB w g t cl) : Cs w g cl := by
  obtain ⟨cur, hb, hc⟩ := h
  exact ⟨hb.lt, fun i v hi => (hb.cell i).trans (hc i v hi)⟩
theorem CB.fz {w : World} {g : Nat} {t : TypeId} {cl : List Value} (h : CB w g t cl) (i : Nat) : w.frozen? ⟨g, i, none⟩ = false := by obtain ⟨cur, hb, _⟩ := h; exact hb.frozen i
theorem CB.tw {w w' : World} {g b : Nat} {t : TypeId} {cl : List Value} (h : CB w g t cl) (ht : Tw b w w') (hne : g ≠ b) : CB w' g t cl := by
  obtain ⟨cur, hb, hc⟩ := h
  exact ⟨cur, hb.same (ht.block _ hb.lt hne), hc⟩
theorem CB.go {w w' : World} {g : Nat} {t : TypeId} {cl : List Value} (h : CB w g t cl) (hb : Below w.heap.size w w') : CB w' g t cl := by
  obtain ⟨cur, hk, hc⟩ := h
  exact ⟨cur, hk.same (hb.block _ hk.lt), hc⟩
theorem CB.set {w : World} {g : Nat} {t : TypeId} {cl : List Value} (h : CB w g t cl) (i : Nat) (u : Value) : CB (w.setCell ⟨g, i, none⟩ u) g t (cl.set i u) := by
  obtain ⟨cur, hk, hc⟩ := h
  refine ⟨_, hk.set_ i u, fun j v hj => ?_⟩
  rw [List.getElem?_set] at hj
  rw [Array.getElem?_setIfInBounds]
  by_cases e : i = j
  · subst e
    rw [if_pos rfl] at hj ⊢
    by_cases hl : i < cl.length
    · rw [if_pos hl] at hj
      have h2 := hc i cl[i] (List.getElem?_eq_getElem hl)
      rw [if_pos (Array.getElem?_eq_some_iff.1 h2).1]
      exact hj
    · rw [if_neg hl] at hj
      cases hj
  · rw [if_neg e] at hj ⊢
    exact hc j v hj
theorem CB.own {w : World} {base n sz g c : Nat} {e : TypeId} {xs : List Value} (h : w.ownsRow base e sz (.slice (some ⟨g, 0, none⟩) n c) n xs) : CB w g e xs := by
  have hc : ∀ (i : Nat) (v : Value), xs[i]? = some v → w.cell? ⟨g, i, none⟩ = some v := fun i v hi => (h.cellAt i (by rw [← h.1]; exact (List.getElem?_eq_some_iff.1 hi).1)).trans hi
  rcases h.2 with ⟨h', h0⟩ | ⟨g', cap', cur, h', hb, hg, _⟩
  · cases h'
  · injection h' with h'
    injection h' with h'
    injection h' with h'
    subst h'
    have hk : Blk w g e cur := hg
    exact ⟨cur, hk, fun i v hi => (hk.cell i).symm.trans (hc i v hi)⟩
def PdOut (w : World) (Rb : Nat) (t : TypeId) (cl : List Value) (F : Value → Value → Array Value) (e : Ending) (w' : World) : Prop := e = .returned (.int .i64 0) ∧ Tw Rb w w' ∧ ∃ g' c' vw', w.heap.size ≤ g' ∧ CB w' g' t cl ∧ Blk w' Rb 102 (F (.slice (some ⟨g', 0, none⟩) 1 c') vw')
end Go.Proofs.YtinjdcefagaaeaaGreatDoor
namespace Go.Proofs.YtinjdcefagaaeaaGreatDoor
open Go.RowKit
/-! plan.Parse: stock -/
theorem infoPst : (Tryz.prog.info? 46).map (fun i => (i.zero, i.size, i.bytes)) = some (some (.agg #[.string ⟨#[]⟩, .int .i64 0, .int .i64 0, .int .i64 0, .int .i64 0]), 5, 48) := by kernel_rfl
abbrev kwPst : ByteArray := ⟨#[115, 116, 111, 99, 107]⟩
abbrev t5 : ByteArray := ⟨#[53]⟩
abbrev t500 : ByteArray := ⟨#[53, 48, 48]⟩
set_option maxRecDepth 100000 in
set_option maxHeartbeats 25600000 in
theorem pdstk_ok (Rb g c : Nat) (ws : List Wd) (L : LyA) (p : Int) (v6 v7 vd vw : Value) (b : Bool) (w : World) (h : Blk w Rb 102 (rdC L p (.slice none 0 0) v6 v7 vd b vw 0)) (hg : Cs w g (ws.flatMap Wd.cells)) (hgR : g ≠ Rb) (ht : ws.map (fun x => Value.string x.tx) = [kwPst, ⟨#[83]⟩, t5, tN20, t500, t500].map Value.string) (hl : ws.length = 6) :
    Calls Tryz.prog 28 #[.pointer (some ⟨Rb, 0, none⟩), .slice (some ⟨g, 0, none⟩) 6 c] w (PdOut w Rb 46 stkC.toList (fun v vw' => rdC L p v v6 v7 vd b vw' 0)) := by
  obtain ⟨v5, hv5⟩ : ∃ v : Value, v = .slice none 0 0 := ⟨_, rfl⟩
  rw [← hv5] at h
  have HV5 := Lib.hid hv5
  clear hv5
  obtain ⟨iS, b1, b2, b3, b4⟩ := info_parts infoPst
  have HIS := Lib.hid (And.intro b1 (And.intro b2 (And.intro b3 b4)))
  clear b1 b2 b3 b4
  have H := Lib.hid h
  have HG := Lib.hid hg
  have HTX := Lib.hid ht
  have hxl := h.lt
  have hgl := hg.lt
  clear h hg ht
  obtain ⟨iT, b1, b2, b3, b4⟩ := info_parts infoStr
  have HIT := Lib.hid (And.intro b1 (And.intro b2 (And.intro b3 b4)))
  clear b1 b2 b3 b4
  have x13 := H.out.cell 13
  have x14 := H.out.cell 14
  have f13 := H.out.frozen 13
  have f14 := H.out.frozen 14
  simp at x13 x14
  go_enter Tryz.func28, Tryz.ntmps28
  go_upto_region 2 with fail
  refine world_gen (fun w1 => Tw Rb w w1 ∧ Blk w1 Rb 102 (rdC L p v5 v6 v7 vd b (.slice none 0 0) 0)) ⟨(Tw.set Rb 13 w _).tr (Tw.set Rb 14 _ _), (H.out.set_ 13 _).set_ 14 _⟩ ?_
  rintro w1 ⟨ht1, hx1⟩
  have HT1 := Lib.hid ht1
  have HX1 := Lib.hid hx1
  clear ht1 hx1 x13 x14 f13 f14
  go_wp2_with fail
  go_loopg [20] 6 (fun k v wr => PdL w Rb L p v5 v6 v7 vd b ws k v wr)
  case atStart => exact ⟨0, .slice none 0 0, rfl, by omega, HT1.out, HX1.out, World.ownsRow_nil _ _ _ _⟩
  case round =>
    obtain ⟨j, v13, rfl, hj, ht, hx, ho⟩ := hrel
    have HT := Lib.hid ht
    have HX := Lib.hid hx
    have HO := Lib.hid ho
    have Hj := Lib.hid hj
    clear ht hx ho hj HT1 HX1
    obtain ⟨A5, c5, rfl, _, _⟩ := own_slice HO.out
    by_cases hlt : j < ws.length
    · have hji : (j : Int) < 6 := by omega
      obtain ⟨d0, d1, d2⟩ := wd_at (HG.out.tw HT.out hgR) j hlt
      have dl := (HG.out.tw HT.out hgR).lt
      have HR := Lib.hid (ws_take ws j hlt)
      generalize hx : ws[j] = x at d0 d1 d2 HR
      clear hx
      go_upto_region 5 with fail
      refine world_gen (fun w2 => Tw Rb w w2 ∧ Blk w2 Rb 102 (rdC L p v5 v6 v7 vd b (.slice A5 j c5) 0) ∧ w2.ownsRow w.heap.size 9 1 (.slice A5 j c5) j ((ws.take j).map (fun x : Wd => Value.string x.tx)) ∧ Blk w2 wr.heap.size 98 #[.string x.tx, .int .i64 x.ln, .int .i64 x.cl] ∧ w.heap.size ≤ wr.heap.size) ⟨HT.out.tr (Tw.of ((Below.refl _ _).alloc (Nat.le_refl _) _)), HX.out.al _, HO.out.alloc _, (by repeat (first | (refine Blk.new' _ _ _ _ ?_; first | rfl | (simp <;> omega)) | refine Blk.al ?_ _ | refine Blk.dr ?_ | refine Blk.drN ?_ _ | refine Blk.far ?_ (by first | omega | (simp; omega)))), HT.out.size⟩ ?_
      rintro w2 ⟨ht2, hx2, ho2, hz2, hZw⟩
      have HT2 := Lib.hid ht2
      have HX2 := Lib.hid hx2
      have HO2 := Lib.hid ho2
      have z0 := hz2.cell 0
      have zl := hz2.lt
      have x13 := hx2.cell 13
      have xl := hx2.lt
      have hbz := ht2.size
      simp at z0 x13
      have hnS : (Value.slice A5 j c5).ownBlock ≠ some wr.heap.size := fun e => by have h1 := (own_block HO.out _ e).2; omega
      have hnR : (Value.slice A5 j c5).ownBlock ≠ some Rb := fun e => by have h1 := (own_block HO.out _ e).1; omega
      clear ht2 hx2 ho2 hz2 HT HX HO d0 d1 d2 dl
      generalize wr.heap.size = Z at *
      have hbd : Below w2.heap.size w2 (w2.drew.alloc (.cells #[.string x.tx] 9)) := (Below.refl _ w2).drew.alloc (Nat.le_refl _) _
      refine wp_region_cut 9 (by kernel_rfl) (by kernel_rfl) ?_
      simp only [dulled, dull, List.take_succ_cons, List.take_zero, List.drop_succ_cons, List.drop_zero, List.map_cons, List.map_nil, List.cons_append, List.nil_append]
      refine wpAny_of_held (S := fun W => W.cell? ⟨Rb, 13, none⟩ = some (.slice A5 j c5) ∧ W.cell? ⟨Z, 0, none⟩ = some (.string x.tx)) _ _ _ _ ?_
      change wpAnyH _ _ _ _ _ 12 _ _ (World.drew w2)
      have hHeld : (fun W => W.cell? ⟨Rb, 13, none⟩ = some (.slice A5 j c5) ∧ W.cell? ⟨Z, 0, none⟩ = some (.string x.tx)) (World.drew w2) := ⟨x13, z0⟩
      refine wpAnyH_take (i := 0) (oi := ⟨some _, _, _, _, _, _⟩) (v := ?_) rfl (by kernel_rfl) (by kernel_rfl) (by kernel_rfl) (fun _ _ _ h => h) (Or.inl ⟨by rfl, ?_⟩) (by assumption) ?_
      rotate_left
      · (intro w hSw; (try dsimp only at hSw); go_simp; try with_reducible rfl)
      simp only [Act.put, List.setIfInBounds_toArray, List.set_cons_zero, List.set_cons_succ]
      refine wpAnyH_take (i := 1) (oi := ⟨some _, _, _, _, _, _⟩) (v := ?_) rfl (by kernel_rfl) (by kernel_rfl) (by kernel_rfl) (fun _ _ _ h => h) (Or.inl ⟨by rfl, ?_⟩) (by assumption) ?_
      rotate_left
      · (intro w hSw; (try dsimp only at hSw); go_simp; try with_reducible rfl)
      simp only [Act.put, List.setIfInBounds_toArray, List.set_cons_zero, List.set_cons_succ]
      refine wpAnyH_take (i := 2) (oi := ⟨some _, _, _, _, _, _⟩) (v := ?_) rfl (by kernel_rfl) (by kernel_rfl) (by kernel_rfl) (fun _ _ _ h => h) (Or.inl ⟨by rfl, ?_⟩) (by assumption) ?_
      rotate_left
      · (intro w hSw; (try dsimp only at hSw); go_simp; try with_reducible rfl)
      simp only [Act.put, List.setIfInBounds_toArray, List.set_cons_zero, List.set_cons_succ]
      refine wpAnyH_take (i := 3) (oi := ⟨some _, _, _, _, _, _⟩) (v := ?_) rfl (by kernel_rfl) (by kernel_rfl) (by kernel_rfl) (fun _ _ _ h => h) (Or.inl ⟨by rfl, ?_⟩) (by assumption) ?_
      rotate_left
      · (intro w hSw; (try dsimp only at hSw); go_simp; try with_reducible rfl)
      simp only [Act.put, List.setIfInBounds_toArray, List.set_cons_zero, List.set_cons_succ]
      refine wpAnyH_take (i := 4) (oi := ⟨some _, _, _, _, _, _⟩) (v := ?_) rfl (by kernel_rfl) (by kernel_rfl) (by kernel_rfl) (fun _ _ _ h => h) (Or.inl ⟨by rfl, ?_⟩) (by assumption) ?_
      rotate_left
      · (intro w hSw; (try dsimp only at hSw); go_simp; try with_reducible rfl)
      simp only [Act.put, List.setIfInBounds_toArray, List.set_cons_zero, List.set_cons_succ]
      refine wpAnyH_take (i := 5) (oi := ⟨some _, _, _, _, _, _⟩) (v := ?_) rfl (by kernel_rfl) (by kernel_rfl) (by kernel_rfl) (fun _ _ _ h => h) (Or.inl ⟨by rfl, ?_⟩) (by assumption) ?_
      rotate_left
      · (intro w hSw; (try dsimp only at hSw); go_simp; try with_reducible rfl)
      simp only [Act.put, List.setIfInBounds_toArray, List.set_cons_zero, List.set_cons_succ]
      refine wpAnyH_take (i := 6) (oi := ⟨some _, _, _, _, _, _⟩) (v := ?_) rfl (by kernel_rfl) (by kernel_rfl) (by kernel_rfl) (fun _ _ _ h => h) (Or.inl ⟨by rfl, ?_⟩) (by assumption) ?_
      rotate_left
      · (intro w hSw; (try dsimp only at hSw); go_simp; try with_reducible rfl)
      simp only [Act.put, List.setIfInBounds_toArray, List.set_cons_zero, List.set_cons_succ]
      refine wpAnyH_ready (rs := [7]) (by kernel_rfl) (by simp) ?_
      refine AllReadyH.cons rfl (fun K hK => ?_) AllReadyH.nil
      go_simp
      refine hK.out _ _ ⟨cell_bel hbd x13, cell_bel hbd z0⟩ (fun hHeld => ?_)
      clear hK K
      try simp only [Act.put, List.setIfInBounds_toArray, List.set_cons_zero, List.set_cons_succ]
      refine wpAnyH_ready (rs := [8]) (by kernel_rfl) (by simp) ?_
      refine AllReadyH.cons (o := ⟨some _, _, _, _, _, _⟩) rfl (fun K hK => ?_) AllReadyH.nil
      refine step_append_any (by rfl) _ _ _ (by rfl) w.heap.size 9 _ _ 1 16 Tryz.underlying22 HIT.out.1 HIT.out.2.1 HIT.out.2.2.1 HIT.out.2.2.2 rfl (by omega) (.slice A5 j c5) j ((ws.take j).map (fun x : Wd => Value.string x.tx)) rfl ((show (w2.drew.alloc _).ownsRow _ _ _ _ _ _ from World.ownsRow.alloc HO2.out _)) (some ⟨w2.drew.heap.size, 0, none⟩) 1 1 (w2.drew.heap.size + 1) [.string x.tx] rfl (fun e => by cases e) (Rd.more (Rd.of_blk (cs := [.string x.tx]) (n := 1) (sz := 1) (by repeat (first | (refine Blk.new' _ _ _ _ ?_; first | rfl | (simp <;> omega)) | refine Blk.al ?_ _ | refine Blk.dr ?_ | refine Blk.drN ?_ _ | refine Blk.far ?_ (by first | omega | (simp; omega)))) rfl) (by simp)) ((List.all_eq_true (p := fun (u : Value) => u.oneCell')).1 (by rfl)) (by simp only [maxLen]; omega) (by omega) (by simp; try omega) ?_; intro va wa hoa hga hta; obtain ⟨Aa, ca, rfl, _, _⟩ := own_slice hoa
      have hgg : (w2.drew.alloc (.cells #[.string x.tx] 9)).grownBy wa (Value.slice A5 j c5).ownBlock := hga
      refine hK.out _ _ ⟨cell_gr (cell_bel hbd x13) hgg hnR, cell_gr (cell_bel hbd z0) hgg hnS⟩ (fun hHeld => ?_)
      clear hK K
      try simp only [Act.put, List.setIfInBounds_toArray, List.set_cons_zero, List.set_cons_succ]
      refine wpAnyH_ready (rs := [9]) (by kernel_rfl) (by simp) ?_
      refine AllReadyH.cons rfl (fun K hK => ?_) AllReadyH.nil
      go_simp
      refine hK.out _ _ hHeld (fun hHeld => ?_)
      clear hK K
      refine wpAnyH_ready (rs := [10]) (by kernel_rfl) (by simp) ?_
      refine AllReadyH.cons rfl (fun K hK => ?_) AllReadyH.nil
      go_simp
      refine hK.out _ _ hHeld (fun hHeld => ?_)
      clear hK K
      refine wpAnyH_ready (rs := [11]) (by kernel_rfl) (by simp) ?_
      refine AllReadyH.cons rfl (fun K hK => ?_) AllReadyH.nil
      go_simp
      refine hK.out _ _ hHeld (fun hHeld => ?_)
      clear hK K
      refine wpAnyH_done (by kernel_rfl) ?_ _
      simp only [cutQ, List.drop_succ_cons, List.drop_zero]
      have HN := Lib.hid (pd_step HT2.out HX2.out HO2.out hxl hgg (show wa.ownsRow w.heap.size 9 1 (.slice Aa (j + 1) ca) (j + 1) ((ws.take (j + 1)).map (fun x : Wd => Value.string x.tx)) by rw [HR.out]; exact hoa))
      have y13 : wa.cell? ⟨Rb, 13, none⟩ = some (.slice A5 j c5) := hHeld.1
      have fy13 := HN.out.1.frozen 13
      have yl := HN.out.1.lt
      clear hHeld hoa hga hta hbd hgg x13 xl z0 zl hnR hnS
      go_wp2_with fail
      go_roundg (6 - j - 1)
      case measure => have := Hj.out; omega
      case rel => exact ⟨j + 1, _, by first | rfl | go_num, by have := Hj.out; omega, HN.out.2⟩
    · obtain rfl : j = 6 := by have := Hj.out; omega
      obtain ⟨g5, c5', hv5, hc5, hg5, _⟩ := own_cs HO.out (by omega)
      obtain ⟨rfl, rfl⟩ : A5 = some ⟨g5, 0, none⟩ ∧ c5 = c5' := by simp at hv5; exact hv5
      rw [List.take_of_length_le (by omega), HTX.out] at hc5
      have HC5 := Lib.hid hc5
      clear hv5 hc5 HO HG HTX
      have hv := HV5.out
      subst hv
      have x5 := HX.out.cell 5
      have x13 := HX.out.cell 13
      have xl := HX.out.lt
      simp at x5 x13
      have q0 : wr.cell? ⟨g5, 0, none⟩ = some (.string kwPst) := HC5.out.c 0 _ rfl
      have ql := HC5.out.lt
      have HRW := Lib.hid (show RdW wr Rb g5 6 c5 [kwPst, ⟨#[83]⟩, t5, tN20, t500, t500] from ⟨x13, HC5.out, rfl⟩)
      go_wp2_with fail
      refine (need_ok Rb _).mono ?_
      rintro e wn ⟨⟨vn, rfl⟩, hwn⟩
      rw [hwn]
      clear hwn wn
      go_upto_region 14 with fail
      have hbd : Below wr.heap.size wr (wr.drew.alloc (.cells stkC 46)) := (Below.refl _ wr).drew.alloc (Nat.le_refl _) _
      clear q0 ql
      refine wp_region_cut 19 (by kernel_rfl) (by kernel_rfl) ?_
      simp only [dulled, dull, List.take_succ_cons, List.take_zero, List.drop_succ_cons, List.drop_zero, List.map_cons, List.map_nil, List.cons_append, List.nil_append]
      refine wpAny_of_held (S := fun W => W.cell? ⟨Rb, 5, none⟩ = some (.slice none 0 0) ∧ RdW W Rb g5 6 c5 [kwPst, ⟨#[83]⟩, t5, tN20, t500, t500]) _ _ _ _ ?_
      change wpAnyH _ _ _ _ _ 23 _ _ (World.drew wr)
      have hHeld : (fun W => W.cell? ⟨Rb, 5, none⟩ = some (.slice none 0 0) ∧ RdW W Rb g5 6 c5 [kwPst, ⟨#[83]⟩, t5, tN20, t500, t500]) (World.drew wr) := ⟨x5, HRW.out.go (Below.refl _ _).drew⟩
      refine wpAnyH_take (i := 0) (oi := ⟨some _, _, _, _, _, _⟩) (v := ?_) rfl (by kernel_rfl) (by kernel_rfl) (by kernel_rfl) (fun _ _ _ h => h) (Or.inl ⟨by rfl, ?_⟩) (by assumption) ?_
      rotate_left
      · (intro w hSw; (try dsimp only at hSw); go_simp; try with_reducible rfl)
      simp only [Act.put, List.setIfInBounds_toArray, List.set_cons_zero, List.set_cons_succ]
      refine wpAnyH_take (i := 1) (oi := ⟨some _, _, _, _, _, _⟩) (v := ?_) rfl (by kernel_rfl) (by kernel_rfl) (by kernel_rfl) (fun _ _ _ h => h) (Or.inl ⟨by rfl, ?_⟩) (by assumption) ?_
      rotate_left
      · (intro w hSw; (try dsimp only at hSw); go_simp; try with_reducible rfl)
      simp only [Act.put, List.setIfInBounds_toArray, List.set_cons_zero, List.set_cons_succ]
      refine wpAnyH_take (i := 2) (oi := ⟨some _, _, _, _, _, _⟩) (v := ?_) rfl (by kernel_rfl) (by kernel_rfl) (by kernel_rfl) (fun _ _ _ h => h) (Or.inl ⟨by rfl, ?_⟩) (by assumption) ?_
      rotate_left
      · (intro w hSw; (try dsimp only at hSw); go_simp; try with_reducible rfl)
      simp only [Act.put, List.setIfInBounds_toArray, List.set_cons_zero, List.set_cons_succ]
      refine wpAnyH_take (i := 3) (oi := ⟨some _, _, _, _, _, _⟩) (v := ?_) rfl (by kernel_rfl) (by kernel_rfl) (by kernel_rfl) (fun _ _ _ h => h) (Or.inl ⟨by rfl, ?_⟩) (by assumption) ?_
      rotate_left
      · (intro w hSw; (try dsimp only at hSw); go_simp; try with_reducible rfl)
      simp only [Act.put, List.setIfInBounds_toArray, List.set_cons_zero, List.set_cons_succ]
      refine wpAnyH_take (i := 4) (oi := ⟨some _, _, _, _, _, _⟩) (v := ?_) rfl (by kernel_rfl) (by kernel_rfl) (by kernel_rfl) (fun _ _ _ h => h) (Or.inl ⟨by rfl, ?_⟩) (by assumption) ?_
      rotate_left
      · (intro w hSw; (try dsimp only at hSw); go_simp; try with_reducible rfl)
      simp only [Act.put, List.setIfInBounds_toArray, List.set_cons_zero, List.set_cons_succ]
      refine wpAnyH_take (i := 5) (oi := ⟨some _, _, _, _, _, _⟩) (v := ?_) rfl (by kernel_rfl) (by kernel_rfl) (by kernel_rfl) (fun _ _ _ h => h) (Or.inl ⟨by rfl, ?_⟩) (by assumption) ?_
      rotate_left
      · (intro w hSw; (try dsimp only at hSw); go_simp; try with_reducible rfl)
      simp only [Act.put, List.setIfInBounds_toArray, List.set_cons_zero, List.set_cons_succ]
      refine wpAnyH_take (i := 6) (oi := ⟨some _, _, _, _, _, _⟩) (v := ?_) rfl (by kernel_rfl) (by kernel_rfl) (by kernel_rfl) (fun _ _ _ h => h) (Or.inl ⟨by rfl, ?_⟩) (by assumption) ?_
      rotate_left
      · (intro w hSw; (try dsimp only at hSw); go_simp; try with_reducible rfl)
      simp only [Act.put, List.setIfInBounds_toArray, List.set_cons_zero, List.set_cons_succ]
      refine wpAnyH_take (i := 8) (oi := ⟨some _, _, _, _, _, _⟩) (v := ?_) rfl (by kernel_rfl) (by kernel_rfl) (by kernel_rfl) (fun _ _ _ h => h) (Or.inl ⟨by rfl, ?_⟩) (by assumption) ?_
      rotate_left
      · (intro w hSw; (try dsimp only at hSw); go_simp; try with_reducible rfl)
      simp only [Act.put, List.setIfInBounds_toArray, List.set_cons_zero, List.set_cons_succ]
      refine wpAnyH_take (i := 10) (oi := ⟨some _, _, _, _, _, _⟩) (v := ?_) rfl (by kernel_rfl) (by kernel_rfl) (by kernel_rfl) (fun _ _ _ h => h) (Or.inl ⟨by rfl, ?_⟩) (by assumption) ?_
      rotate_left
      · (intro w hSw; (try dsimp only at hSw); go_simp; try with_reducible rfl)
      simp only [Act.put, List.setIfInBounds_toArray, List.set_cons_zero, List.set_cons_succ]
      refine wpAnyH_take (i := 12) (oi := ⟨some _, _, _, _, _, _⟩) (v := ?_) rfl (by kernel_rfl) (by kernel_rfl) (by kernel_rfl) (fun _ _ _ h => h) (Or.inl ⟨by rfl, ?_⟩) (by assumption) ?_
      rotate_left
      · (intro w hSw; (try dsimp only at hSw); go_simp; try with_reducible rfl)
      simp only [Act.put, List.setIfInBounds_toArray, List.set_cons_zero, List.set_cons_succ]
      refine wpAnyH_take (i := 14) (oi := ⟨some _, _, _, _, _, _⟩) (v := ?_) rfl (by kernel_rfl) (by kernel_rfl) (by kernel_rfl) (fun _ _ _ h => h) (Or.inl ⟨by rfl, ?_⟩) (by assumption) ?_
      rotate_left
      · (intro w hSw; (try dsimp only at hSw); go_simp; try with_reducible rfl)
      simp only [Act.put, List.setIfInBounds_toArray, List.set_cons_zero, List.set_cons_succ]
      refine wpAnyH_ready (rs := [7]) (by kernel_rfl) (by simp) ?_
      refine AllReadyH.cons rfl (fun K hK => ?_) AllReadyH.nil
      go_simp
      go_at_call 76
      refine (word_ok Rb g5 6 c5 1 _ ⟨#[83]⟩ _ hHeld.2 rfl).mono ?_
      rintro e wc ⟨rfl, hwc⟩
      subst hwc
      refine hK.out _ _ hHeld (fun hHeld => ?_)
      clear hK K
      try simp only [Act.put, List.setIfInBounds_toArray, List.set_cons_zero, List.set_cons_succ]
      refine wpAnyH_ready (rs := [9]) (by kernel_rfl) (by simp) ?_
      refine AllReadyH.cons rfl (fun K hK => ?_) AllReadyH.nil
      go_simp
      go_at_call 77
      refine (rnum_ok Rb g5 6 c5 2 _ t5 5 _ hHeld.2 rfl (by decide) (by decide)).mono ?_
      rintro e wc ⟨rfl, hwc⟩
      subst hwc
      refine hK.out _ _ hHeld (fun hHeld => ?_)
      clear hK K
      try simp only [Act.put, List.setIfInBounds_toArray, List.set_cons_zero, List.set_cons_succ]
      refine wpAnyH_ready (rs := [11]) (by kernel_rfl) (by simp) ?_
      refine AllReadyH.cons rfl (fun K hK => ?_) AllReadyH.nil
      go_simp
      go_at_call 77
      refine (rnum_ok Rb g5 6 c5 3 _ tN20 20000 _ hHeld.2 rfl (by decide) (by decide)).mono ?_
      rintro e wc ⟨rfl, hwc⟩
      subst hwc
      refine hK.out _ _ hHeld (fun hHeld => ?_)
      clear hK K
      try simp only [Act.put, List.setIfInBounds_toArray, List.set_cons_zero, List.set_cons_succ]
      refine wpAnyH_ready (rs := [13]) (by kernel_rfl) (by simp) ?_
      refine AllReadyH.cons rfl (fun K hK => ?_) AllReadyH.nil
      go_simp
      go_at_call 77
      refine (rnum_ok Rb g5 6 c5 4 _ t500 500 _ hHeld.2 rfl (by decide) (by decide)).mono ?_
      rintro e wc ⟨rfl, hwc⟩
      subst hwc
      refine hK.out _ _ hHeld (fun hHeld => ?_)
      clear hK K
      try simp only [Act.put, List.setIfInBounds_toArray, List.set_cons_zero, List.set_cons_succ]
      refine wpAnyH_ready (rs := [15]) (by kernel_rfl) (by simp) ?_
      refine AllReadyH.cons rfl (fun K hK => ?_) AllReadyH.nil
      go_simp
      go_at_call 77
      refine (rnum_ok Rb g5 6 c5 5 _ t500 500 _ hHeld.2 rfl (by decide) (by decide)).mono ?_
      rintro e wc ⟨rfl, hwc⟩
      subst hwc
      refine hK.out _ _ hHeld (fun hHeld => ?_)
      clear hK K
      try simp only [Act.put, List.setIfInBounds_toArray, List.set_cons_zero, List.set_cons_succ]
      refine wpAnyH_take (i := 16) (oi := ⟨some _, _, _, _, _, _⟩) (v := ?_) rfl (by kernel_rfl) (by kernel_rfl) (by kernel_rfl) (fun _ _ _ h => h) (Or.inl ⟨by rfl, ?_⟩) (by assumption) ?_
      rotate_left
      · (intro w hSw; (try dsimp only at hSw); go_simp; try with_reducible rfl)
      simp only [Act.put, List.setIfInBounds_toArray, List.set_cons_zero, List.set_cons_succ]
      refine wpAnyH_ready (rs := [17]) (by kernel_rfl) (by simp) ?_
      refine AllReadyH.cons rfl (fun K hK => ?_) AllReadyH.nil
      go_simp
      refine hK.out _ _ ⟨cell_bel hbd x5, HRW.out.go hbd⟩ (fun hHeld => ?_)
      clear hK K
      try simp only [Act.put, List.setIfInBounds_toArray, List.set_cons_zero, List.set_cons_succ]
      refine wpAnyH_ready (rs := [18]) (by kernel_rfl) (by simp) ?_
      refine AllReadyH.cons (o := ⟨some _, _, _, _, _, _⟩) rfl (fun K hK => ?_) AllReadyH.nil
      refine step_append_any (by rfl) _ _ _ (by rfl) wr.heap.size 46 _ _ 5 48 Tryz.underlying27 HIS.out.1 HIS.out.2.1 HIS.out.2.2.1 HIS.out.2.2.2 rfl (by omega) (.slice none 0 0) 0 ([]) rfl (World.ownsRow_nil _ _ _ _) (some ⟨wr.drew.heap.size, 0, none⟩) 1 1 (wr.drew.heap.size + 1) stkC.toList rfl (fun e => by cases e) (Rd.more (Rd.of_blk (cs := stkC.toList) (n := 1) (sz := 5) (by repeat (first | (refine Blk.new' _ _ _ _ ?_; first | rfl | (simp <;> omega)) | refine Blk.al ?_ _ | refine Blk.dr ?_ | refine Blk.drN ?_ _ | refine Blk.far ?_ (by first | omega | (simp; omega)))) rfl) (by simp)) ((List.all_eq_true (p := fun (u : Value) => u.oneCell')).1 (by rfl)) (by simp only [maxLen]; omega) (by omega) (by simp; try omega) ?_; intro va wa hoa hga hta; obtain ⟨ga, ca, rfl, hca, hgA, _⟩ := own_cs hoa (by omega)
      have hba : Below wr.heap.size wr wa := hbd.trans (Below.mono (bel_grow hga) (by simp))
      refine hK.out _ _ ⟨cell_bel hba x5, HRW.out.go hba⟩ (fun hHeld => ?_)
      clear hK K
      try simp only [Act.put, List.setIfInBounds_toArray, List.set_cons_zero, List.set_cons_succ]
      refine wpAnyH_ready (rs := [19]) (by kernel_rfl) (by simp) ?_
      refine AllReadyH.cons rfl (fun K hK => ?_) AllReadyH.nil
      go_simp
      refine hK.out _ _ hHeld (fun hHeld => ?_)
      clear hK K
      refine wpAnyH_ready (rs := [20]) (by kernel_rfl) (by simp) ?_
      refine AllReadyH.cons rfl (fun K hK => ?_) AllReadyH.nil
      go_simp
      refine hK.out _ _ hHeld (fun hHeld => ?_)
      clear hK K
      refine wpAnyH_ready (rs := [21]) (by kernel_rfl) (by simp) ?_
      refine AllReadyH.cons rfl (fun K hK => ?_) AllReadyH.nil
      go_simp
      refine hK.out _ _ hHeld (fun hHeld => ?_)
      clear hK K
      refine wpAnyH_ready (rs := [22]) (by kernel_rfl) (by simp) ?_
      refine AllReadyH.cons rfl (fun K hK => ?_) AllReadyH.nil
      go_simp
      refine hK.out _ _ hHeld (fun hHeld => ?_)
      clear hK K
      refine wpAnyH_done (by kernel_rfl) ?_ _
      simp only [cutQ, List.drop_succ_cons, List.drop_zero]
      have hba : Below wr.heap.size wr wa := hbd.trans (Below.mono (bel_grow hga) (by simp))
      have HXA := Lib.hid (HX.out.same (hba.block _ HX.out.lt))
      have HTA := Lib.hid (HT.out.tr (Tw.of hba))
      have hgaR : ga ≠ Rb := by have := HX.out.lt; omega
      have HCA := Lib.hid ((CB.own hoa).tw (Tw.set Rb (5) wa (.slice (some ⟨ga, 0, none⟩) 1 ca)) hgaR)
      have hgw : w.heap.size ≤ ga := by have := HT.out.size; omega
      have y5 := HXA.out.cell 5
      have fy5 := HXA.out.frozen 5
      have y14 := HXA.out.cell 14
      have yl := HXA.out.lt
      simp at y5 y14
      clear hHeld hoa hga hta hca hba hbd HX HT x5 x13 xl
      go_wp2_with fail
      go_ret
      exact ⟨rfl, HTA.out.tr (Tw.set Rb (5) _ _), ga, ca, _, hgw, HCA.out, HXA.out.set_ (5) _⟩
end Go.Proofs.YtinjdcefagaaeaaGreatDoor
