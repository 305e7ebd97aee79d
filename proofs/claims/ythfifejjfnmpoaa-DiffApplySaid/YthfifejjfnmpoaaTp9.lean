import Derived.Test.YthfifejjfnmpoaaTp8
import Derived.Test.YthfifejjfnmpoaaCut
namespace Go.Proofs.Ythfifejjfnmpoaa
open Go.RowKit
section
variable {w : World} {b : Nat} {t : TypeId} {a0 a1 a2 a3 a4 a5 a6 a7 a8 u0 u1 u2 u3 u4 u5 u6 u7 u8 : Value}
theorem Blk.st18 (h : Blk w b t #[a0, a1, a2, a3, a4, a5, a6, a7, a8]) : Blk ((((((((w.setCell ⟨b, 1, none⟩ u1).setCell ⟨b, 2, none⟩ u2).setCell ⟨b, 3, none⟩ u3).setCell ⟨b, 4, none⟩ u4).setCell ⟨b, 5, none⟩ u5).setCell ⟨b, 6, none⟩ u6).setCell ⟨b, 7, none⟩ u7).setCell ⟨b, 8, none⟩ u8) b t #[a0, u1, u2, u3, u4, u5, u6, u7, u8] := by
  simpa using (((((((h.set_ 1 u1).set_ 2 u2).set_ 3 u3).set_ 4 u4).set_ 5 u5).set_ 6 u6).set_ 7 u7).set_ 8 u8
theorem Blk.st9 (h : Blk w b t #[a0, a1, a2, a3, a4, a5, a6, a7, a8]) : Blk (((((((((w.setCell ⟨b, 0, none⟩ u0).setCell ⟨b, 1, none⟩ u1).setCell ⟨b, 2, none⟩ u2).setCell ⟨b, 3, none⟩ u3).setCell ⟨b, 4, none⟩ u4).setCell ⟨b, 5, none⟩ u5).setCell ⟨b, 6, none⟩ u6).setCell ⟨b, 7, none⟩ u7).setCell ⟨b, 8, none⟩ u8) b t #[u0, u1, u2, u3, u4, u5, u6, u7, u8] := by
  simpa using ((((((((h.set_ 0 u0).set_ 1 u1).set_ 2 u2).set_ 3 u3).set_ 4 u4).set_ 5 u5).set_ 6 u6).set_ 7 u7).set_ 8 u8
theorem Blk.far8 {g : Nat} (h : Blk w g t #[a0, a1, a2, a3, a4, a5, a6, a7, a8]) (hne : b ≠ g) : Blk ((((((((w.setCell ⟨b, 1, none⟩ u1).setCell ⟨b, 2, none⟩ u2).setCell ⟨b, 3, none⟩ u3).setCell ⟨b, 4, none⟩ u4).setCell ⟨b, 5, none⟩ u5).setCell ⟨b, 6, none⟩ u6).setCell ⟨b, 7, none⟩ u7).setCell ⟨b, 8, none⟩ u8) g t #[a0, a1, a2, a3, a4, a5, a6, a7, a8] :=
  (((((((h.far hne).far hne).far hne).far hne).far hne).far hne).far hne).far hne
theorem Blk.kst18 {B : Nat} (h : Blk w b t #[a0, a1, a2, a3, a4, a5, a6, a7, a8]) (hne : t ≠ 3) (hB : B ≤ b) : Kp B w ((((((((w.setCell ⟨b, 1, none⟩ u1).setCell ⟨b, 2, none⟩ u2).setCell ⟨b, 3, none⟩ u3).setCell ⟨b, 4, none⟩ u4).setCell ⟨b, 5, none⟩ u5).setCell ⟨b, 6, none⟩ u6).setCell ⟨b, 7, none⟩ u7).setCell ⟨b, 8, none⟩ u8) :=
  ((((((((Kp.set h hne hB).trans (Kp.set (h.set_ 1 u1) hne hB)).trans (Kp.set ((h.set_ 1 u1).set_ 2 u2) hne hB)).trans (Kp.set (((h.set_ 1 u1).set_ 2 u2).set_ 3 u3) hne hB)).trans (Kp.set ((((h.set_ 1 u1).set_ 2 u2).set_ 3 u3).set_ 4 u4) hne hB)).trans (Kp.set (((((h.set_ 1 u1).set_ 2 u2).set_ 3 u3).set_ 4 u4).set_ 5 u5) hne hB)).trans (Kp.set ((((((h.set_ 1 u1).set_ 2 u2).set_ 3 u3).set_ 4 u4).set_ 5 u5).set_ 6 u6) hne hB)).trans (Kp.set (((((((h.set_ 1 u1).set_ 2 u2).set_ 3 u3).set_ 4 u4).set_ 5 u5).set_ 6 u6).set_ 7 u7) hne hB))
theorem Blk.kst9 {B : Nat} (h : Blk w b t #[a0, a1, a2, a3, a4, a5, a6, a7, a8]) (hne : t ≠ 3) (hB : B ≤ b) : Kp B w (((((((((w.setCell ⟨b, 0, none⟩ u0).setCell ⟨b, 1, none⟩ u1).setCell ⟨b, 2, none⟩ u2).setCell ⟨b, 3, none⟩ u3).setCell ⟨b, 4, none⟩ u4).setCell ⟨b, 5, none⟩ u5).setCell ⟨b, 6, none⟩ u6).setCell ⟨b, 7, none⟩ u7).setCell ⟨b, 8, none⟩ u8) :=
  (((((((((Kp.set h hne hB).trans (Kp.set (h.set_ 0 u0) hne hB)).trans (Kp.set ((h.set_ 0 u0).set_ 1 u1) hne hB)).trans (Kp.set (((h.set_ 0 u0).set_ 1 u1).set_ 2 u2) hne hB)).trans (Kp.set ((((h.set_ 0 u0).set_ 1 u1).set_ 2 u2).set_ 3 u3) hne hB)).trans (Kp.set (((((h.set_ 0 u0).set_ 1 u1).set_ 2 u2).set_ 3 u3).set_ 4 u4) hne hB)).trans (Kp.set ((((((h.set_ 0 u0).set_ 1 u1).set_ 2 u2).set_ 3 u3).set_ 4 u4).set_ 5 u5) hne hB)).trans (Kp.set (((((((h.set_ 0 u0).set_ 1 u1).set_ 2 u2).set_ 3 u3).set_ 4 u4).set_ 5 u5).set_ 6 u6) hne hB)).trans (Kp.set ((((((((h.set_ 0 u0).set_ 1 u1).set_ 2 u2).set_ 3 u3).set_ 4 u4).set_ 5 u5).set_ 6 u6).set_ 7 u7) hne hB))
end
def CeOut (e : CE) (w : World) (r : Ending) (w' : World) : Prop :=
  ∃ e' : CE, r = .returned (.agg #[.int .i64 (e').k, .int .i64 (e').o.ln, .int .i64 (e').o.dy, .slice (e').o.Ad (e').o.dep.length (e').o.cd, .slice (e').o.Aa (e').o.arr.length (e').o.ca, .int .i64 (e').n.ln, .int .i64 (e').n.dy, .slice (e').n.Ad (e').n.dep.length (e').n.cd, .slice (e').n.Aa (e').n.arr.length (e').n.ca]) ∧ e'.pe = e.pe ∧ EM w' 0 e' ∧ Below w.heap.size w w'
theorem pe_of {e e' : CE} (h1 : e'.k = e.k) (h2 : e'.o.pt = e.o.pt) (h3 : e'.n.pt = e.n.pt) : e'.pe = e.pe := by unfold CE.pe; rw [h1, h2, h3]
set_option linter.unusedSimpArgs false in
set_option maxRecDepth 100000 in
set_option maxHeartbeats 16000000 in
theorem cloneE_any (e : CE) (w : World) (h : EM w w.heap.size e) :
    Calls Try.prog 48 #[.agg #[.int .i64 (e).k, .int .i64 (e).o.ln, .int .i64 (e).o.dy, .slice (e).o.Ad (e).o.dep.length (e).o.cd, .slice (e).o.Aa (e).o.arr.length (e).o.ca, .int .i64 (e).n.ln, .int .i64 (e).n.dy, .slice (e).n.Ad (e).n.dep.length (e).n.cd, .slice (e).n.Aa (e).n.arr.length (e).n.ca]] w (CeOut e w) := by
  have H := Lib.hid h
  clear h
  go_enter Try.func48, Try.ntmps48
  go_upto_region 1 with fail
  refine world_gen (fun w0 => Below w.heap.size w w0 ∧ w0.heap.size = w.heap.size + 2 ∧ Blk w0 w.heap.size 40 #[.int .i64 (e).k, .int .i64 (e).o.ln, .int .i64 (e).o.dy, .slice (e).o.Ad (e).o.dep.length (e).o.cd, .slice (e).o.Aa (e).o.arr.length (e).o.ca, .int .i64 (e).n.ln, .int .i64 (e).n.dy, .slice (e).n.Ad (e).n.dep.length (e).n.cd, .slice (e).n.Aa (e).n.arr.length (e).n.ca] ∧ Blk w0 (w.heap.size + 1) 40 #[.int .i64 0, .int .i64 0, .int .i64 0, .slice none 0 0, .slice none 0 0, .int .i64 0, .int .i64 0, .slice none 0 0, .slice none 0 0]) ⟨(by repeat (first | exact Below.refl _ _ | (with_reducible refine Below.drew ?_) | (with_reducible refine below_drewN ?_ _) | (with_reducible refine Below.alloc ?_ (by first | omega | (simp; done) | (simp; omega)) _) | (with_reducible refine Below.setCell ?_ (by first | omega | (simp; done) | (simp; omega)) _) | (refine Below.trans ?_ (Below.mono (by with_reducible assumption) (by first | omega | (simp; done) | (simp; omega)))))), by simp, (Blk.new w _ _).al _, by simpa using Blk.new (w.alloc _) 40 _⟩ ?_
  rintro w0 ⟨hb0, hs0, hx0, hr0⟩
  have HB0 := Lib.hid hb0
  have HS0 := Lib.hid hs0
  have HX0 := Lib.hid hx0
  have HR0 := Lib.hid hr0
  have x1 := hx0.cell 1
  have x2 := hx0.cell 2
  have x3 := hx0.cell 3
  have x4 := hx0.cell 4
  have x5 := hx0.cell 5
  have x6 := hx0.cell 6
  have x7 := hx0.cell 7
  have x8 := hx0.cell 8
  simp at x1 x2 x3 x4 x5 x6 x7 x8
  have hxl := hx0.lt
  clear hb0 hs0 hx0 hr0
  have HD : Hid (∀ W, Below w0.heap.size w0 W → TM W W.heap.size e.o) := fun W hW => H.out.o.go (HB0.out.trans (hW.mono HB0.out.size))
  have HA : Hid (∀ W, Below w0.heap.size w0 W → TM W W.heap.size e.n) := fun W hW => H.out.n.go (HB0.out.trans (hW.mono HB0.out.size))
  refine wp_region_cut 7 (by kernel_rfl) (by kernel_rfl) ?_
  simp only [dulled, dull, List.take_succ_cons, List.take_zero, List.drop_succ_cons, List.drop_zero, List.map_cons, List.map_nil, List.cons_append, List.nil_append]
  refine wpAny_of_held (S := fun W => W.cell? ⟨w.heap.size, 1, none⟩ = some (.int .i64 e.o.ln) ∧ W.cell? ⟨w.heap.size, 2, none⟩ = some (.int .i64 e.o.dy) ∧ W.cell? ⟨w.heap.size, 3, none⟩ = some (.slice e.o.Ad e.o.dep.length e.o.cd) ∧ W.cell? ⟨w.heap.size, 4, none⟩ = some (.slice e.o.Aa e.o.arr.length e.o.ca) ∧ W.cell? ⟨w.heap.size, 5, none⟩ = some (.int .i64 e.n.ln) ∧ W.cell? ⟨w.heap.size, 6, none⟩ = some (.int .i64 e.n.dy) ∧ W.cell? ⟨w.heap.size, 7, none⟩ = some (.slice e.n.Ad e.n.dep.length e.n.cd) ∧ W.cell? ⟨w.heap.size, 8, none⟩ = some (.slice e.n.Aa e.n.arr.length e.n.ca)) _ _ _ _ ?_
  change wpAnyH _ _ _ _ _ _ _ _ w0.drew
  have hHeld : (fun W : World => W.cell? ⟨w.heap.size, 1, none⟩ = some (.int .i64 e.o.ln) ∧ W.cell? ⟨w.heap.size, 2, none⟩ = some (.int .i64 e.o.dy) ∧ W.cell? ⟨w.heap.size, 3, none⟩ = some (.slice e.o.Ad e.o.dep.length e.o.cd) ∧ W.cell? ⟨w.heap.size, 4, none⟩ = some (.slice e.o.Aa e.o.arr.length e.o.ca) ∧ W.cell? ⟨w.heap.size, 5, none⟩ = some (.int .i64 e.n.ln) ∧ W.cell? ⟨w.heap.size, 6, none⟩ = some (.int .i64 e.n.dy) ∧ W.cell? ⟨w.heap.size, 7, none⟩ = some (.slice e.n.Ad e.n.dep.length e.n.cd) ∧ W.cell? ⟨w.heap.size, 8, none⟩ = some (.slice e.n.Aa e.n.arr.length e.n.ca)) w0.drew := ⟨x1, x2, x3, x4, x5, x6, x7, x8⟩
  refine wpAnyH_take (i := 0) (v := ?_) rfl (by kernel_rfl) (by kernel_rfl) (by kernel_rfl) (fun _ _ _ h => h) (Or.inl ⟨by rfl, ?_⟩) (by assumption) ?_
  rotate_left
  · (intro w hSw; (try dsimp only at hSw); go_simp; try with_reducible rfl)
  simp only [Act.put, List.setIfInBounds_toArray, List.set_cons_zero, List.set_cons_succ]
  refine wpAnyH_take (i := 3) (v := ?_) rfl (by kernel_rfl) (by kernel_rfl) (by kernel_rfl) (fun _ _ _ h => h) (Or.inl ⟨by rfl, ?_⟩) (by assumption) ?_
  rotate_left
  · (intro w hSw; (try dsimp only at hSw); go_simp; try with_reducible rfl)
  simp only [Act.put, List.setIfInBounds_toArray, List.set_cons_zero, List.set_cons_succ]
  refine wpAnyH_take (i := 1) (v := ?_) rfl (by kernel_rfl) (by kernel_rfl) (by kernel_rfl) (fun _ _ _ h => h) (Or.inl ⟨by rfl, ?_⟩) (by assumption) ?_
  rotate_left
  · (intro w hSw; (try dsimp only at hSw); go_simp; try with_reducible rfl)
  simp only [Act.put, List.setIfInBounds_toArray, List.set_cons_zero, List.set_cons_succ]
  refine wpAnyH_take (i := 4) (v := ?_) rfl (by kernel_rfl) (by kernel_rfl) (by kernel_rfl) (fun _ _ _ h => h) (Or.inl ⟨by rfl, ?_⟩) (by assumption) ?_
  rotate_left
  · (intro w hSw; (try dsimp only at hSw); go_simp; try with_reducible rfl)
  simp only [Act.put, List.setIfInBounds_toArray, List.set_cons_zero, List.set_cons_succ]
  refine wpAnyH_ready (rs := [2]) (by kernel_rfl) (by simp) ?_
  refine AllReadyH.cons rfl (fun K hK => ?_) AllReadyH.nil
  go_simp
  go_at_call 37
  refine (clone_any e.o _ (HD.out _ (by repeat (first | exact Below.refl _ _ | (with_reducible refine Below.drew ?_) | (with_reducible refine below_drewN ?_ _) | (with_reducible refine Below.alloc ?_ (by first | omega | (simp; done) | (simp; omega)) _) | (with_reducible refine Below.setCell ?_ (by first | omega | (simp; done) | (simp; omega)) _) | (refine Below.trans ?_ (Below.mono (by with_reducible assumption) (by first | omega | (simp; done) | (simp; omega)))))))).mono ?_
  rintro r w8 ⟨t8, rfl, hp8, hm8, hb8⟩
  have hB8 : Below w0.heap.size w0 w8 := (by repeat (first | exact Below.refl _ _ | (with_reducible refine Below.drew ?_) | (with_reducible refine below_drewN ?_ _) | (with_reducible refine Below.alloc ?_ (by first | omega | (simp; done) | (simp; omega)) _) | (with_reducible refine Below.setCell ?_ (by first | omega | (simp; done) | (simp; omega)) _) | (refine Below.trans ?_ (Below.mono (by with_reducible assumption) (by first | omega | (simp; done) | (simp; omega))))))
  have HP8 := Lib.hid hp8
  have HI8 := Lib.hid hm8
  have HBQ := Lib.hid hB8
  refine hK.out _ _ ⟨cell_bel hB8 x1, cell_bel hB8 x2, cell_bel hB8 x3, cell_bel hB8 x4, cell_bel hB8 x5, cell_bel hB8 x6, cell_bel hB8 x7, cell_bel hB8 x8⟩ (fun hHeld8 => ?_)
  clear hK K hHeld hp8 hm8 hb8 hB8
  try simp only [Act.put, List.setIfInBounds_toArray, List.set_cons_zero, List.set_cons_succ]
  refine wpAnyH_take (i := 6) (v := ?_) rfl (by kernel_rfl) (by kernel_rfl) (by kernel_rfl) (fun _ _ _ h => h) (Or.inl ⟨by rfl, ?_⟩) (by assumption) ?_
  rotate_left
  · (intro w hSw; (try dsimp only at hSw); go_simp; try with_reducible rfl)
  simp only [Act.put, List.setIfInBounds_toArray, List.set_cons_zero, List.set_cons_succ]
  refine wpAnyH_ready (rs := [5]) (by kernel_rfl) (by simp) ?_
  refine AllReadyH.cons rfl (fun K hK => ?_) AllReadyH.nil
  go_simp
  go_at_call 37
  refine (clone_any e.n _ (HA.out _ HBQ.out)).mono ?_
  rintro r w9 ⟨t9, rfl, hp9, hm9, hb9⟩
  have hB9 : Below w0.heap.size w0 w9 := HBQ.out.trans (hb9.mono HBQ.out.size)
  refine hK.out _ _ ⟨cell_bel hB9 x1, cell_bel hB9 x2, cell_bel hB9 x3, cell_bel hB9 x4, cell_bel hB9 x5, cell_bel hB9 x6, cell_bel hB9 x7, cell_bel hB9 x8⟩ (fun hHeld9 => ?_)
  clear hK K hHeld8
  try simp only [Act.put, List.setIfInBounds_toArray, List.set_cons_zero, List.set_cons_succ]
  refine wpAnyH_ready (rs := [7]) (by kernel_rfl) (by simp) ?_
  refine AllReadyH.cons rfl (fun K hK => ?_) AllReadyH.nil
  go_simp
  refine hK.out _ _ hHeld9 (fun hHeld9 => ?_)
  clear hK K
  refine wpAnyH_ready (rs := [8]) (by kernel_rfl) (by simp) ?_
  refine AllReadyH.cons rfl (fun K hK => ?_) AllReadyH.nil
  go_simp
  refine hK.out _ _ hHeld9 (fun hHeld9 => ?_)
  clear hK K
  refine wpAnyH_ready (rs := [9]) (by kernel_rfl) (by simp) ?_
  refine AllReadyH.cons rfl (fun K hK => ?_) AllReadyH.nil
  go_simp
  refine hK.out _ _ hHeld9 (fun hHeld9 => ?_)
  clear hK K hHeld9
  refine wpAnyH_done (by kernel_rfl) ?_ _
  simp only [cutQ, List.drop_succ_cons, List.drop_zero]
  have hx9 := HX0.out.bel hB9
  have v0 := hx9.cell 0
  have v1 := hx9.cell 1
  have v2 := hx9.cell 2
  have v3 := hx9.cell 3
  have v4 := hx9.cell 4
  have v5 := hx9.cell 5
  have v6 := hx9.cell 6
  have v7 := hx9.cell 7
  have v8 := hx9.cell 8
  have g0 := hx9.frozen 0
  have g1 := hx9.frozen 1
  have g2 := hx9.frozen 2
  have g3 := hx9.frozen 3
  have g4 := hx9.frozen 4
  have g5 := hx9.frozen 5
  have g6 := hx9.frozen 6
  have g7 := hx9.frozen 7
  have g8 := hx9.frozen 8
  simp only [List.getElem?_toArray, List.getElem?_cons_succ, List.getElem?_cons_zero] at v0 v1 v2 v3 v4 v5 v6 v7 v8
  have hl9 := hx9.lt
  have HB9 := Lib.hid hB9
  have HP9 := Lib.hid hp9
  have HI9 := Lib.hid hm9
  have HI8' := Lib.hid (HI8.out.kp (Kp.bel hb9))
  have HX9 := Lib.hid hx9
  have HR9 := Lib.hid (HR0.out.bel hB9)
  have hne : w.heap.size ≠ w.heap.size + 1 := by omega
  have hfin : Below w.heap.size w w9 := HB0.out.trans (HB9.out.mono HB0.out.size)
  clear hB9 hp9 hm9 HI8 hb9 hx9 HX0 HR0 HD HA HS0 HB0 HBQ x1 x2 x3 x4 x5 x6 x7 x8 hxl H
  go_upto_region 2 with fail
  refine world_gen (fun w5 => Below w.heap.size w w5 ∧ Blk w5 w.heap.size 40 #[.int .i64 (CE.mk e.k t8 t9).k, .int .i64 (CE.mk e.k t8 t9).o.ln, .int .i64 (CE.mk e.k t8 t9).o.dy, .slice (CE.mk e.k t8 t9).o.Ad (CE.mk e.k t8 t9).o.dep.length (CE.mk e.k t8 t9).o.cd, .slice (CE.mk e.k t8 t9).o.Aa (CE.mk e.k t8 t9).o.arr.length (CE.mk e.k t8 t9).o.ca, .int .i64 (CE.mk e.k t8 t9).n.ln, .int .i64 (CE.mk e.k t8 t9).n.dy, .slice (CE.mk e.k t8 t9).n.Ad (CE.mk e.k t8 t9).n.dep.length (CE.mk e.k t8 t9).n.cd, .slice (CE.mk e.k t8 t9).n.Aa (CE.mk e.k t8 t9).n.arr.length (CE.mk e.k t8 t9).n.ca] ∧ Blk w5 (w.heap.size + 1) 40 #[.int .i64 0, .int .i64 0, .int .i64 0, .slice none 0 0, .slice none 0 0, .int .i64 0, .int .i64 0, .slice none 0 0, .slice none 0 0] ∧ EM w5 0 ⟨e.k, t8, t9⟩) ⟨?_, ?_, ?_, ?_⟩ ?_
  · exact ((((((((hfin.setCell (Nat.le_refl _) _).setCell (Nat.le_refl _) _).setCell (Nat.le_refl _) _).setCell (Nat.le_refl _) _).setCell (Nat.le_refl _) _).setCell (Nat.le_refl _) _).setCell (Nat.le_refl _) _).setCell (Nat.le_refl _) _)
  · exact HX9.out.st18
  · exact HR9.out.far8 hne
  · exact ⟨HI8'.out.kp (HX9.out.kst18 (by decide) (Nat.zero_le _)), HI9.out.kp (HX9.out.kst18 (by decide) (Nat.zero_le _))⟩
  clear HI9 HI8' HX9 HR9 HB9 v0 v1 v2 v3 v4 v5 v6 v7 v8 g0 g1 g2 g3 g4 g5 g6 g7 g8 hl9 hfin
  rintro w5 ⟨hb5, hx5, hr5, ht5⟩
  have HB5 := Lib.hid hb5
  have HT5 := Lib.hid ht5
  have HR5 := Lib.hid hr5
  have HX5 := Lib.hid hx5
  have x0 := hx5.cell 0
  have x1 := hx5.cell 1
  have x2 := hx5.cell 2
  have x3 := hx5.cell 3
  have x4 := hx5.cell 4
  have x5 := hx5.cell 5
  have x6 := hx5.cell 6
  have x7 := hx5.cell 7
  have x8 := hx5.cell 8
  have r0 := hr5.cell 0
  have r1 := hr5.cell 1
  have r2 := hr5.cell 2
  have r3 := hr5.cell 3
  have r4 := hr5.cell 4
  have r5 := hr5.cell 5
  have r6 := hr5.cell 6
  have r7 := hr5.cell 7
  have r8 := hr5.cell 8
  have f0 := hr5.frozen 0
  have f1 := hr5.frozen 1
  have f2 := hr5.frozen 2
  have f3 := hr5.frozen 3
  have f4 := hr5.frozen 4
  have f5 := hr5.frozen 5
  have f6 := hr5.frozen 6
  have f7 := hr5.frozen 7
  have f8 := hr5.frozen 8
  simp at x0 x1 x2 x3 x4 x5 x6 x7 x8 r0 r1 r2 r3 r4 r5 r6 r7 r8
  clear hb5 hx5 hr5 ht5
  go_wp2_with fail
  (try simp only [Exit.inBlock, Exit.then])
  refine bodyPost_ret (results_cell_row rfl _ _ (w.heap.size + 1) 40 #[.int .i64 (CE.mk e.k t8 t9).k, .int .i64 (CE.mk e.k t8 t9).o.ln, .int .i64 (CE.mk e.k t8 t9).o.dy, .slice (CE.mk e.k t8 t9).o.Ad (CE.mk e.k t8 t9).o.dep.length (CE.mk e.k t8 t9).o.cd, .slice (CE.mk e.k t8 t9).o.Aa (CE.mk e.k t8 t9).o.arr.length (CE.mk e.k t8 t9).o.ca, .int .i64 (CE.mk e.k t8 t9).n.ln, .int .i64 (CE.mk e.k t8 t9).n.dy, .slice (CE.mk e.k t8 t9).n.Ad (CE.mk e.k t8 t9).n.dep.length (CE.mk e.k t8 t9).n.cd, .slice (CE.mk e.k t8 t9).n.Aa (CE.mk e.k t8 t9).n.arr.length (CE.mk e.k t8 t9).n.ca] (0, 0) _ rfl (HR5.out.st9) Try.underlying40 rfl (by kernel_rfl)) rfl ?_
  exact ⟨⟨e.k, t8, t9⟩, rfl, pe_of rfl HP8.out HP9.out, HT5.out.kp (HR5.out.kst9 (by decide) (Nat.zero_le _)), (((((((((HB5.out.setCell (Nat.le_succ _) _).setCell (Nat.le_succ _) _).setCell (Nat.le_succ _) _).setCell (Nat.le_succ _) _).setCell (Nat.le_succ _) _).setCell (Nat.le_succ _) _).setCell (Nat.le_succ _) _).setCell (Nat.le_succ _) _).setCell (Nat.le_succ _) _)⟩
end Go.Proofs.Ythfifejjfnmpoaa
