import Derived.Test.YtinjdcefagaaeaaGreatDoorQSs
import Derived.Deep.RegionHeld3
set_option linter.unusedVariables false
set_option linter.unusedSimpArgs false
namespace Go.Proofs.YtinjdcefagaaeaaGreatDoor
open Go.RowKit
/-! timetable.Make, Check -/
abbrev tt0 : Array Value := #[.int .i64 0, .slice none 0 0, .int .i64 0, .int .i64 0, .slice none 0 0]
abbrev rf0 : Array Value := #[.slice none 0 0, .slice none 0 0]
abbrev ttC (g c : Nat) : Array Value := #[.int .i64 300, .slice (some ⟨g, 0, none⟩) 2 c, .int .i64 82, .int .i64 82, .slice none 0 0]
theorem results_cctt {P : Program} {fn : Func} {p q u x : Tmp} {ty tz : TypeId} (h : fn.results = #[.cell p ty, .cell q tz, .tmp u, .tmp x]) (tmps : Array Value) (w : World) (a b : Addr) (va vb : Value)
    (hp : tmps.getD p undef = .pointer (some a)) (hq : tmps.getD q undef = .pointer (some b)) (ha : (loadVar ty a).run P w = .ok va w) (hb : (loadVar tz b).run P w = .ok vb w) :
    (results fn tmps).run P w = .ok (.tuple #[va, vb, tmps.getD u undef, tmps.getD x undef]) w := by
  have hp' : tmps[p]?.getD undef = .pointer (some a) := by simpa using hp
  have hq' : tmps[q]?.getD undef = .pointer (some b) := by simpa using hq
  simp [results, h, hp', hq', asAddr, ha, hb, Result.andThen]
theorem tt_st {w : World} {X Y : Nat} {t r : TypeId} (h : Blk w X t tt0) (hr : Blk w Y r rf0) (hne : X ≠ Y) (u v : Value) :
    Blk (((((((w.setCell ⟨X, 0, none⟩ (.int .i64 300)).setCell ⟨X, 1, none⟩ u).setCell ⟨X, 2, none⟩ (.int .i64 82)).setCell ⟨X, 3, none⟩ (.int .i64 82)).setCell ⟨X, 4, none⟩ v).setCell ⟨Y, 0, none⟩ (.slice none 0 0)).setCell ⟨Y, 1, none⟩ (.slice none 0 0)) X t #[.int .i64 300, u, .int .i64 82, .int .i64 82, v] ∧
    Blk (((((((w.setCell ⟨X, 0, none⟩ (.int .i64 300)).setCell ⟨X, 1, none⟩ u).setCell ⟨X, 2, none⟩ (.int .i64 82)).setCell ⟨X, 3, none⟩ (.int .i64 82)).setCell ⟨X, 4, none⟩ v).setCell ⟨Y, 0, none⟩ (.slice none 0 0)).setCell ⟨Y, 1, none⟩ (.slice none 0 0)) Y r rf0 ∧
    T2 X Y w (((((((w.setCell ⟨X, 0, none⟩ (.int .i64 300)).setCell ⟨X, 1, none⟩ u).setCell ⟨X, 2, none⟩ (.int .i64 82)).setCell ⟨X, 3, none⟩ (.int .i64 82)).setCell ⟨X, 4, none⟩ v).setCell ⟨Y, 0, none⟩ (.slice none 0 0)).setCell ⟨Y, 1, none⟩ (.slice none 0 0)) := by
  have hne2 : Y ≠ X := fun e => hne e.symm
  exact ⟨((((((h.set_ 0 _).set_ 1 _).set_ 2 _).set_ 3 _).set_ 4 _).far hne2).far hne2, ((((((hr.far hne).far hne).far hne).far hne).far hne).set_ 0 _).set_ 1 _,
    (T2.l (((((Tw.set _ _ _ _).tr (Tw.set _ _ _ _)).tr (Tw.set _ _ _ _)).tr (Tw.set _ _ _ _)).tr (Tw.set _ _ _ _))).tr (T2.r ((Tw.set _ _ _ _).tr (Tw.set _ _ _ _)))⟩
structure MkS (w wr : World) (L : LyA) (P : PlA) : Prop where
  p : PcS w wr L P
  t : Blk wr (w.heap.size + 1 + 1) 50 tt0
  r : Blk wr (w.heap.size + 1 + 1 + 1) 53 rf0
theorem MkS.go {w wr w' : World} {L : LyA} {P : PlA} (h : MkS w wr L P) (hb : Below wr.heap.size wr w') : MkS w w' L P := ⟨h.p.go hb, h.t.same (hb.block _ h.t.lt), h.r.same (hb.block _ h.r.lt)⟩
structure MlS (w wr : World) (L : LyA) (P : PlA) (N : NtA) (Z : Nat) : Prop where
  m : MkS w wr L P
  z : Blk wr Z 68 N.cells
  n : NtM wr N
theorem MlS.go {w wr w' : World} {L : LyA} {P : PlA} {N : NtA} {Z : Nat} (h : MlS w wr L P N Z) (hb : Below wr.heap.size wr w') : MlS w w' L P N Z := ⟨h.m.go hb, h.z.same (hb.block _ h.z.lt), h.n.go hb⟩
set_option maxRecDepth 100000 in
set_option maxHeartbeats 12800000 in
theorem make_ok (L : LyA) (P : PlA) (w : World) (h : LayM w L) (hp : PlM w P) : Calls Tryz.prog 6 #[L.v, P.v, .int .i64 1000] w fun e w' => ∃ g c, e = .returned (.tuple #[.agg (ttC g c), .agg rf0, .int .i64 301, .int .i64 0]) ∧ 2 ≤ c ∧ Cs w' g tmL ∧ Below w.heap.size w w' := by
  have H := Lib.hid h
  have HP := Lib.hid hp
  clear h hp
  go_enter Tryz.func6, Tryz.ntmps6
  go_upto_region 1 with fail
  refine world_gen (fun w0 => MkS w w0 L P) ⟨⟨(by repeat (first | exact Below.refl _ _ | (with_reducible refine Below.drew ?_) | (with_reducible refine below_drewN ?_ _) | (with_reducible refine Below.alloc ?_ (by first | omega | (simp; done) | (simp; omega)) _) | (with_reducible refine Below.setCell ?_ (by first | omega | (simp; done) | (simp; omega)) _) | (refine Below.trans ?_ (Below.mono (by with_reducible assumption) (by first | omega | (simp; done) | (simp; omega)))))), (by repeat (first | (refine Blk.new' _ _ _ _ ?_; first | rfl | (simp <;> omega)) | refine Blk.al ?_ _ | refine Blk.dr ?_ | refine Blk.drN ?_ _ | refine Blk.far ?_ (by first | omega | (simp; omega)))), (by repeat (first | (refine Blk.new' _ _ _ _ ?_; first | rfl | (simp <;> omega)) | refine Blk.al ?_ _ | refine Blk.dr ?_ | refine Blk.drN ?_ _ | refine Blk.far ?_ (by first | omega | (simp; omega))))⟩, (by repeat (first | (refine Blk.new' _ _ _ _ ?_; first | rfl | (simp <;> omega)) | refine Blk.al ?_ _ | refine Blk.dr ?_ | refine Blk.drN ?_ _ | refine Blk.far ?_ (by first | omega | (simp; omega)))), (by repeat (first | (refine Blk.new' _ _ _ _ ?_; first | rfl | (simp <;> omega)) | refine Blk.al ?_ _ | refine Blk.dr ?_ | refine Blk.drN ?_ _ | refine Blk.far ?_ (by first | omega | (simp; omega))))⟩ ?_
  rintro w0 hs0
  have HS0 := Lib.hid hs0
  have x0 := (hs0.p).x.cell 0
  have x1 := (hs0.p).x.cell 1
  have x2 := (hs0.p).x.cell 2
  have x3 := (hs0.p).x.cell 3
  have y0 := (hs0.p).y.cell 0
  have y1 := (hs0.p).y.cell 1
  have y2 := (hs0.p).y.cell 2
  have y3 := (hs0.p).y.cell 3
  have y4 := (hs0.p).y.cell 4
  have y5 := (hs0.p).y.cell 5
  have y6 := (hs0.p).y.cell 6
  have y7 := (hs0.p).y.cell 7
  have xl := (hs0.p).x.lt
  have yl := (hs0.p).y.lt
  simp at x0 x1 x2 x3 y0 y1 y2 y3 y4 y5 y6 y7
  clear hs0
  go_upto_region 2 with (go_at_call 12; refine (build_ok L P _ (H.out.go HS0.out.p.b) (HP.out.go HS0.out.p.b)).mono ?_; rintro e w1 ⟨N, rfl, hn1, hb1⟩)
  refine world_gen (fun w2 => MlS w w2 L P N w1.heap.size) ⟨(HS0.out.go hb1).go ((Below.refl _ _).alloc (Nat.le_refl _) _), (by repeat (first | (refine Blk.new' _ _ _ _ ?_; first | rfl | (simp <;> omega)) | refine Blk.al ?_ _ | refine Blk.dr ?_ | refine Blk.drN ?_ _ | refine Blk.far ?_ (by first | omega | (simp; omega)))), hn1.go ((Below.refl _ _).alloc (Nat.le_refl _) _)⟩ ?_
  intro w2 hs2
  have HS2 := Lib.hid hs2
  clear hs2 hn1 hb1 HS0
  clear x0 x1 x2 x3 y0 y1 y2 y3 y4 y5 y6 y7 xl yl
  generalize w1.heap.size = Z at *
  have z0 := (HS2.out).z.cell 0
  have z1 := (HS2.out).z.cell 1
  have z2 := (HS2.out).z.cell 2
  have zl := (HS2.out).z.lt
  simp at z0 z1 z2
  go_wp2_with fail
  refine (solve_ok N _ HS2.out.n).mono ?_
  rintro e w3 ⟨g, c, rfl, hcc, hc3, hb3⟩
  have HS3 := Lib.hid (HS2.out.go hb3)
  have HC3 := Lib.hid hc3
  clear hc3 hb3 HS2
  clear z0 z1 z2 zl
  have z0 := (HS3.out).z.cell 0
  have z1 := (HS3.out).z.cell 1
  have z2 := (HS3.out).z.cell 2
  have zl := (HS3.out).z.lt
  simp at z0 z1 z2
  go_upto_region 12 with fail
  have hbd : Below w3.heap.size w3 w3.drew := (Below.refl _ _).drew
  go_region_held3 (fun W => W.cell? ⟨Z, 0, none⟩ = some (.int .i64 300) ∧ W.cell? ⟨Z, 1, none⟩ = some (.slice (some ⟨N.ev, 0, none⟩) 2 N.ce) ∧ W.cell? ⟨Z, 2, none⟩ = some (.slice (some ⟨N.ac, 0, none⟩) 1 N.ca))
    (first | go_keep | exact ⟨z0, z1, z2⟩ | exact ⟨cell_bel hbF z0, cell_bel hbF z1, cell_bel hbF z2⟩ | exact ⟨cell_bel hbT z0, cell_bel hbT z1, cell_bel hbT z2⟩)
    (first | (go_at_call 16; refine (ctree_ok N _ (HS3.out.n.go hbd)).mono ?_; rintro e w8 ⟨gt, ct, rfl, hct, hbT'⟩; have hbT : Below w3.heap.size w3 w8 := hbd.trans (hbT'.mono (Nat.le_refl _))) | (go_at_call 15; refine (cfund_ok N gt ct _ (HS3.out.n.go hbT) hct).mono ?_; rintro e w9 ⟨rfl, hbF'⟩; have hbF : Below w3.heap.size w3 w9 := hbT.trans (hbF'.mono hbT.size)))
  have HS4 := Lib.hid (HS3.out.go hbF)
  have HC4 := Lib.hid (HC3.out.go hbF)
  clear hct hbT' hbT hbF' hbF hbd HS3 HC3
  clear z0 z1 z2 zl
  have z0 := (HS4.out).z.cell 0
  have z1 := (HS4.out).z.cell 1
  have z2 := (HS4.out).z.cell 2
  have zl := (HS4.out).z.lt
  simp at z0 z1 z2
  go_wp2_with fail
  refine (npack_ok N _ HS4.out.n).mono ?_
  rintro e w10 ⟨rfl, hb10⟩
  have HS5 := Lib.hid (HS4.out.go hb10)
  have HC5 := Lib.hid (HC4.out.go hb10)
  clear hb10 HS4 HC4
  clear z0 z1 z2 zl
  have z0 := (HS5.out).z.cell 0
  have z1 := (HS5.out).z.cell 1
  have z2 := (HS5.out).z.cell 2
  have zl := (HS5.out).z.lt
  simp at z0 z1 z2
  go_upto_region 15 with fail
  clear z0 z1 z2 zl
  refine world_gen (fun w11 => MkS w w11 L P ∧ Cs w11 g tmL ∧ Blk w11 w10.heap.size 50 (ttC g c)) ⟨HS5.out.m.go ((Below.refl _ _).alloc (Nat.le_refl _) _), HC5.out.go ((Below.refl _ _).alloc (Nat.le_refl _) _), Blk.new _ _ _⟩ ?_
  rintro w11 ⟨hs6, hc6, hq6⟩
  have HS6 := Lib.hid hs6
  have HC6 := Lib.hid hc6
  have q0 := hq6.cell 0
  have q1 := hq6.cell 1
  have q2 := hq6.cell 2
  have q3 := hq6.cell 3
  have q4 := hq6.cell 4
  have ql := hq6.lt
  have t0 := hs6.t.cell 0
  have t1 := hs6.t.cell 1
  have t2 := hs6.t.cell 2
  have t3 := hs6.t.cell 3
  have t4 := hs6.t.cell 4
  have ft0 := hs6.t.frozen 0
  have ft1 := hs6.t.frozen 1
  have ft2 := hs6.t.frozen 2
  have ft3 := hs6.t.frozen 3
  have ft4 := hs6.t.frozen 4
  have tl := hs6.t.lt
  have r0 := hs6.r.cell 0
  have r1 := hs6.r.cell 1
  have fr0 := hs6.r.frozen 0
  have fr1 := hs6.r.frozen 1
  have rl := hs6.r.lt
  have hgt : g ≠ w.heap.size + 1 + 1 := fun e => by
    have h1 : w11.cell? ⟨g, 1, none⟩ = some (.int .i64 41) := hc6.c 1 _ rfl
    have h2 := hs6.t.cell 1
    simp only [List.getElem?_toArray, List.getElem?_cons_succ, List.getElem?_cons_zero] at h2
    rw [e, h2] at h1; cases h1
  have hgr : g ≠ w.heap.size + 1 + 1 + 1 := fun e => by
    have h1 : w11.cell? ⟨g, 1, none⟩ = some (.int .i64 41) := hc6.c 1 _ rfl
    have h2 := hs6.r.cell 1
    simp only [List.getElem?_toArray, List.getElem?_cons_succ, List.getElem?_cons_zero] at h2
    rw [e, h2] at h1; cases h1
  simp at q0 q1 q2 q3 q4 t0 t1 t2 t3 t4 r0 r1
  clear hs6 hc6 hq6 HS5 HC5
  generalize w10.heap.size = Q at *
  go_wp2_with fail
  obtain ⟨k0, k1, ht⟩ := tt_st HS6.out.t HS6.out.r (by omega) (.slice (some ⟨g, 0, none⟩) 2 c) (.slice none 0 0)
  refine bodyPost_ret (results_cctt rfl _ _ ⟨w.heap.size + 1 + 1, 0, none⟩ ⟨w.heap.size + 1 + 1 + 1, 0, none⟩ _ _ rfl rfl (run_loadVar_row _ _ _ _ _ (0, 0) _ k0 Tryz.underlying50 rfl (by kernel_rfl)) (run_loadVar_row _ _ _ _ _ (0, 0) _ k1 Tryz.underlying53 rfl (by kernel_rfl))) rfl ?_
  exact ⟨g, c, rfl, hcc, HC6.out.t2 ht hgt hgr, ht.below HS6.out.p.b (by omega) (by omega) HS6.out.p.b.size⟩
set_option maxRecDepth 100000 in
set_option maxHeartbeats 12800000 in
theorem tchk_ok (L : LyA) (P : PlA) (g c : Nat) (w : World) (h : LayM w L) (hp : PlM w P) (hc : Cs w g tmL) (hcc : 2 ≤ c) : Calls Tryz.prog 8 #[L.v, P.v, .agg (ttC g c)] w fun e w' => e = .returned (.int .i64 0) ∧ Below w.heap.size w w' := by
  have H := Lib.hid h
  have HP := Lib.hid hp
  have HC := Lib.hid hc
  clear h hp hc
  go_enter Tryz.func8, Tryz.ntmps8
  go_upto_region 1 with fail
  refine world_gen (fun w0 => PcS w w0 L P ∧ Blk w0 (w.heap.size + 1 + 1) 50 (ttC g c)) ⟨⟨(by repeat (first | exact Below.refl _ _ | (with_reducible refine Below.drew ?_) | (with_reducible refine below_drewN ?_ _) | (with_reducible refine Below.alloc ?_ (by first | omega | (simp; done) | (simp; omega)) _) | (with_reducible refine Below.setCell ?_ (by first | omega | (simp; done) | (simp; omega)) _) | (refine Below.trans ?_ (Below.mono (by with_reducible assumption) (by first | omega | (simp; done) | (simp; omega)))))), (by repeat (first | (refine Blk.new' _ _ _ _ ?_; first | rfl | (simp <;> omega)) | refine Blk.al ?_ _ | refine Blk.dr ?_ | refine Blk.drN ?_ _ | refine Blk.far ?_ (by first | omega | (simp; omega)))), (by repeat (first | (refine Blk.new' _ _ _ _ ?_; first | rfl | (simp <;> omega)) | refine Blk.al ?_ _ | refine Blk.dr ?_ | refine Blk.drN ?_ _ | refine Blk.far ?_ (by first | omega | (simp; omega))))⟩, (by repeat (first | (refine Blk.new' _ _ _ _ ?_; first | rfl | (simp <;> omega)) | refine Blk.al ?_ _ | refine Blk.dr ?_ | refine Blk.drN ?_ _ | refine Blk.far ?_ (by first | omega | (simp; omega))))⟩ ?_
  rintro w0 ⟨hs0, hr0⟩
  have HS0 := Lib.hid hs0
  have HR0 := Lib.hid hr0
  have x0 := (hs0).x.cell 0
  have x1 := (hs0).x.cell 1
  have x2 := (hs0).x.cell 2
  have x3 := (hs0).x.cell 3
  have y0 := (hs0).y.cell 0
  have y1 := (hs0).y.cell 1
  have y2 := (hs0).y.cell 2
  have y3 := (hs0).y.cell 3
  have y4 := (hs0).y.cell 4
  have y5 := (hs0).y.cell 5
  have y6 := (hs0).y.cell 6
  have y7 := (hs0).y.cell 7
  have xl := (hs0).x.lt
  have yl := (hs0).y.lt
  simp at x0 x1 x2 x3 y0 y1 y2 y3 y4 y5 y6 y7
  clear hs0 hr0
  go_upto_region 2 with (go_at_call 12; refine (build_ok L P _ (H.out.go HS0.out.b) (HP.out.go HS0.out.b)).mono ?_; rintro e w1 ⟨N, rfl, hn1, hb1⟩)
  refine world_gen (fun w2 => PcS w w2 L P ∧ Blk w2 (w.heap.size + 1 + 1) 50 (ttC g c) ∧ Blk w2 w1.heap.size 68 N.cells ∧ NtM w2 N) ⟨(HS0.out.go hb1).go ((Below.refl _ _).alloc (Nat.le_refl _) _), (HR0.out.same (hb1.block _ HR0.out.lt)).al _, Blk.new _ _ _, hn1.go ((Below.refl _ _).alloc (Nat.le_refl _) _)⟩ ?_
  rintro w2 ⟨hs2, hr2, hz2, hn2⟩
  have HS2 := Lib.hid hs2
  have HR2 := Lib.hid hr2
  have HZ2 := Lib.hid hz2
  have HN2 := Lib.hid hn2
  clear hs2 hr2 hz2 hn2 hn1 hb1 HS0 HR0
  clear x0 x1 x2 x3 y0 y1 y2 y3 y4 y5 y6 y7 xl yl
  generalize w1.heap.size = Z at *
  have t0 := (HR2).out.cell 0
  have t1 := (HR2).out.cell 1
  have t2 := (HR2).out.cell 2
  have t3 := (HR2).out.cell 3
  have t4 := (HR2).out.cell 4
  have tl := (HR2).out.lt
  have z0 := (HZ2).out.cell 0
  have z1 := (HZ2).out.cell 1
  have z2 := (HZ2).out.cell 2
  have zl := (HZ2).out.lt
  simp at t0 t1 t2 t3 t4 z0 z1 z2
  go_wp2_with fail
  refine (nfeas_ok N g c _ HN2.out (HC.out.go HS2.out.b) hcc).mono ?_
  rintro e w3 ⟨rfl, hb3⟩
  have HS3 := Lib.hid (HS2.out.go hb3)
  have HR3 := Lib.hid (HR2.out.same (hb3.block _ HR2.out.lt))
  have HZ3 := Lib.hid (HZ2.out.same (hb3.block _ HZ2.out.lt))
  have HN3 := Lib.hid (HN2.out.go hb3)
  clear hb3 HS2 HR2 HZ2 HN2
  clear t0 t1 t2 t3 t4 tl z0 z1 z2 zl
  have t0 := (HR3).out.cell 0
  have t1 := (HR3).out.cell 1
  have t2 := (HR3).out.cell 2
  have t3 := (HR3).out.cell 3
  have t4 := (HR3).out.cell 4
  have tl := (HR3).out.lt
  have z0 := (HZ3).out.cell 0
  have z1 := (HZ3).out.cell 1
  have z2 := (HZ3).out.cell 2
  have zl := (HZ3).out.lt
  simp at t0 t1 t2 t3 t4 z0 z1 z2
  go_wp2_with fail
  refine (ncost_ok N g c _ HN3.out (HC.out.go HS3.out.b) hcc).mono ?_
  rintro e w4 ⟨rfl, hb4⟩
  have HS4 := Lib.hid (HS3.out.go hb4)
  have HR4 := Lib.hid (HR3.out.same (hb4.block _ HR3.out.lt))
  have HZ4 := Lib.hid (HZ3.out.same (hb4.block _ HZ3.out.lt))
  have HN4 := Lib.hid (HN3.out.go hb4)
  clear hb4 HS3 HR3 HZ3 HN3
  clear t0 t1 t2 t3 t4 tl z0 z1 z2 zl
  have t0 := (HR4).out.cell 0
  have t1 := (HR4).out.cell 1
  have t2 := (HR4).out.cell 2
  have t3 := (HR4).out.cell 3
  have t4 := (HR4).out.cell 4
  have tl := (HR4).out.lt
  have z0 := (HZ4).out.cell 0
  have z1 := (HZ4).out.cell 1
  have z2 := (HZ4).out.cell 2
  have zl := (HZ4).out.lt
  simp at t0 t1 t2 t3 t4 z0 z1 z2
  go_wp2_with fail
  refine (nbchk_ok N _ HN4.out).mono ?_
  rintro e w5 ⟨rfl, hb5⟩
  have HS5 := Lib.hid (HS4.out.go hb5)
  have HR5 := Lib.hid (HR4.out.same (hb5.block _ HR4.out.lt))
  have HZ5 := Lib.hid (HZ4.out.same (hb5.block _ HZ4.out.lt))
  clear hb5 HS4 HR4 HZ4 HN4
  clear t0 t1 t2 t3 t4 tl z0 z1 z2 zl
  have t0 := (HR5).out.cell 0
  have t1 := (HR5).out.cell 1
  have t2 := (HR5).out.cell 2
  have t3 := (HR5).out.cell 3
  have t4 := (HR5).out.cell 4
  have tl := (HR5).out.lt
  have z0 := (HZ5).out.cell 0
  have z1 := (HZ5).out.cell 1
  have z2 := (HZ5).out.cell 2
  have zl := (HZ5).out.lt
  simp at t0 t1 t2 t3 t4 z0 z1 z2
  go_wp2_with fail
  go_ret
  exact ⟨rfl, HS5.out.b⟩
end Go.Proofs.YtinjdcefagaaeaaGreatDoor
namespace Go.Proofs.YtinjdcefagaaeaaGreatDoor
open Go.RowKit
/-! journeys: what reads the service -/
structure JnA where
  N : NtA
  gl : Nat
  gq : Nat
  cq : Nat
  gd : Nat
  cd : Nat
  gs : Nat
  cs : Nat
  gp : Nat
  cp : Nat
abbrev jvC (N : NtA) (vl vd vs vp : Value) : Array Value := #[.int .i64 300, .slice (some ⟨N.ev, 0, none⟩) 2 N.ce, .slice (some ⟨N.ac, 0, none⟩) 1 N.ca, vl, vd, vs, vp, .int .i64 2]
abbrev JnA.c (A : JnA) : Array Value := jvC A.N (.slice (some ⟨A.gl, 0, none⟩) 2 2) (.slice (some ⟨A.gd, 0, none⟩) 1 A.cd) (.slice (some ⟨A.gs, 0, none⟩) 2 A.cs) (.slice (some ⟨A.gp, 0, none⟩) 2 A.cp)
structure JnM (w : World) (B : Nat) (A : JnA) : Prop where
  x : Blk w B 160 A.c
  n : NtM w A.N
  l : Cs w A.gl [.slice (some ⟨A.gq, 0, none⟩) 1 A.cq, .slice none 0 0]
  q : Cs w A.gq [.int .i64 0]
  d : Cs w A.gd [.int .i64 41]
  s : Cs w A.gs [.int .i64 0, .int .i64 0]
  p : Cs w A.gp [.int .i64 1, .int .i64 1]
theorem JnM.go {w w' : World} {B : Nat} {A : JnA} (h : JnM w B A) (hb : Below w.heap.size w w') : JnM w' B A := ⟨h.x.same (hb.block _ h.x.lt), h.n.go hb, h.l.go hb, h.q.go hb, h.d.go hb, h.s.go hb, h.p.go hb⟩
theorem JnM.tw {w w' : World} {B : Nat} {A : JnA} {g : Nat} (h : JnM w B A) (ht : Tw g w w') (hB : ∀ k, k < g → w'.heap[k]? = w.heap[k]?) (hx : B < g) (hn1 : A.N.ev < g) (hn2 : A.N.ac < g) (hl : A.gl < g) (hq : A.gq < g) (hd : A.gd < g) (hs : A.gs < g) (hp : A.gp < g) : JnM w' B A :=
  ⟨h.x.same (hB _ hx), ⟨h.n.ev.same (hB _ hn1) ht.size, h.n.ac.same (hB _ hn2) ht.size⟩, h.l.same (hB _ hl) ht.size, h.q.same (hB _ hq) ht.size, h.d.same (hB _ hd) ht.size, h.s.same (hB _ hs) ht.size, h.p.same (hB _ hp) ht.size⟩
set_option maxRecDepth 100000 in
set_option maxHeartbeats 1600000 in
theorem ends0_ok (B : Nat) (A : JnA) (w : World) (h : JnM w B A) : Calls Tryz.prog 63 #[.pointer (some ⟨B, 0, none⟩), .int .i64 0, .int .i64 1] w fun e w' => e = .returned (.bool false) ∧ w' = w := by
  have x1 := h.x.cell 1
  have xl := h.x.lt
  have e0 : w.cell? ⟨A.N.ev, 0, none⟩ = some (.int .i64 1) := h.n.ev.c 0 _ rfl
  have el := h.n.ev.lt
  simp at x1
  clear h
  go_enter Tryz.func63, Tryz.ntmps63
  go_wp2_with fail
  go_ret
  exact ⟨rfl, rfl⟩
set_option maxRecDepth 100000 in
set_option maxHeartbeats 1600000 in
theorem ends1_ok (B : Nat) (A : JnA) (w : World) (h : JnM w B A) : Calls Tryz.prog 63 #[.pointer (some ⟨B, 0, none⟩), .int .i64 1, .int .i64 1] w fun e w' => e = .returned (.bool true) ∧ w' = w := by
  have x1 := h.x.cell 1
  have x6 := h.x.cell 6
  have xl := h.x.lt
  have e3 : w.cell? ⟨A.N.ev, 3, none⟩ = some (.int .i64 2) := h.n.ev.c 3 _ rfl
  have el := h.n.ev.lt
  have p1 : w.cell? ⟨A.gp, 1, none⟩ = some (.int .i64 1) := h.p.c 1 _ rfl
  have pl := h.p.lt
  simp at x1 x6
  clear h
  go_enter Tryz.func63, Tryz.ntmps63
  go_wp2_with fail
  go_ret
  exact ⟨rfl, rfl⟩
def BgL (w : World) (k : Nat) (v5 v : Value) (wr : World) : Prop := Below w.heap.size w wr ∧ ((k = 1 ∧ v = .int .i64 0 ∧ v5 = .slice none 0 0) ∨ (k = 0 ∧ v = .int .i64 1 ∧ ∃ g c, v5 = .slice (some ⟨g, 0, none⟩) 1 c ∧ Cs wr g [.int .i64 0]))
set_option maxRecDepth 100000 in
set_option maxHeartbeats 3200000 in
theorem begins_ok (B : Nat) (A : JnA) (w : World) (h : JnM w B A) : Calls Tryz.prog 21 #[.pointer (some ⟨B, 0, none⟩), .int .i64 0] w fun e w' => ∃ g c, e = .returned (.slice (some ⟨g, 0, none⟩) 1 c) ∧ Cs w' g [.int .i64 0] ∧ Below w.heap.size w w' := by
  have H := Lib.hid h
  obtain ⟨i0, b1, b2, b3, b4⟩ := info_parts infoI
  have HI := Lib.hid (And.intro b1 (And.intro b2 (And.intro b3 b4)))
  clear b1 b2 b3 b4
  have x2 := h.x.cell 2
  have xl := h.x.lt
  simp at x2
  clear h
  go_enter Tryz.func21, Tryz.ntmps21
  go_wp2_with fail
  clear x2 xl
  go_loopg [5, 14] 1 (fun k v5 v wr => BgL w k v5 v wr)
  case atStart => exact ⟨Below.refl _ _, .inl ⟨rfl, rfl, rfl⟩⟩
  case round =>
    obtain ⟨hb, hor⟩ := hrel
    have HB := Lib.hid hb
    clear hb
    rcases hor with ⟨rfl, rfl, rfl⟩ | ⟨rfl, rfl, g, c, rfl, hc⟩
    · have hj := H.out.go HB.out
      have hnm := hj.n
      obtain ⟨a0, a1, a2, a3, a4, a5⟩ := (hnm).act
      have al := (hnm).ac.lt
      clear hj hnm
      go_upto_region 5 with fail
      refine world_gen (fun w2 => Below w.heap.size w w2 ∧ Blk w2 wr.heap.size 138 acL.toArray) ⟨HB.out.trans (Below.mono ((Below.refl _ _).alloc (Nat.le_refl _) _) HB.out.size), (by repeat (first | (refine Blk.new' _ _ _ _ ?_; first | rfl | (simp <;> omega)) | refine Blk.al ?_ _ | refine Blk.dr ?_ | refine Blk.drN ?_ _ | refine Blk.far ?_ (by first | omega | (simp; omega))))⟩ ?_
      rintro w2 ⟨hb2, hz2⟩
      have HB2 := Lib.hid hb2
      have z0 := hz2.cell 0
      have z1 := hz2.cell 1
      have zl := hz2.lt
      have hj := H.out.go hb2
      have x5 := hj.x.cell 5
      have xl := hj.x.lt
      have s0 : w2.cell? ⟨A.gs, 0, none⟩ = some (.int .i64 0) := hj.s.c 0 _ rfl
      have sl := hj.s.lt
      simp at z0 z1 x5
      clear hb2 hz2 hj HB
      clear a0 a1 a2 a3 a4 a5 al
      generalize wr.heap.size = Z at *
      refine wp_region_overL (by kernel_rfl) (by kernel_rfl) ?_
      repeat (go_big_quiet_step (fail))
      refine wpQuiet_nil ?_
      intro w3 hb3
      have HB3 := Lib.hid (HB2.out.trans (hb3.mono HB2.out.size))
      clear hb3 HB2 z0 z1 zl x5 xl s0 sl
      go_upto_region 7 with ((at_builtin; refine wpList_append_own_at _ rfl _ _ 47 rfl w3.heap.size 3 i0 _ 1 8 Tryz.underlying47 HI.out.1 HI.out.2.1 HI.out.2.2.1 HI.out.2.2.2 rfl (by omega) _ 0 ([]) rfl (World.ownsRow_nil _ _ _ _) ⟨w3.heap.size, 0, none⟩ 1 1 [.int .i64 0] rfl rfl ?c0 ?c1 ?c2 ?c3 ?c4 ?_; rotate_right; intro va wa hoa hga hna hta); obtain ⟨ge, ce, rfl, hce, hge, _⟩ := own_cs hoa (by omega); have hba : Below w3.heap.size w3 wa := Below.trans ((Below.refl _ _).alloc (Nat.le_refl _) (.cells #[.int .i64 0] 3)) (Below.mono (bel_grow hga) (by simp)); have HBA := Lib.hid hba; have HCE := Lib.hid hce; clear hce hoa hga hna hta hba)
      case c0 => exact news_new _ _ _
      case c1 => exact (List.all_eq_true (p := fun (u : Value) => u.oneCell')).1 (by rfl)
      case c2 => simp only [maxLen]; omega
      case c3 => omega
      case c4 => first | omega | (simp; done) | (simp; omega)
      go_wp2_with fail
      go_roundg 0
      case measure => omega
      case rel => exact ⟨HB3.out.trans (HBA.out.mono HB3.out.size), .inr ⟨rfl, rfl, ge, ce, rfl, HCE.out⟩⟩
    · have HC := Lib.hid hc
      clear hc
      go_wp2_with fail
      go_ret
      exact ⟨g, c, rfl, HC.out, HB.out⟩
set_option maxRecDepth 100000 in
set_option maxHeartbeats 3200000 in
theorem least_ok (B : Nat) (A : JnA) (g ga c : Nat) (w : World) (h : JnM w B A) (hg : Cs w g [.int .i64 41, .int .i64 0]) (ha : Cs w ga [.int .i64 0]) : Calls Tryz.prog 19 #[.pointer (some ⟨B, 0, none⟩), .slice (some ⟨g, 0, none⟩) 2 2, .slice (some ⟨ga, 0, none⟩) 1 c] w fun e w' => e = .returned (.int .i64 41) ∧ w' = w := by
  have x2 := h.x.cell 2
  have x4 := h.x.cell 4
  have xl := h.x.lt
  have a0 : w.cell? ⟨ga, 0, none⟩ = some (.int .i64 0) := ha.c 0 _ rfl
  have al := ha.lt
  have g1 : w.cell? ⟨g, 1, none⟩ = some (.int .i64 0) := hg.c 1 _ rfl
  have gl := hg.lt
  have d0 : w.cell? ⟨A.gd, 0, none⟩ = some (.int .i64 41) := h.d.c 0 _ rfl
  have dl := h.d.lt
  have t2 : w.cell? ⟨A.N.ac, 2, none⟩ = some (.int .i64 1) := h.n.ac.c 2 _ rfl
  have tl := h.n.ac.lt
  simp at x2 x4
  clear h hg ha
  go_enter Tryz.func19, Tryz.ntmps19
  go_wp2_with fail
  go_loopg [7, 14] 1 (fun k v7 v wr => wr = w ∧ ((k = 1 ∧ v = .int .i64 0 ∧ v7 = .int .i64 (-1)) ∨ (k = 0 ∧ v = .int .i64 1 ∧ v7 = .int .i64 41)))
  case atStart => exact ⟨rfl, .inl ⟨rfl, rfl, rfl⟩⟩
  case round =>
    obtain ⟨hw, ⟨rfl, rfl, rfl⟩ | ⟨rfl, rfl, rfl⟩⟩ := hrel
    · obtain rfl := hw
      go_wp2_with fail
      go_roundg 0
      case measure => omega
      case rel => exact ⟨rfl, .inr ⟨rfl, rfl, rfl⟩⟩
    · obtain rfl := hw
      go_wp2_with fail
      go_ret
      exact ⟨rfl, rfl⟩
end Go.Proofs.YtinjdcefagaaeaaGreatDoor
