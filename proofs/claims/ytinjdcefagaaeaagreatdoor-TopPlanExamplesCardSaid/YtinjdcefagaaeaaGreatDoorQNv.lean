import Derived.Test.YtinjdcefagaaeaaGreatDoorQNu
set_option linter.unusedVariables false
set_option linter.unusedSimpArgs false
namespace Go.Proofs.YtinjdcefagaaeaaGreatDoor
open Go.RowKit
/-! network.Build -/
structure NtA where
  ev : Nat
  ac : Nat
  ce : Nat
  ca : Nat
abbrev NtA.cells (N : NtA) : Array Value := #[.int .i64 300, .slice (some ⟨N.ev, 0, none⟩) 2 N.ce, .slice (some ⟨N.ac, 0, none⟩) 1 N.ca]
abbrev NtA.v (N : NtA) : Value := .agg N.cells
structure NtM (w : World) (N : NtA) : Prop where
  ev : Cs w N.ev evL
  ac : Cs w N.ac acL
theorem NtM.go {w w' : World} {N : NtA} (h : NtM w N) (hb : Below w.heap.size w w') : NtM w' N := ⟨h.ev.go hb, h.ac.go hb⟩
theorem NtM.act {w : World} {N : NtA} (h : NtM w N) : w.cell? ⟨N.ac, 0, none⟩ = some (.int .i64 1) ∧ w.cell? ⟨N.ac, 1, none⟩ = some (.int .i64 0) ∧ w.cell? ⟨N.ac, 2, none⟩ = some (.int .i64 1) ∧ w.cell? ⟨N.ac, 3, none⟩ = some (.int .i64 41) ∧ w.cell? ⟨N.ac, 4, none⟩ = some (.int .i64 46) ∧ w.cell? ⟨N.ac, 5, none⟩ = some (.int .i64 2) :=
  ⟨h.ac.c 0 _ rfl, h.ac.c 1 _ rfl, h.ac.c 2 _ rfl, h.ac.c 3 _ rfl, h.ac.c 4 _ rfl, h.ac.c 5 _ rfl⟩
abbrev nt0 : Array Value := #[.int .i64 0, .slice none 0 0, .slice none 0 0]
structure BuS (w wr : World) (L : LyA) (P : PlA) (Bb : Nat) (vf vo vr ve va : Value) : Prop where
  p : PcS w wr L P
  r : Blk wr (w.heap.size + 1 + 1) 68 nt0
  s : BdS wr L P Bb vf vo vr ve va
  g : w.heap.size + 2 < Bb
theorem BuS.tw {w wr w' : World} {L : LyA} {P : PlA} {Bb : Nat} {vf vo vr ve va vf' vo' vr' ve' va' : Value} (h : BuS w wr L P Bb vf vo vr ve va) (ht : Tw Bb wr w') (hs : BdS w' L P Bb vf' vo' vr' ve' va') : BuS w w' L P Bb vf' vo' vr' ve' va' :=
  ⟨⟨ht.below h.p.b (by have := h.g; omega) h.p.b.size, h.p.x.same (ht.block _ h.p.x.lt (by have := h.g; omega)), h.p.y.same (ht.block _ h.p.y.lt (by have := h.g; omega))⟩, h.r.same (ht.block _ h.r.lt (by have := h.g; omega)), hs, h.g⟩
theorem BuS.go {w wr w' : World} {L : LyA} {P : PlA} {Bb : Nat} {vf vo vr ve va : Value} (h : BuS w wr L P Bb vf vo vr ve va) (hb : Below wr.heap.size wr w') : BuS w w' L P Bb vf vo vr ve va :=
  h.tw (Tw.of hb) (h.s.go hb)
def NbOut (w : World) (e : Ending) (w' : World) : Prop := ∃ N : NtA, e = .returned (.tuple #[N.v, .int .i64 0]) ∧ NtM w' N ∧ Below w.heap.size w w'
set_option maxRecDepth 100000 in
set_option maxHeartbeats 12800000 in
theorem build_ok (L : LyA) (P : PlA) (w : World) (h : LayM w L) (hp : PlM w P) : Calls Tryz.prog 12 #[L.v, P.v] w (NbOut w) := by
  have H := Lib.hid h
  have HP := Lib.hid hp
  clear h hp
  go_enter Tryz.func12, Tryz.ntmps12
  go_upto_region 1 with fail
  refine world_gen (fun w0 => PcS w w0 L P ∧ Blk w0 (w.heap.size + 1 + 1) 68 nt0) ⟨⟨(by repeat (first | exact Below.refl _ _ | (with_reducible refine Below.drew ?_) | (with_reducible refine below_drewN ?_ _) | (with_reducible refine Below.alloc ?_ (by first | omega | (simp; done) | (simp; omega)) _) | (with_reducible refine Below.setCell ?_ (by first | omega | (simp; done) | (simp; omega)) _) | (refine Below.trans ?_ (Below.mono (by with_reducible assumption) (by first | omega | (simp; done) | (simp; omega)))))), (by repeat (first | (refine Blk.new' _ _ _ _ ?_; first | rfl | (simp <;> omega)) | refine Blk.al ?_ _ | refine Blk.dr ?_ | refine Blk.drN ?_ _ | refine Blk.far ?_ (by first | omega | (simp; omega)))), (by repeat (first | (refine Blk.new' _ _ _ _ ?_; first | rfl | (simp <;> omega)) | refine Blk.al ?_ _ | refine Blk.dr ?_ | refine Blk.drN ?_ _ | refine Blk.far ?_ (by first | omega | (simp; omega))))⟩, (by repeat (first | (refine Blk.new' _ _ _ _ ?_; first | rfl | (simp <;> omega)) | refine Blk.al ?_ _ | refine Blk.dr ?_ | refine Blk.drN ?_ _ | refine Blk.far ?_ (by first | omega | (simp; omega))))⟩ ?_
  rintro w0 ⟨hs0, hr0⟩
  have HS0 := Lib.hid hs0
  have HR0 := Lib.hid hr0
  have x0 := (hs0).x.cell 0
  have x1 := (hs0).x.cell 1
  have x2 := (hs0).x.cell 2
  have x3 := (hs0).x.cell 3
  have y0 := (hs0).y.cell 0
  have y1 := (hs0).y.cell 1
  have y2 := (hs0).y.cell 2
  have y3 := (hs0).y.cell 3
  have y4 := (hs0).y.cell 4
  have y5 := (hs0).y.cell 5
  have y6 := (hs0).y.cell 6
  have y7 := (hs0).y.cell 7
  have xl := (hs0).x.lt
  have yl := (hs0).y.lt
  simp at x0 x1 x2 x3 y0 y1 y2 y3 y4 y5 y6 y7
  clear hs0 hr0
  go_wp2_with fail
  refine (pcheck_ok L P _ (H.out.go HS0.out.b) (HP.out.go HS0.out.b)).mono ?_
  rintro e w1 ⟨rfl, hb1⟩
  have HS1 := Lib.hid (HS0.out.go hb1)
  have HR1 := Lib.hid (HR0.out.same (hb1.block _ HR0.out.lt))
  clear hb1 HS0 HR0
  clear x0 x1 x2 x3 y0 y1 y2 y3 y4 y5 y6 y7 xl yl
  have x0 := (HS1.out).x.cell 0
  have x1 := (HS1.out).x.cell 1
  have x2 := (HS1.out).x.cell 2
  have x3 := (HS1.out).x.cell 3
  have y0 := (HS1.out).y.cell 0
  have y1 := (HS1.out).y.cell 1
  have y2 := (HS1.out).y.cell 2
  have y3 := (HS1.out).y.cell 3
  have y4 := (HS1.out).y.cell 4
  have y5 := (HS1.out).y.cell 5
  have y6 := (HS1.out).y.cell 6
  have y7 := (HS1.out).y.cell 7
  have xl := (HS1.out).x.lt
  have yl := (HS1.out).y.lt
  simp at x0 x1 x2 x3 y0 y1 y2 y3 y4 y5 y6 y7
  go_upto_region 4 with fail
  clear x0 x1 x2 x3 y0 y1 y2 y3 y4 y5 y6 y7 xl yl
  have hP1 := HP.out.go HS1.out.b
  refine world_gen (fun w2 => BuS w w2 L P w1.heap.size (.slice none 0 0) (.slice none 0 0) (.slice none 0 0) (.slice none 0 0) (.slice none 0 0)) ⟨HS1.out.go ((Below.refl _ _).alloc (Nat.le_refl _) _), HR1.out.al _, ⟨Blk.new _ _ _, hP1.go ((Below.refl _ _).alloc (Nat.le_refl _) _), hP1.pb (Nat.le_refl _)⟩, HR1.out.lt⟩ ?_
  intro w2 hs2
  have HS2 := Lib.hid hs2
  clear hP1 hs2 HS1 HR1
  generalize w1.heap.size = Bb at *
  go_wp2_with fail
  refine (addev_ok L P Bb _ HS2.out.s).mono ?_
  rintro e w3 ⟨⟨v3, rfl⟩, ht3, vf, ve, hs3, ⟨gf, cf, rfl, hf3, hnf⟩, ⟨ge, ce, rfl, he3, hne⟩⟩
  have HS3 := Lib.hid (HS2.out.tw ht3 hs3)
  have HF3 := Lib.hid hf3
  have HE3 := Lib.hid he3
  clear ht3 hs3 hf3 he3 HS2
  have x17 := HS3.out.s.x.cell 17
  have xl := HS3.out.s.x.lt
  simp at x17
  have x0 := (HS3.out.p).x.cell 0
  have x1 := (HS3.out.p).x.cell 1
  have x2 := (HS3.out.p).x.cell 2
  have x3 := (HS3.out.p).x.cell 3
  have y0 := (HS3.out.p).y.cell 0
  have y1 := (HS3.out.p).y.cell 1
  have y2 := (HS3.out.p).y.cell 2
  have y3 := (HS3.out.p).y.cell 3
  have y4 := (HS3.out.p).y.cell 4
  have y5 := (HS3.out.p).y.cell 5
  have y6 := (HS3.out.p).y.cell 6
  have y7 := (HS3.out.p).y.cell 7
  have xl := (HS3.out.p).x.lt
  have yl := (HS3.out.p).y.lt
  simp at x0 x1 x2 x3 y0 y1 y2 y3 y4 y5 y6 y7
  have xl := HS3.out.s.x.lt
  go_upto_region 8 with fail
  clear x17
  have HL3 := Lib.hid (H.out.go HS3.out.p.b)
  have HP3 := Lib.hid (HP.out.go HS3.out.p.b)
  go_upto_region 9 with (go_at_call 38; refine (rides_ok L P _ HL3.out HP3.out).mono ?_; rintro e w4 ⟨g7, c7, g8, c8, g1, c1, rfl, h7, h8, h1, hb4, l7, l8, l1⟩; clear x0 x1 x2 x3 y0 y1 y2 y3 y4 y5 y6 y7 xl yl; have x13 := (HS3.out.go hb4).s.x.cell 13; have x14 := (HS3.out.go hb4).s.x.cell 14; have fx13 := (HS3.out.go hb4).s.x.frozen 13; have fx14 := (HS3.out.go hb4).s.x.frozen 14; have xl := (HS3.out.go hb4).s.x.lt; simp at x13 x14; have H4 := Lib.hid (And.intro h7 (And.intro h8 (And.intro h1 hb4))); clear h7 h8 h1 hb4)
  have hBl := HS3.out.s.x.lt
  have hw4 := H4.out.2.2.2.size
  have q7 : g7 ≠ Bb := by omega
  have q8 : g8 ≠ Bb := by omega
  have q1 : g1 ≠ Bb := by omega
  have ht5 : Tw Bb w4 ((w4.setCell ⟨Bb, 13, none⟩ (.slice (some ⟨g7, 0, none⟩) 1 c7)).setCell ⟨Bb, 14, none⟩ (.slice (some ⟨g8, 0, none⟩) 1 c8)) := (Tw.set _ _ _ _).tr (Tw.set _ _ _ _)
  have hs5 := (HS3.out.go H4.out.2.2.2).tw ht5 (((HS3.out.go H4.out.2.2.2).s.st 13 (.slice (some ⟨g7, 0, none⟩) 1 c7) (vf' := .slice (some ⟨gf, 0, none⟩) 1 cf) (vo' := .slice (some ⟨g7, 0, none⟩) 1 c7) (vr' := .slice none 0 0) (ve' := .slice (some ⟨ge, 0, none⟩) 2 ce) (va' := .slice none 0 0) rfl).st 14 (.slice (some ⟨g8, 0, none⟩) 1 c8) (vf' := .slice (some ⟨gf, 0, none⟩) 1 cf) (vo' := .slice (some ⟨g7, 0, none⟩) 1 c7) (vr' := .slice (some ⟨g8, 0, none⟩) 1 c8) (ve' := .slice (some ⟨ge, 0, none⟩) 2 ce) (va' := .slice none 0 0) rfl)
  refine world_gen (fun w5 => BuS w w5 L P Bb (.slice (some ⟨gf, 0, none⟩) 1 cf) (.slice (some ⟨g7, 0, none⟩) 1 c7) (.slice (some ⟨g8, 0, none⟩) 1 c8) (.slice (some ⟨ge, 0, none⟩) 2 ce) (.slice none 0 0) ∧ Cs w5 gf [.int .i64 0] ∧ Cs w5 ge evL ∧ Cs w5 g7 [.slice (some ⟨g1, 0, none⟩) 3 c1] ∧ Cs w5 g8 [.int .i64 41] ∧ Cs w5 g1 (ocL (ocF 60) (ocT 65) 3)) ⟨hs5, (HF3.out.go H4.out.2.2.2).tw ht5 hnf, (HE3.out.go H4.out.2.2.2).tw ht5 hne, H4.out.1.tw ht5 q7, H4.out.2.1.tw ht5 q8, H4.out.2.2.1.tw ht5 q1⟩ ?_
  rintro w5 ⟨hs5', hf5, he5, h75, h85, h15⟩
  have HS5 := Lib.hid hs5'
  have HC5 := Lib.hid (And.intro hf5 (And.intro he5 (And.intro h75 (And.intro h85 h15))))
  clear hs5' hf5 he5 h75 h85 h15 ht5 hs5 H4 HS3 HF3 HE3 HL3 HP3 x13 x14 fx13 fx14 xl hBl hw4 l7 l8 l1
  go_wp2_with fail
  refine (joins_ok L P Bb _ _ _ _ _ _ HS5.out.s).mono ?_
  rintro e w6 ⟨⟨v6, rfl⟩, hb6⟩
  have HS6 := Lib.hid (HS5.out.go hb6)
  have HC6 := Lib.hid (And.intro (HC5.out.1.go hb6) (And.intro (HC5.out.2.1.go hb6) (And.intro (HC5.out.2.2.1.go hb6) (And.intro (HC5.out.2.2.2.1.go hb6) (HC5.out.2.2.2.2.go hb6)))))
  clear hb6 HS5 HC5
  go_wp2_with fail
  refine (balone_ok L P Bb g7 c7 g1 c1 _ _ _ _ _ HS6.out.s HC6.out.2.2.1 HC6.out.2.2.2.2).mono ?_
  rintro e w7 ⟨rfl, hb7⟩
  have HS7 := Lib.hid (HS6.out.go hb7)
  have HC7 := Lib.hid (And.intro (HC6.out.1.go hb7) (And.intro (HC6.out.2.1.go hb7) (HC6.out.2.2.2.1.go hb7)))
  clear hb7 HS6 HC6
  go_wp2_with fail
  refine (bplan_ok L P Bb gf cf g8 c8 (.slice (some ⟨g7, 0, none⟩) 1 c7) (.slice (some ⟨ge, 0, none⟩) 2 ce) _ ⟨Tw.rf _ _, HS7.out.s, HC7.out.1, HC7.out.2.2, hnf, q8⟩).mono ?_
  rintro e w8 ⟨⟨v8, rfl⟩, va, hs8, ga, ca, rfl, ha8, hna⟩
  have HS8 := Lib.hid (HS7.out.tw hs8.t hs8.s)
  have HE8 := Lib.hid (HC7.out.2.1.tw hs8.t hne)
  have HA8 := Lib.hid ha8
  clear hs8 ha8 HS7 HC7
  go_wp2_with fail
  refine (heads_ok L P Bb g7 c7 _ _ _ _ _ HS8.out.s).mono ?_
  rintro e w9 ⟨rfl, hw⟩
  subst hw
  have x16 := HS8.out.s.x.cell 16
  have x17 := HS8.out.s.x.cell 17
  have x18 := HS8.out.s.x.cell 18
  have xl := HS8.out.s.x.lt
  have r0 := HS8.out.r.cell 0
  have r1 := HS8.out.r.cell 1
  have r2 := HS8.out.r.cell 2
  have f0 := HS8.out.r.frozen 0
  have f1 := HS8.out.r.frozen 1
  have f2 := HS8.out.r.frozen 2
  have rl := HS8.out.r.lt
  simp at x16 x17 x18 r0 r1 r2
  go_wp2_with fail
  have n1 : ge ≠ w.heap.size + 1 + 1 := fun e => by
    have h1 : w9.cell? ⟨ge, 0, none⟩ = some (.int .i64 1) := HE8.out.c 0 _ rfl
    rw [e, r0] at h1; cases h1
  have n2 : ga ≠ w.heap.size + 1 + 1 := fun e => by
    have h1 : w9.cell? ⟨ga, 0, none⟩ = some (.int .i64 1) := HA8.out.c 0 _ rfl
    rw [e, r0] at h1; cases h1
  have htf := ((Tw.set (w.heap.size + 1 + 1) 0 w9 (.int .i64 300)).tr (Tw.set (w.heap.size + 1 + 1) 1 _ (.slice (some ⟨ge, 0, none⟩) 2 ce))).tr (Tw.set (w.heap.size + 1 + 1) 2 _ (.slice (some ⟨ga, 0, none⟩) 1 ca))
  have hrf : Blk (((w9.setCell ⟨w.heap.size + 1 + 1, 0, none⟩ (.int .i64 300)).setCell ⟨w.heap.size + 1 + 1, 1, none⟩ (.slice (some ⟨ge, 0, none⟩) 2 ce)).setCell ⟨w.heap.size + 1 + 1, 2, none⟩ (.slice (some ⟨ga, 0, none⟩) 1 ca)) (w.heap.size + 1 + 1) 68 (NtA.mk ge ga ce ca).cells := ((HS8.out.r.set_ 0 _).set_ 1 _).set_ 2 _
  refine bodyPost_ret (results_ct rfl _ _ ⟨w.heap.size + 1 + 1, 0, none⟩ _ rfl (run_loadVar_row _ _ _ _ _ (0, 0) _ hrf Tryz.underlying68 rfl (by kernel_rfl))) rfl ?_
  exact ⟨⟨ge, ga, ce, ca⟩, rfl, ⟨HE8.out.tw htf n1, HA8.out.tw htf n2⟩, htf.below HS8.out.p.b (by omega) HS8.out.p.b.size⟩
end Go.Proofs.YtinjdcefagaaeaaGreatDoor
