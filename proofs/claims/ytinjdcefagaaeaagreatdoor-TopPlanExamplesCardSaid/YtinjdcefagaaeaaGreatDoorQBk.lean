import Derived.Test.YtinjdcefagaaeaaGreatDoorQCe
import Derived.Deep.RegionHeld3
set_option linter.unusedVariables false
set_option linter.unusedSimpArgs false
namespace Go.Proofs.YtinjdcefagaaeaaGreatDoor
open Go.RowKit
/-! blocking: fit, Fits, up, down, travelled -/
theorem results_ct {P : Program} {fn : Func} {p u : Tmp} {ty : TypeId} (h : fn.results = #[.cell p ty, .tmp u]) (tmps : Array Value) (w : World) (a : Addr) (va : Value)
    (hp : tmps.getD p undef = .pointer (some a)) (ha : (loadVar ty a).run P w = .ok va w) : (results fn tmps).run P w = .ok (.tuple #[va, tmps.getD u undef]) w := by
  have hp' : tmps[p]?.getD undef = .pointer (some a) := by simpa using hp
  simp [results, h, hp', asAddr, ha, Result.andThen]
set_option maxRecDepth 100000 in
set_option maxHeartbeats 1600000 in
theorem trav_ok (sp c : Nat) (w : World) (hc : 3 ≤ c) : Calls Tryz.prog 94 #[rtV sp c] w fun e w' => e = .returned (.slice (some ⟨sp, 0, none⟩) 3 c) ∧ Below w.heap.size w w' := by
  have hc3 : (3 : Int) ≤ (c : Int) := by omega
  go_enter Tryz.func94, Tryz.ntmps94
  go_wp2_with fail
  go_ret
  exact ⟨rfl, (by repeat (first | exact Below.refl _ _ | (with_reducible refine Below.drew ?_) | (with_reducible refine below_drewN ?_ _) | (with_reducible refine Below.alloc ?_ (by first | omega | (simp; done) | (simp; omega)) _) | (with_reducible refine Below.setCell ?_ (by first | omega | (simp; done) | (simp; omega)) _) | (refine Below.trans ?_ (Below.mono (by with_reducible assumption) (by first | omega | (simp; done) | (simp; omega))))))⟩
set_option maxRecDepth 100000 in
set_option maxHeartbeats 1600000 in
theorem up_ok (v : Int) (w : World) (h1 : 0 ≤ v) (h2 : v ≤ 1000000000000) : Calls Tryz.prog 31 #[.int .i64 v] w fun e w' => e = .returned (.int .i64 (cdiv v 1000)) ∧ w' = w := by
  go_enter Tryz.func31, Tryz.ntmps31
  go_wp2_with fail
  refine (ceil_any v 1000 _ (by omega) (by omega) (by omega)).mono ?_
  rintro e w2 ⟨rfl, rfl⟩
  go_wp2_with fail
  go_ret
  exact ⟨rfl, rfl⟩
set_option maxRecDepth 100000 in
set_option maxHeartbeats 1600000 in
theorem down_ok (v : Int) (w : World) (h1 : 0 ≤ v) (h2 : v ≤ 1000000000000) : Calls Tryz.prog 32 #[.int .i64 v] w fun e w' => e = .returned (.int .i64 (v / 1000)) ∧ w' = w := by
  go_enter Tryz.func32, Tryz.ntmps32
  go_wp2_with fail
  refine (floor_any v 1000 _ (by omega) (by omega) (by omega)).mono ?_
  rintro e w2 ⟨rfl, rfl⟩
  go_wp2_with fail
  go_ret
  exact ⟨rfl, rfl⟩
structure FtS (w wr : World) (L : LyA) (sp c : Nat) : Prop where
  b : Below w.heap.size w wr
  x : Blk wr w.heap.size 26 L.cs
  r : Blk wr (w.heap.size + 1) 44 (rtC sp c)
  k : Blk wr (w.heap.size + 2) 46 stkC
theorem FtS.go {w wr w' : World} {L : LyA} {sp c : Nat} (h : FtS w wr L sp c) (hb : Below wr.heap.size wr w') : FtS w w' L sp c := ⟨h.b.trans (hb.mono h.b.size), h.x.same (hb.block _ h.x.lt), h.r.same (hb.block _ h.r.lt), h.k.same (hb.block _ h.k.lt)⟩
theorem FtS.grow {w wr w' : World} {L : LyA} {sp c : Nat} {row : Option Nat} (h : FtS w wr L sp c) (hg : wr.grownBy w' row) (hr : ∀ k, row = some k → w.heap.size + 3 ≤ k) : FtS w w' L sp c :=
  ⟨h.b.grown hg h.b.size (fun k hk => by have := hr k hk; omega), h.x.same (hg.block _ h.x.lt (fun e => by have := hr _ e.symm; omega)), h.r.same (hg.block _ h.r.lt (fun e => by have := hr _ e.symm; omega)), h.k.same (hg.block _ h.k.lt (fun e => by have := hr _ e.symm; omega))⟩
theorem CelR.far {w : World} {A : Option Addr} {n q i : Nat} {u : Value} (h : CelR w A n) (hq : ∀ p, A = some p → p.block ≠ q) : CelR (w.setCell ⟨q, i, none⟩ u) A n := by
  refine ⟨h.1, fun hn => ?_⟩
  obtain ⟨b, off, rfl, hb, hc⟩ := h.2 hn
  have hs : (w.setCell ⟨q, i, none⟩ u).heap.size = w.heap.size := by show (w.heap.modify _ _).size = _; rw [Array.size_modify]
  exact ⟨b, off, rfl, by rw [hs]; exact hb, fun j v hj => (World.cell?_of_block (Below.heap_setCell _ _ _ _ (hq _ rfl))).trans (hc j v hj)⟩
structure FiS (w wr : World) (L : LyA) (sp c : Nat) (A : Option Addr) : Prop where
  s : FtS w wr L sp c
  m : Blk wr (w.heap.size + 3) 195 #[.slice none 0 0, .int .i64 0]
  a : CelR wr A 30
  n : ∀ p, A = some p → w.heap.size + 4 ≤ p.block
theorem FiS.go {w wr w' : World} {L : LyA} {sp c : Nat} {A : Option Addr} (h : FiS w wr L sp c A) (hb : Below wr.heap.size wr w') : FiS w w' L sp c A := ⟨h.s.go hb, h.m.same (hb.block _ h.m.lt), h.a.go hb, h.n⟩
def FiL (w : World) (L : LyA) (sp c : Nat) (A : Option Addr) (k : Nat) (v : Value) (wr : World) : Prop := ∃ j : Nat, v = .int .i64 j ∧ j + k = 3 ∧ FiS w wr L sp c A
set_option maxRecDepth 100000 in
set_option maxHeartbeats 6400000 in
theorem fit_ok (L : LyA) (sp c : Nat) (w : World) (h : LayM w L) (hr : Cs w sp stpL) (hc : 3 ≤ c) :
    Calls Tryz.prog 92 #[L.v, rtV sp c, stkV] w fun e w' => ∃ A cc, e = .returned (.tuple #[.agg #[.slice A 30 cc, .int .i64 10], .int .i64 0]) ∧ CelR w' A 30 ∧ (∀ p, A = some p → w.heap.size ≤ p.block) ∧ 30 ≤ cc ∧ Below w.heap.size w w' := by
  have H := Lib.hid h
  have HR := Lib.hid hr
  clear h hr
  go_enter Tryz.func92, Tryz.ntmps92
  go_upto_region 1 with fail
  refine world_gen (fun w0 => FtS w w0 L sp c ∧ Blk w0 (w.heap.size + 3) 195 #[.slice none 0 0, .int .i64 0]) ⟨⟨(by repeat (first | exact Below.refl _ _ | (with_reducible refine Below.drew ?_) | (with_reducible refine below_drewN ?_ _) | (with_reducible refine Below.alloc ?_ (by first | omega | (simp; done) | (simp; omega)) _) | (with_reducible refine Below.setCell ?_ (by first | omega | (simp; done) | (simp; omega)) _) | (refine Below.trans ?_ (Below.mono (by with_reducible assumption) (by first | omega | (simp; done) | (simp; omega)))))), (by repeat (first | (refine Blk.new' _ _ _ _ ?_; first | rfl | (simp <;> omega)) | refine Blk.al ?_ _ | refine Blk.dr ?_ | refine Blk.drN ?_ _ | refine Blk.far ?_ (by first | omega | (simp; omega)))), (by repeat (first | (refine Blk.new' _ _ _ _ ?_; first | rfl | (simp <;> omega)) | refine Blk.al ?_ _ | refine Blk.dr ?_ | refine Blk.drN ?_ _ | refine Blk.far ?_ (by first | omega | (simp; omega)))), (by repeat (first | (refine Blk.new' _ _ _ _ ?_; first | rfl | (simp <;> omega)) | refine Blk.al ?_ _ | refine Blk.dr ?_ | refine Blk.drN ?_ _ | refine Blk.far ?_ (by first | omega | (simp; omega))))⟩, (by repeat (first | (refine Blk.new' _ _ _ _ ?_; first | rfl | (simp <;> omega)) | refine Blk.al ?_ _ | refine Blk.dr ?_ | refine Blk.drN ?_ _ | refine Blk.far ?_ (by first | omega | (simp; omega))))⟩ ?_
  rintro w0 ⟨hs0, hm0⟩
  have HS0 := Lib.hid hs0
  have HM0 := Lib.hid hm0
  have x0 := hs0.x.cell 0
  have x1 := hs0.x.cell 1
  have x2 := hs0.x.cell 2
  have x3 := hs0.x.cell 3
  have r0 := hs0.r.cell 0
  have r1 := hs0.r.cell 1
  simp at x0 x1 x2 x3 r0 r1
  clear hs0 hm0
  go_wp2_with fail
  refine (cells_ok L sp c _ (H.out.go HS0.out.b) (HR.out.go HS0.out.b) hc).mono ?_
  rintro e w1 ⟨A, cc, rfl, ha1, hn1, hcc, hb1⟩
  have HS1 := Lib.hid (show FiS w w1 L sp c A from ⟨HS0.out.go hb1, HM0.out.same (hb1.block _ HM0.out.lt), ha1, fun p hp => by have := hn1 p hp; have := HM0.out.lt; omega⟩)
  clear hn1
  clear hb1 ha1 HS0 HM0 x0 x1 x2 x3 r0 r1
  have k0 := HS1.out.s.k.cell 0
  have k1 := HS1.out.s.k.cell 1
  have k2 := HS1.out.s.k.cell 2
  have k3 := HS1.out.s.k.cell 3
  have k4 := HS1.out.s.k.cell 4
  simp [stkC] at k0 k1 k2 k3 k4
  go_wp2_with fail
  refine (dchk_ex _).mono ?_
  rintro e w2 ⟨rfl, hb2⟩
  have HS2 := Lib.hid (HS1.out.go hb2)
  clear hb2 HS1 k0 k1 k2 k3 k4
  have r0 := HS2.out.s.r.cell 0
  have r1 := HS2.out.s.r.cell 1
  simp at r0 r1
  go_wp2_with fail
  refine (trav_ok sp c _ hc).mono ?_
  rintro e w3 ⟨rfl, hb3⟩
  have HS3 := Lib.hid (HS2.out.go hb3)
  clear hb3 HS2 r0 r1
  go_wp2_with fail
  go_loopg [31] 3 (fun k v wr => FiL w L sp c A k v wr)
  case atStart => exact ⟨0, rfl, rfl, HS3.out⟩
  case round =>
    obtain ⟨j, rfl, hj, hs⟩ := hrel
    have HS := Lib.hid hs
    have Hj := Lib.hid hj
    clear hs hj HS3
    by_cases hlt : j < 3
    · have hrc := HR.out.go HS.out.s.b
      obtain ⟨d0, d1⟩ := stp_at hrc j hlt
      have dl := hrc.lt
      clear hrc
      go_upto_region 9 with fail
      refine world_gen (fun w4 => FiS w w4 L sp c A ∧ Blk w4 wr.heap.size 113 #[.int .i64 j, .int .i64 0]) ⟨HS.out.go (by repeat (first | exact Below.refl _ _ | (with_reducible refine Below.drew ?_) | (with_reducible refine below_drewN ?_ _) | (with_reducible refine Below.alloc ?_ (by first | omega | (simp; done) | (simp; omega)) _) | (with_reducible refine Below.setCell ?_ (by first | omega | (simp; done) | (simp; omega)) _) | (refine Below.trans ?_ (Below.mono (by with_reducible assumption) (by first | omega | (simp; done) | (simp; omega)))))), (by repeat (first | (refine Blk.new' _ _ _ _ ?_; first | rfl | (simp <;> omega)) | refine Blk.al ?_ _ | refine Blk.dr ?_ | refine Blk.drN ?_ _ | refine Blk.far ?_ (by first | omega | (simp; omega))))⟩ ?_
      rintro w4 ⟨hs4, hk4⟩
      have HS4 := Lib.hid hs4
      have hlm := H.out.go hs4.s.b
      obtain ⟨s0, s1, s2, s3, s4⟩ := hlm.sec j hlt
      have sl := hlm.se.lt
      have x2 := hs4.s.x.cell 2
      have xl := hs4.s.x.lt
      have k1 := hs4.s.k.cell 1
      have kl := hs4.s.k.lt
      have z0 := hk4.cell 0
      have zl := hk4.lt
      simp [stkC] at x2 k1 z0
      have hj3 : (j : Int) < 3 := by omega
      clear hs4 hk4 HS hlm d0 d1
      refine wp_region_overL (by kernel_rfl) (by kernel_rfl) ?_
      repeat (go_big_quiet_step (fail))
      refine wpQuiet_nil ?_
      intro w5 hb5
      have HS5 := Lib.hid (HS4.out.go hb5)
      clear hb5 HS4 s0 s1 s2 s3 s4 x2 k1 z0
      go_wp2_with fail
      go_roundg (3 - j - 1)
      case measure => have := Hj.out; omega
      case rel => exact ⟨j + 1, by first | rfl | go_num, by have := Hj.out; omega, HS5.out⟩
    · obtain rfl : j = 3 := by have := Hj.out; omega
      have m0 := HS.out.m.cell 0
      have m1 := HS.out.m.cell 1
      have f0 := HS.out.m.frozen 0
      have f1 := HS.out.m.frozen 1
      have ml := HS.out.m.lt
      simp at m0 m1
      go_wp2_with fail
      have HBX := Lib.hid HS.out.s.b
      have HR2 := Lib.hid (show Blk ((wr.setCell ⟨w.heap.size + 1 + 1 + 1, 0, none⟩ (.slice A 30 cc)).setCell ⟨w.heap.size + 1 + 1 + 1, 1, none⟩ (.int .i64 10)) (w.heap.size + 1 + 1 + 1) 195 #[.slice A 30 cc, .int .i64 10] from (HS.out.m.set_ 0 _).set_ 1 _)
      refine bodyPost_ret (results_ct rfl _ _ ⟨w.heap.size + 1 + 1 + 1, 0, none⟩ _ rfl (run_loadVar_row _ _ _ _ _ (0, 0) _ HR2.out Tryz.underlying195 rfl (by kernel_rfl))) rfl ?_
      exact ⟨A, cc, rfl, (HS.out.a.far (fun p hp => by have := HS.out.n p hp; omega)).far (fun p hp => by have := HS.out.n p hp; omega), fun p hp => by have := HS.out.n p hp; omega, hcc, (by have hbelh := HBX.out; have hbels := hbelh.size; exact (by repeat (first | exact Below.refl _ _ | (with_reducible refine Below.drew ?_) | (with_reducible refine below_drewN ?_ _) | (with_reducible refine Below.alloc ?_ (by first | omega | (simp; done) | (simp; omega)) _) | (with_reducible refine Below.setCell ?_ (by first | omega | (simp; done) | (simp; omega)) _) | (refine Below.trans ?_ (Below.mono (by with_reducible assumption) (by first | omega | (simp; done) | (simp; omega)))))))⟩
set_option maxRecDepth 100000 in
set_option maxHeartbeats 1600000 in
theorem fits_ok (L : LyA) (sp c : Nat) (w : World) (h : LayM w L) (hr : Cs w sp stpL) (hc : 3 ≤ c) :
    Calls Tryz.prog 166 #[L.v, rtV sp c, stkV] w fun e w' => e = .returned (.int .i64 0) ∧ Below w.heap.size w w' := by
  have H := Lib.hid h
  have HR := Lib.hid hr
  clear h hr
  go_enter Tryz.func166, Tryz.ntmps166
  go_upto_region 1 with fail
  refine world_gen (fun w0 => FtS w w0 L sp c) ⟨(by repeat (first | exact Below.refl _ _ | (with_reducible refine Below.drew ?_) | (with_reducible refine below_drewN ?_ _) | (with_reducible refine Below.alloc ?_ (by first | omega | (simp; done) | (simp; omega)) _) | (with_reducible refine Below.setCell ?_ (by first | omega | (simp; done) | (simp; omega)) _) | (refine Below.trans ?_ (Below.mono (by with_reducible assumption) (by first | omega | (simp; done) | (simp; omega)))))), (by repeat (first | (refine Blk.new' _ _ _ _ ?_; first | rfl | (simp <;> omega)) | refine Blk.al ?_ _ | refine Blk.dr ?_ | refine Blk.drN ?_ _ | refine Blk.far ?_ (by first | omega | (simp; omega)))), (by repeat (first | (refine Blk.new' _ _ _ _ ?_; first | rfl | (simp <;> omega)) | refine Blk.al ?_ _ | refine Blk.dr ?_ | refine Blk.drN ?_ _ | refine Blk.far ?_ (by first | omega | (simp; omega)))), (by repeat (first | (refine Blk.new' _ _ _ _ ?_; first | rfl | (simp <;> omega)) | refine Blk.al ?_ _ | refine Blk.dr ?_ | refine Blk.drN ?_ _ | refine Blk.far ?_ (by first | omega | (simp; omega))))⟩ ?_
  rintro w0 hs0
  have HS0 := Lib.hid hs0
  have x0 := hs0.x.cell 0
  have x1 := hs0.x.cell 1
  have x2 := hs0.x.cell 2
  have x3 := hs0.x.cell 3
  have r0 := hs0.r.cell 0
  have r1 := hs0.r.cell 1
  have k0 := hs0.k.cell 0
  have k1 := hs0.k.cell 1
  have k2 := hs0.k.cell 2
  have k3 := hs0.k.cell 3
  have k4 := hs0.k.cell 4
  simp [stkC] at x0 x1 x2 x3 r0 r1 k0 k1 k2 k3 k4
  clear hs0
  go_wp2_with fail
  refine (fit_ok L sp c _ (H.out.go HS0.out.b) (HR.out.go HS0.out.b) hc).mono ?_
  rintro e w1 ⟨A, cc, rfl, _, _, _, hb1⟩
  have HB1 := Lib.hid (HS0.out.go hb1).b
  clear hb1
  go_wp2_with fail
  go_ret
  exact ⟨rfl, (by have hbelh := HB1.out; have hbels := hbelh.size; exact (by repeat (first | exact Below.refl _ _ | (with_reducible refine Below.drew ?_) | (with_reducible refine below_drewN ?_ _) | (with_reducible refine Below.alloc ?_ (by first | omega | (simp; done) | (simp; omega)) _) | (with_reducible refine Below.setCell ?_ (by first | omega | (simp; done) | (simp; omega)) _) | (refine Below.trans ?_ (Below.mono (by with_reducible assumption) (by first | omega | (simp; done) | (simp; omega)))))))⟩
end Go.Proofs.YtinjdcefagaaeaaGreatDoor
namespace Go.Proofs.YtinjdcefagaaeaaGreatDoor
open Go.RowKit
/-! blocking.Times -/
theorem results_4 {P : Program} {fn : Func} {p q r t : Tmp} (h : fn.results = #[.tmp p, .tmp q, .tmp r, .tmp t]) (tmps : Array Value) (w : World) :
    (results fn tmps).run P w = .ok (.tuple #[tmps.getD p undef, tmps.getD q undef, tmps.getD r undef, tmps.getD t undef]) w := by
  simp [results, h, Result.andThen]
structure TmC (w : World) (g : Nat) : Prop where
  lt : g < w.heap.size
  c0 : w.cell? ⟨g, 0, none⟩ = some (.int .i64 0)
  c5 : w.cell? ⟨g, 5, none⟩ = some (.int .i64 14146)
  c10 : w.cell? ⟨g, 10, none⟩ = some (.int .i64 20007)
  c15 : w.cell? ⟨g, 15, none⟩ = some (.int .i64 25868)
  c20 : w.cell? ⟨g, 20, none⟩ = some (.int .i64 40014)
theorem TmC.same {w w' : World} {g : Nat} (h : TmC w g) (hs : w'.heap[g]? = w.heap[g]?) (hz : w.heap.size ≤ w'.heap.size) : TmC w' g :=
  ⟨Nat.lt_of_lt_of_le h.lt hz, (World.cell?_of_block hs).trans h.c0, (World.cell?_of_block hs).trans h.c5, (World.cell?_of_block hs).trans h.c10, (World.cell?_of_block hs).trans h.c15, (World.cell?_of_block hs).trans h.c20⟩
theorem TmC.go {w w' : World} {g : Nat} (h : TmC w g) (hb : Below w.heap.size w w') : TmC w' g := h.same (hb.block _ h.lt) hb.size
theorem tv0 : tiF (spdL 21) 0 = 0 := by decide +kernel
theorem tv5 : tiF (spdL 21) 5 = 14146 := by decide +kernel
theorem tv10 : tiF (spdL 21) 10 = 20007 := by decide +kernel
theorem tv15 : tiF (spdL 21) 15 = 25868 := by decide +kernel
theorem tv20 : tiF (spdL 21) 20 = 40014 := by decide +kernel
theorem tm_of {w w' : World} {g : Nat} (h : OwI w w' g 21 (preL (tiF (spdL 21)) 21 21)) : TmC w' g := by
  have hq : ∀ q x, q < 21 → tiF (spdL 21) q = x → w'.cell? ⟨g, q, none⟩ = some (.int .i64 x) := fun q x hq hx => by
    rw [h.o.cellAt q (by omega), List.getElem?_map, pre_get hq, if_pos hq, hx]; rfl
  exact ⟨(own_block h.o g rfl).2, hq 0 _ (by omega) tv0, hq 5 _ (by omega) tv5, hq 10 _ (by omega) tv10, hq 15 _ (by omega) tv15, hq 20 _ (by omega) tv20⟩
/-- an owned row of ints -/
def InO (w : World) (base : Nat) (v : Value) (xs : List Int) : Prop := w.ownsRow base 3 1 v xs.length (xs.map (Value.int .i64))
theorem InO.app {w w' : World} {base n : Nat} {v' : Value} {xs : List Int} {x : Int} (h : w'.ownsRow base 3 1 v' (n + 1) (xs.map (Value.int .i64) ++ [.int .i64 x])) (hn : n = xs.length) : InO w' base v' (xs ++ [x]) := by
  unfold InO
  rw [List.length_append, List.map_append, ← hn]
  exact h
theorem InO.rd {w : World} {base n c : Nat} {A : Option Addr} {xs : List Int} (h : InO w base (.slice A n c) xs) : n = xs.length := by
  rcases h.2 with ⟨h', h0⟩ | ⟨g', cap', cur, h', _⟩
  · injection h' with _ h2 _; omega
  · injection h' with _ h2 _
/-- the rows of enter and leave -/
structure TmR (w wr : World) (L : LyA) (sp c g : Nat) (B : Nat) (ve vl : Value) (xe xl : List Int) : Prop where
  s : FtS w wr L sp c
  t : TmC wr g
  e : InO wr B ve xe
  l : InO wr B vl xl
  n : ∀ k, ve.ownBlock = some k → vl.ownBlock ≠ some k
  gb : g < B
  bb : w.heap.size + 3 ≤ B
  bs : B ≤ wr.heap.size
theorem TmR.go {w wr w' : World} {L : LyA} {sp c g B : Nat} {ve vl : Value} {xe xl : List Int} (h : TmR w wr L sp c g B ve vl xe xl) (hb : Below wr.heap.size wr w') : TmR w w' L sp c g B ve vl xe xl :=
  ⟨h.s.go hb, h.t.go hb, own_grow h.e hb, own_grow h.l hb, h.n, h.gb, h.bb, Nat.le_trans h.bs hb.size⟩
theorem TmR.appE {w wr w' : World} {L : LyA} {sp c g B : Nat} {ve vl v' : Value} {xe xl : List Int} {x : Int} {t : TypeId} {cs : Array Value} (h : TmR w wr L sp c g B ve vl xe xl)
    (ho : w'.ownsRow B 3 1 v' (xe.length + 1) (xe.map (Value.int .i64) ++ [.int .i64 x])) (hg : (wr.alloc (.cells cs t)).grownBy w' ve.ownBlock) (ha : v'.ownBlock = ve.ownBlock ∨ v'.ownBlock = some (wr.alloc (.cells cs t)).heap.size) : TmR w w' L sp c g B v' vl (xe ++ [x]) xl := by
  have h1 := h.go (w' := wr.alloc (.cells cs t)) ((Below.refl _ _).alloc (Nat.le_refl _) _)
  have hr : ∀ k, ve.ownBlock = some k → B ≤ k := fun k hk => (own_block h.e k hk).1
  refine ⟨h1.s.grow hg (fun k hk => by have := hr k hk; have := h.bb; omega), h1.t.same (hg.block _ h1.t.lt (fun e => by have := hr _ e.symm; have := h.gb; omega)) hg.size, InO.app (w := w) ho rfl, h1.l.kept hg ?_, ?_, h.gb, h.bb, Nat.le_trans h1.bs hg.size⟩
  · cases hv : vl.ownBlock with
    | none => exact .inl rfl
    | some k => exact .inr (fun e => h.n k e.symm hv)
  · intro k hk e
    rcases ha with ha | ha
    · exact h.n k (by rw [← ha]; exact hk) e
    · rw [hk] at ha; injection ha with ha; have := (own_block h1.l k e).2; omega
theorem TmR.swap {w wr : World} {L : LyA} {sp c g B : Nat} {ve vl : Value} {xe xl : List Int} (h : TmR w wr L sp c g B ve vl xe xl) : TmR w wr L sp c g B vl ve xl xe :=
  ⟨h.s, h.t, h.l, h.e, fun k hk e => h.n k e hk, h.gb, h.bb, h.bs⟩
def TmL (w : World) (L : LyA) (sp c g B k : Nat) (v6 v7 v14 v : Value) (wr : World) : Prop :=
  (k = 3 ∧ v = .int .i64 0 ∧ v14 = .int .i64 0 ∧ TmR w wr L sp c g B v6 v7 [] []) ∨
  (k = 2 ∧ v = .int .i64 1 ∧ v14 = .int .i64 0 ∧ TmR w wr L sp c g B v6 v7 [0] [14146]) ∨
  (k = 1 ∧ v = .int .i64 2 ∧ v14 = .int .i64 10 ∧ TmR w wr L sp c g B v6 v7 [0, 0] [14146, 25868]) ∨
  (k = 0 ∧ v = .int .i64 3 ∧ v14 = .int .i64 20 ∧ TmR w wr L sp c g B v6 v7 [0, 0, 20007] [14146, 25868])
set_option maxRecDepth 100000 in
set_option maxHeartbeats 6400000 in
theorem btimes_ok (L : LyA) (sp c : Nat) (w : World) (h : LayM w L) (hr : Cs w sp stpL) (hc : 3 ≤ c) :
    Calls Tryz.prog 30 #[L.v, rtV sp c, stkV] w fun e w' => ∃ ve vl, e = .returned (.tuple #[ve, vl, .int .i64 41, .int .i64 0]) ∧ InO w' w.heap.size ve [0, 0, 20007] ∧ InO w' w.heap.size vl [14146, 25868, 40014] ∧ Below w.heap.size w w' := by
  have H := Lib.hid h
  have HR := Lib.hid hr
  clear h hr
  obtain ⟨i0, b1, b2, b3, b4⟩ := info_parts infoI
  have HI := Lib.hid (And.intro b1 (And.intro b2 (And.intro b3 b4)))
  clear b1 b2 b3 b4
  go_enter Tryz.func30, Tryz.ntmps30
  go_upto_region 1 with fail
  refine world_gen (fun w0 => FtS w w0 L sp c) ⟨(by repeat (first | exact Below.refl _ _ | (with_reducible refine Below.drew ?_) | (with_reducible refine below_drewN ?_ _) | (with_reducible refine Below.alloc ?_ (by first | omega | (simp; done) | (simp; omega)) _) | (with_reducible refine Below.setCell ?_ (by first | omega | (simp; done) | (simp; omega)) _) | (refine Below.trans ?_ (Below.mono (by with_reducible assumption) (by first | omega | (simp; done) | (simp; omega)))))), (by repeat (first | (refine Blk.new' _ _ _ _ ?_; first | rfl | (simp <;> omega)) | refine Blk.al ?_ _ | refine Blk.dr ?_ | refine Blk.drN ?_ _ | refine Blk.far ?_ (by first | omega | (simp; omega)))), (by repeat (first | (refine Blk.new' _ _ _ _ ?_; first | rfl | (simp <;> omega)) | refine Blk.al ?_ _ | refine Blk.dr ?_ | refine Blk.drN ?_ _ | refine Blk.far ?_ (by first | omega | (simp; omega)))), (by repeat (first | (refine Blk.new' _ _ _ _ ?_; first | rfl | (simp <;> omega)) | refine Blk.al ?_ _ | refine Blk.dr ?_ | refine Blk.drN ?_ _ | refine Blk.far ?_ (by first | omega | (simp; omega))))⟩ ?_
  rintro w0 hs0
  have HS0 := Lib.hid hs0
  have x0 := hs0.x.cell 0
  have x1 := hs0.x.cell 1
  have x2 := hs0.x.cell 2
  have x3 := hs0.x.cell 3
  have r0 := hs0.r.cell 0
  have r1 := hs0.r.cell 1
  have k0 := hs0.k.cell 0
  have k1 := hs0.k.cell 1
  have k2 := hs0.k.cell 2
  have k3 := hs0.k.cell 3
  have k4 := hs0.k.cell 4
  simp [stkC] at x0 x1 x2 x3 r0 r1 k0 k1 k2 k3 k4
  clear hs0
  go_wp2_with fail
  refine (fit_ok L sp c _ (H.out.go HS0.out.b) (HR.out.go HS0.out.b) hc).mono ?_
  rintro e w1 ⟨A, cc, rfl, ha1, _, hcc, hb1⟩
  have HS1 := Lib.hid (HS0.out.go hb1)
  have HA1 := Lib.hid ha1
  clear hb1 ha1 HS0 x0 x1 x2 x3 r0 r1 k0 k1 k2 k3 k4
  go_upto_region 4 with fail
  refine world_gen (fun w2 => FtS w w2 L sp c ∧ CelR w2 A 30 ∧ Blk w2 w1.heap.size 195 #[.slice A 30 cc, .int .i64 10]) ⟨HS1.out.go (by repeat (first | exact Below.refl _ _ | (with_reducible refine Below.drew ?_) | (with_reducible refine below_drewN ?_ _) | (with_reducible refine Below.alloc ?_ (by first | omega | (simp; done) | (simp; omega)) _) | (with_reducible refine Below.setCell ?_ (by first | omega | (simp; done) | (simp; omega)) _) | (refine Below.trans ?_ (Below.mono (by with_reducible assumption) (by first | omega | (simp; done) | (simp; omega)))))), HA1.out.go (by repeat (first | exact Below.refl _ _ | (with_reducible refine Below.drew ?_) | (with_reducible refine below_drewN ?_ _) | (with_reducible refine Below.alloc ?_ (by first | omega | (simp; done) | (simp; omega)) _) | (with_reducible refine Below.setCell ?_ (by first | omega | (simp; done) | (simp; omega)) _) | (refine Below.trans ?_ (Below.mono (by with_reducible assumption) (by first | omega | (simp; done) | (simp; omega)))))), (by repeat (first | (refine Blk.new' _ _ _ _ ?_; first | rfl | (simp <;> omega)) | refine Blk.al ?_ _ | refine Blk.dr ?_ | refine Blk.drN ?_ _ | refine Blk.far ?_ (by first | omega | (simp; omega))))⟩ ?_
  rintro w2 ⟨hs2, ha2, hm2⟩
  have HS2 := Lib.hid hs2
  have HA2 := Lib.hid ha2
  have m0 := hm2.cell 0
  have m1 := hm2.cell 1
  have k0 := hs2.k.cell 0
  have k1 := hs2.k.cell 1
  have k2 := hs2.k.cell 2
  have k3 := hs2.k.cell 3
  have k4 := hs2.k.cell 4
  simp [stkC] at m0 m1 k0 k1 k2 k3 k4
  clear hs2 ha2 hm2 HS1 HA1
  go_wp2_with fail
  refine (times_ex A 30 cc 10 _ HA2.out (by omega) (by omega) (by omega) hcc 21 rfl _ rfl spd_ok).mono ?_
  rintro e w3 ⟨g, rfl, ho3⟩
  have HS3 := Lib.hid (HS2.out.go ho3.b)
  have HT3 := Lib.hid (tm_of ho3)
  clear ho3 HS2 HA2 m0 m1 k0 k1 k2 k3 k4
  have r0 := HS3.out.r.cell 0
  have r1 := HS3.out.r.cell 1
  simp at r0 r1
  go_wp2_with fail
  refine (trav_ok sp c _ hc).mono ?_
  rintro e w4 ⟨rfl, hb4⟩
  have HS4 := Lib.hid (HS3.out.go hb4)
  have HT4 := Lib.hid (HT3.out.go hb4)
  clear hb4 HS3 HT3 r0 r1
  have HR4 := Lib.hid (show TmR w w4 L sp c g w4.heap.size (.slice none 0 0) (.slice none 0 0) [] [] from ⟨HS4.out, HT4.out, World.ownsRow_nil _ _ _ _, World.ownsRow_nil _ _ _ _, fun k hk => by simp [Value.ownBlock] at hk, HT4.out.lt, HS4.out.k.lt, Nat.le_refl _⟩)
  clear HS4 HT4
  generalize w4.heap.size = B at *
  go_wp2_with fail
  go_loopg [6, 7, 14, 40] 3 (fun k v6 v7 v14 v wr => TmL w L sp c g B k v6 v7 v14 v wr)
  case atStart => exact .inl ⟨rfl, rfl, rfl, HR4.out⟩
  case round =>
    rcases hrel with ⟨rfl, rfl, rfl, hs⟩ | ⟨rfl, rfl, rfl, hs⟩ | ⟨rfl, rfl, rfl, hs⟩ | ⟨rfl, rfl, rfl, hs⟩
    · skip
      have HS := Lib.hid hs
      clear hs HR4
      have hrc := HR.out.go HS.out.s.b
      obtain ⟨d0, d1⟩ := stp_at hrc 0 (by omega)
      have dl := hrc.lt
      simp at d0 d1
      clear hrc
      go_upto_region 10 with fail
      refine world_gen (fun w5 => TmR w w5 L sp c g B u6 u7 [] [] ∧ Blk w5 wr.heap.size 113 #[.int .i64 0, .int .i64 0]) ⟨HS.out.go (by repeat (first | exact Below.refl _ _ | (with_reducible refine Below.drew ?_) | (with_reducible refine below_drewN ?_ _) | (with_reducible refine Below.alloc ?_ (by first | omega | (simp; done) | (simp; omega)) _) | (with_reducible refine Below.setCell ?_ (by first | omega | (simp; done) | (simp; omega)) _) | (refine Below.trans ?_ (Below.mono (by with_reducible assumption) (by first | omega | (simp; done) | (simp; omega)))))), (by repeat (first | (refine Blk.new' _ _ _ _ ?_; first | rfl | (simp <;> omega)) | refine Blk.al ?_ _ | refine Blk.dr ?_ | refine Blk.drN ?_ _ | refine Blk.far ?_ (by first | omega | (simp; omega))))⟩ ?_
      rintro w5 ⟨hs5, hz5⟩
      have HS5 := Lib.hid hs5
      have HZ5 := Lib.hid hz5
      have e5 := hs5.e
      have tq := hs5.t.c0
      have tl := hs5.t.lt
      have bs := hs5.bs
      have hzb : ∀ k, u6.ownBlock = some k → k ≠ wr.heap.size := fun k hk e => by
        have h1 := (own_block HS.out.e k hk).2
        omega
      have HZB := Lib.hid hzb
      unfold InO at e5
      simp only [List.length_cons, List.length_nil, List.map_cons, List.map_nil, Nat.zero_add, Nat.reduceAdd] at e5
      have HE5 := Lib.hid e5
      obtain ⟨A6, c6, rfl, _, _⟩ := own_slice e5
      clear hs5 hz5 e5 hzb HS d0 d1 dl
      go_upto_region 11 with (at_builtin; refine wpList_append_own_at _ rfl _ _ 47 rfl (B) 3 i0 _ 1 8 Tryz.underlying47 HI.out.1 HI.out.2.1 HI.out.2.2.1 HI.out.2.2.2 rfl (by omega) _ 0 _ rfl (World.ownsRow.alloc HE5.out _) ⟨w5.heap.size, 0, none⟩ 1 1 [.int .i64 0] rfl rfl ?c0 ?c1 ?c2 ?c3 ?c4 ?_; rotate_right; intro v' w' hown' hg' _ hat')
      case c0 => exact news_new _ _ _
      case c1 => intro u hu; simp at hu; subst hu; rfl
      case c2 => simp only [maxLen]; omega
      case c3 => omega
      case c4 => simp; omega
      have HS6 := Lib.hid (HS5.out.appE (x := 0) hown' hg' hat')
      have HZ6 := Lib.hid (((HZ5.out.al _).same (hg'.block _ (HZ5.out.al _).lt (fun e => HZB.out _ e.symm rfl)) : Blk w' wr.heap.size 113 _))
      clear HS5 HZ5 HE5 hown' hg' hat' tq tl bs HZB
      have hlm := H.out.go HS6.out.s.b
      obtain ⟨s0, s1, s2, s3, s4⟩ := hlm.sec 0 (by omega)
      have sl := hlm.se.lt
      have x2 := HS6.out.s.x.cell 2
      have xl := HS6.out.s.x.lt
      have k1 := HS6.out.s.k.cell 1
      have z0 := HZ6.out.cell 0
      simp [stkC] at x2 k1 z0 s0 s1 s2 s3 s4
      clear hlm
      go_upto_region 14 with fail
      have e6 := HS6.out.l
      have tq := HS6.out.t.c5
      have tl := HS6.out.t.lt
      have bs := HS6.out.bs
      unfold InO at e6
      simp only [List.length_cons, List.length_nil, List.map_cons, List.map_nil, Nat.zero_add, Nat.reduceAdd] at e6
      have HE6 := Lib.hid e6
      obtain ⟨A7, c7, rfl, _, _⟩ := own_slice e6
      clear e6
      generalize hw6 : w' = w6 at *
      clear hw6
      go_upto_region 15 with (at_builtin; refine wpList_append_own_at _ rfl _ _ 47 rfl (B) 3 i0 _ 1 8 Tryz.underlying47 HI.out.1 HI.out.2.1 HI.out.2.2.1 HI.out.2.2.2 rfl (by omega) _ 0 _ rfl (World.ownsRow.alloc HE6.out _) ⟨w6.heap.size, 0, none⟩ 1 1 [.int .i64 14146] rfl rfl ?c0 ?c1 ?c2 ?c3 ?c4 ?_; rotate_right; intro v' w' hown' hg' _ hat')
      case c0 => exact news_new _ _ _
      case c1 => intro u hu; simp at hu; subst hu; rfl
      case c2 => simp only [maxLen]; omega
      case c3 => omega
      case c4 => simp; omega
      have HS7 := Lib.hid (HS6.out.swap.appE (x := 14146) hown' hg' hat').swap
      clear HS6 HZ6 HE6 hown' hg' hat' tq tl bs s0 s1 s2 s3 s4 x2 k1 z0
      go_wp2_with fail
      go_roundg 2
      case measure => omega
      case rel => exact .inr (.inl ⟨rfl, rfl, rfl, HS7.out⟩)
    · skip
      have HS := Lib.hid hs
      clear hs HR4
      have hrc := HR.out.go HS.out.s.b
      obtain ⟨d0, d1⟩ := stp_at hrc 1 (by omega)
      have dl := hrc.lt
      simp at d0 d1
      clear hrc
      go_upto_region 10 with fail
      refine world_gen (fun w5 => TmR w w5 L sp c g B u6 u7 [0] [14146] ∧ Blk w5 wr.heap.size 113 #[.int .i64 1, .int .i64 0]) ⟨HS.out.go (by repeat (first | exact Below.refl _ _ | (with_reducible refine Below.drew ?_) | (with_reducible refine below_drewN ?_ _) | (with_reducible refine Below.alloc ?_ (by first | omega | (simp; done) | (simp; omega)) _) | (with_reducible refine Below.setCell ?_ (by first | omega | (simp; done) | (simp; omega)) _) | (refine Below.trans ?_ (Below.mono (by with_reducible assumption) (by first | omega | (simp; done) | (simp; omega)))))), (by repeat (first | (refine Blk.new' _ _ _ _ ?_; first | rfl | (simp <;> omega)) | refine Blk.al ?_ _ | refine Blk.dr ?_ | refine Blk.drN ?_ _ | refine Blk.far ?_ (by first | omega | (simp; omega))))⟩ ?_
      rintro w5 ⟨hs5, hz5⟩
      have HS5 := Lib.hid hs5
      have HZ5 := Lib.hid hz5
      have e5 := hs5.e
      have tq := hs5.t.c0
      have tl := hs5.t.lt
      have bs := hs5.bs
      have hzb : ∀ k, u6.ownBlock = some k → k ≠ wr.heap.size := fun k hk e => by
        have h1 := (own_block HS.out.e k hk).2
        omega
      have HZB := Lib.hid hzb
      unfold InO at e5
      simp only [List.length_cons, List.length_nil, List.map_cons, List.map_nil, Nat.zero_add, Nat.reduceAdd] at e5
      have HE5 := Lib.hid e5
      obtain ⟨A6, c6, rfl, _, _⟩ := own_slice e5
      clear hs5 hz5 e5 hzb HS d0 d1 dl
      go_upto_region 11 with (at_builtin; refine wpList_append_own_at _ rfl _ _ 47 rfl (B) 3 i0 _ 1 8 Tryz.underlying47 HI.out.1 HI.out.2.1 HI.out.2.2.1 HI.out.2.2.2 rfl (by omega) _ 1 _ rfl (World.ownsRow.alloc HE5.out _) ⟨w5.heap.size, 0, none⟩ 1 1 [.int .i64 0] rfl rfl ?c0 ?c1 ?c2 ?c3 ?c4 ?_; rotate_right; intro v' w' hown' hg' _ hat')
      case c0 => exact news_new _ _ _
      case c1 => intro u hu; simp at hu; subst hu; rfl
      case c2 => simp only [maxLen]; omega
      case c3 => omega
      case c4 => simp; omega
      have HS6 := Lib.hid (HS5.out.appE (x := 0) hown' hg' hat')
      have HZ6 := Lib.hid (((HZ5.out.al _).same (hg'.block _ (HZ5.out.al _).lt (fun e => HZB.out _ e.symm rfl)) : Blk w' wr.heap.size 113 _))
      clear HS5 HZ5 HE5 hown' hg' hat' tq tl bs HZB
      have hlm := H.out.go HS6.out.s.b
      obtain ⟨s0, s1, s2, s3, s4⟩ := hlm.sec 1 (by omega)
      have sl := hlm.se.lt
      have x2 := HS6.out.s.x.cell 2
      have xl := HS6.out.s.x.lt
      have k1 := HS6.out.s.k.cell 1
      have z0 := HZ6.out.cell 0
      simp [stkC] at x2 k1 z0 s0 s1 s2 s3 s4
      clear hlm
      go_upto_region 14 with fail
      have e6 := HS6.out.l
      have tq := HS6.out.t.c15
      have tl := HS6.out.t.lt
      have bs := HS6.out.bs
      unfold InO at e6
      simp only [List.length_cons, List.length_nil, List.map_cons, List.map_nil, Nat.zero_add, Nat.reduceAdd] at e6
      have HE6 := Lib.hid e6
      obtain ⟨A7, c7, rfl, _, _⟩ := own_slice e6
      clear e6
      generalize hw6 : w' = w6 at *
      clear hw6
      go_upto_region 15 with (at_builtin; refine wpList_append_own_at _ rfl _ _ 47 rfl (B) 3 i0 _ 1 8 Tryz.underlying47 HI.out.1 HI.out.2.1 HI.out.2.2.1 HI.out.2.2.2 rfl (by omega) _ 1 _ rfl (World.ownsRow.alloc HE6.out _) ⟨w6.heap.size, 0, none⟩ 1 1 [.int .i64 25868] rfl rfl ?c0 ?c1 ?c2 ?c3 ?c4 ?_; rotate_right; intro v' w' hown' hg' _ hat')
      case c0 => exact news_new _ _ _
      case c1 => intro u hu; simp at hu; subst hu; rfl
      case c2 => simp only [maxLen]; omega
      case c3 => omega
      case c4 => simp; omega
      have HS7 := Lib.hid (HS6.out.swap.appE (x := 25868) hown' hg' hat').swap
      clear HS6 HZ6 HE6 hown' hg' hat' tq tl bs s0 s1 s2 s3 s4 x2 k1 z0
      go_wp2_with fail
      go_roundg 1
      case measure => omega
      case rel => exact .inr (.inr (.inl ⟨rfl, rfl, rfl, HS7.out⟩))
    · skip
      have HS := Lib.hid hs
      clear hs HR4
      have hrc := HR.out.go HS.out.s.b
      obtain ⟨d0, d1⟩ := stp_at hrc 2 (by omega)
      have dl := hrc.lt
      simp at d0 d1
      clear hrc
      go_upto_region 10 with fail
      refine world_gen (fun w5 => TmR w w5 L sp c g B u6 u7 [0, 0] [14146, 25868] ∧ Blk w5 wr.heap.size 113 #[.int .i64 2, .int .i64 0]) ⟨HS.out.go (by repeat (first | exact Below.refl _ _ | (with_reducible refine Below.drew ?_) | (with_reducible refine below_drewN ?_ _) | (with_reducible refine Below.alloc ?_ (by first | omega | (simp; done) | (simp; omega)) _) | (with_reducible refine Below.setCell ?_ (by first | omega | (simp; done) | (simp; omega)) _) | (refine Below.trans ?_ (Below.mono (by with_reducible assumption) (by first | omega | (simp; done) | (simp; omega)))))), (by repeat (first | (refine Blk.new' _ _ _ _ ?_; first | rfl | (simp <;> omega)) | refine Blk.al ?_ _ | refine Blk.dr ?_ | refine Blk.drN ?_ _ | refine Blk.far ?_ (by first | omega | (simp; omega))))⟩ ?_
      rintro w5 ⟨hs5, hz5⟩
      have HS5 := Lib.hid hs5
      have HZ5 := Lib.hid hz5
      have e5 := hs5.e
      have tq := hs5.t.c10
      have tl := hs5.t.lt
      have bs := hs5.bs
      have hzb : ∀ k, u6.ownBlock = some k → k ≠ wr.heap.size := fun k hk e => by
        have h1 := (own_block HS.out.e k hk).2
        omega
      have HZB := Lib.hid hzb
      unfold InO at e5
      simp only [List.length_cons, List.length_nil, List.map_cons, List.map_nil, Nat.zero_add, Nat.reduceAdd] at e5
      have HE5 := Lib.hid e5
      obtain ⟨A6, c6, rfl, _, _⟩ := own_slice e5
      clear hs5 hz5 e5 hzb HS d0 d1 dl
      go_upto_region 11 with (at_builtin; refine wpList_append_own_at _ rfl _ _ 47 rfl (B) 3 i0 _ 1 8 Tryz.underlying47 HI.out.1 HI.out.2.1 HI.out.2.2.1 HI.out.2.2.2 rfl (by omega) _ 2 _ rfl (World.ownsRow.alloc HE5.out _) ⟨w5.heap.size, 0, none⟩ 1 1 [.int .i64 20007] rfl rfl ?c0 ?c1 ?c2 ?c3 ?c4 ?_; rotate_right; intro v' w' hown' hg' _ hat')
      case c0 => exact news_new _ _ _
      case c1 => intro u hu; simp at hu; subst hu; rfl
      case c2 => simp only [maxLen]; omega
      case c3 => omega
      case c4 => simp; omega
      have HS6 := Lib.hid (HS5.out.appE (x := 20007) hown' hg' hat')
      have HZ6 := Lib.hid (((HZ5.out.al _).same (hg'.block _ (HZ5.out.al _).lt (fun e => HZB.out _ e.symm rfl)) : Blk w' wr.heap.size 113 _))
      clear HS5 HZ5 HE5 hown' hg' hat' tq tl bs HZB
      have hlm := H.out.go HS6.out.s.b
      obtain ⟨s0, s1, s2, s3, s4⟩ := hlm.sec 2 (by omega)
      have sl := hlm.se.lt
      have x2 := HS6.out.s.x.cell 2
      have xl := HS6.out.s.x.lt
      have k1 := HS6.out.s.k.cell 1
      have z0 := HZ6.out.cell 0
      simp [stkC] at x2 k1 z0 s0 s1 s2 s3 s4
      clear hlm
      go_wp2_with fail
      go_roundg 0
      case measure => omega
      case rel => exact .inr (.inr (.inr ⟨rfl, rfl, rfl, HS6.out⟩))
    · have HS6 := Lib.hid hs
      have e6 := hs.l
      have tq := hs.t.c20
      have tl := hs.t.lt
      have bs := hs.bs
      clear hs HR4
      unfold InO at e6
      simp only [List.length_cons, List.length_nil, List.map_cons, List.map_nil, Nat.zero_add, Nat.reduceAdd] at e6
      have HE6 := Lib.hid e6
      obtain ⟨A7, c7, rfl, _, _⟩ := own_slice e6
      clear e6
      go_upto_region 16 with fail
      go_upto_region 17 with (at_builtin; refine wpList_append_own_at _ rfl _ _ 47 rfl (B) 3 i0 _ 1 8 Tryz.underlying47 HI.out.1 HI.out.2.1 HI.out.2.2.1 HI.out.2.2.2 rfl (by omega) _ 2 _ rfl (World.ownsRow.alloc HE6.out _) ⟨wr.heap.size, 0, none⟩ 1 1 [.int .i64 40014] rfl rfl ?c0 ?c1 ?c2 ?c3 ?c4 ?_; rotate_right; intro v' w' hown' hg' _ hat')
      case c0 => exact news_new _ _ _
      case c1 => intro u hu; simp at hu; subst hu; rfl
      case c2 => simp only [maxLen]; omega
      case c3 => omega
      case c4 => simp; omega
      have HS7 := Lib.hid (HS6.out.swap.appE (x := 40014) hown' hg' hat').swap
      clear HS6 HE6 hown' hg' hat' tq tl bs
      have tq := HS7.out.t.c20
      go_wp2_with fail
      refine (up_ok 40014 _ (by omega) (by omega)).mono ?_
      rintro e w8 ⟨rfl, rfl⟩
      have hc41 : cdiv 40014 1000 = 41 := by decide
      rw [hc41]
      go_wp2_with fail
      refine bodyPost_ret (results_4 rfl _ _) rfl ?_
      have hbB : w.heap.size ≤ B := by have := HS7.out.bb; omega
      exact ⟨_, _, rfl, own_base HS7.out.e hbB, own_base HS7.out.l hbB, HS7.out.s.b⟩
end Go.Proofs.YtinjdcefagaaeaaGreatDoor
namespace Go.Proofs.YtinjdcefagaaeaaGreatDoor
open Go.RowKit
/-! layout.Hops from the example's steps; blocking.pointBetween -/
theorem cell_bel {w w' : World} {a : Addr} {v : Value} (hb : Below w.heap.size w w') (h : w.cell? a = some v) : w'.cell? a = some v := (hb.cell (World.block_lt_of_cell? _ _ h)).trans h
theorem infoH : (Tryz.prog.info? 206).map (fun i => (i.zero, i.size, i.bytes)) = some (some (.agg #[.int .i64 0, .int .i64 0, .int .i64 0, .int .i64 0]), 4, 32) := by kernel_rfl
abbrev hopL (i : Nat) : List Value := [.int .i64 ((i : Int) + 1), .int .i64 0, .int .i64 (-1), .int .i64 0]
structure HpS (w wr : World) (L : LyA) (i F : Nat) : Prop where
  b : Below w.heap.size w wr
  x : Blk wr w.heap.size 26 L.cs
  f : Blk wr F 255 #[.int .i64 i, .int .i64 1]
  g : w.heap.size < F
theorem HpS.go {w wr w' : World} {L : LyA} {i F : Nat} (h : HpS w wr L i F) (hb : Below wr.heap.size wr w') : HpS w w' L i F := ⟨h.b.trans (hb.mono h.b.size), h.x.same (hb.block _ h.x.lt), h.f.same (hb.block _ h.f.lt), h.g⟩
def HpL (w : World) (L : LyA) (i F k : Nat) (v6 v : Value) (wr : World) : Prop :=
  ∃ j : Nat, v = .int .i64 j ∧ j + k = 2 ∧ HpS w wr L i F ∧ ((j ≤ i ∧ v6 = .slice none 0 0) ∨ (i < j ∧ wr.ownsRow (F + 1) 206 4 v6 1 (hopL i)))
set_option maxRecDepth 100000 in
set_option maxHeartbeats 6400000 in
theorem hops_ok (L : LyA) (i : Nat) (w : World) (h : LayM w L) (hi : i < 2) :
    Calls Tryz.prog 97 #[L.v, .agg #[.int .i64 i, .int .i64 0]] w fun e w' => ∃ v, e = .returned v ∧ w'.ownsRow w.heap.size 206 4 v 1 (hopL i) ∧ Below w.heap.size w w' := by
  have H := Lib.hid h
  clear h
  obtain ⟨i0, b1, b2, b3, b4⟩ := info_parts infoH
  have HI := Lib.hid (And.intro b1 (And.intro b2 (And.intro b3 b4)))
  clear b1 b2 b3 b4
  go_enter Tryz.func97, Tryz.ntmps97
  go_upto_region 1 with fail
  refine world_gen (fun w0 => Below w.heap.size w w0 ∧ Blk w0 w.heap.size 26 L.cs ∧ Blk w0 (w.heap.size + 1) 113 #[.int .i64 i, .int .i64 0]) ⟨(by repeat (first | exact Below.refl _ _ | (with_reducible refine Below.drew ?_) | (with_reducible refine below_drewN ?_ _) | (with_reducible refine Below.alloc ?_ (by first | omega | (simp; done) | (simp; omega)) _) | (with_reducible refine Below.setCell ?_ (by first | omega | (simp; done) | (simp; omega)) _) | (refine Below.trans ?_ (Below.mono (by with_reducible assumption) (by first | omega | (simp; done) | (simp; omega)))))), (by repeat (first | (refine Blk.new' _ _ _ _ ?_; first | rfl | (simp <;> omega)) | refine Blk.al ?_ _ | refine Blk.dr ?_ | refine Blk.drN ?_ _ | refine Blk.far ?_ (by first | omega | (simp; omega)))), (by repeat (first | (refine Blk.new' _ _ _ _ ?_; first | rfl | (simp <;> omega)) | refine Blk.al ?_ _ | refine Blk.dr ?_ | refine Blk.drN ?_ _ | refine Blk.far ?_ (by first | omega | (simp; omega))))⟩ ?_
  rintro w0 ⟨hb0, hx0, hs0⟩
  have HB0 := Lib.hid hb0
  have HX0 := Lib.hid hx0
  have HS0 := Lib.hid hs0
  have x0 := hx0.cell 0
  have x1 := hx0.cell 1
  have x2 := hx0.cell 2
  have x3 := hx0.cell 3
  have s0 := hs0.cell 0
  have s1 := hs0.cell 1
  simp at x0 x1 x2 x3 s0 s1
  clear hb0 hx0 hs0
  go_wp2_with fail
  refine (has_of L i _ (by omega) (by omega) (H.out.go HB0.out) (fun W hW => lcheck_ok L W hW)).mono ?_
  rintro e w1 ⟨rfl, hb1⟩
  have HB1 := Lib.hid (HB0.out.trans (hb1.mono HB0.out.size))
  have HX1 := Lib.hid (HX0.out.same (hb1.block _ HX0.out.lt))
  have HS1 := Lib.hid (HS0.out.same (hb1.block _ HS0.out.lt))
  clear hb1 HB0 HX0 HS0 x0 x1 x2 x3 s0 s1
  have s0 := HS1.out.cell 0
  have s1 := HS1.out.cell 1
  have sl := HS1.out.lt
  have x3 := HX1.out.cell 3
  have xl := HX1.out.lt
  simp at s0 s1 x3
  have hsz := HS1.out.lt
  have HP := Lib.hid (show HpS w (w1.alloc (.cells #[.int .i64 i, .int .i64 1] 255)) L i w1.heap.size from ⟨(by have hbelh := HB1.out; have hbels := hbelh.size; exact (by repeat (first | exact Below.refl _ _ | (with_reducible refine Below.drew ?_) | (with_reducible refine below_drewN ?_ _) | (with_reducible refine Below.alloc ?_ (by first | omega | (simp; done) | (simp; omega)) _) | (with_reducible refine Below.setCell ?_ (by first | omega | (simp; done) | (simp; omega)) _) | (refine Below.trans ?_ (Below.mono (by with_reducible assumption) (by first | omega | (simp; done) | (simp; omega))))))), HX1.out.al _, Blk.new _ _ _, xl⟩)
  clear HB1 HX1 HS1
  go_wp2_with fail
  generalize w1.alloc (.cells #[.int .i64 i, .int .i64 1] 255) = w2 at *
  generalize w1.heap.size = F at *
  clear s0 s1 x3
  go_loopg [6, 25] 2 (fun k v6 v wr => HpL w L i F k v6 v wr)
  case atStart => exact ⟨0, rfl, rfl, HP.out, .inl ⟨Nat.zero_le _, rfl⟩⟩
  case round =>
    obtain ⟨j, rfl, hj, hs, hor⟩ := hrel
    have HS := Lib.hid hs
    have Hj := Lib.hid hj
    have HOR := Lib.hid hor
    clear hs hj hor HP
    by_cases hlt : j < 2
    · have hlm := H.out.go HS.out.b
      obtain ⟨d0, d1, d2, d3, d4, d5⟩ := hlm.lnk j hlt
      have dl := hlm.li.lt
      clear hlm
      go_upto_region 10 with fail
      have HOA := Lib.hid (show (j ≤ i ∧ u6 = .slice none 0 0) ∨ (i < j ∧ (wr.alloc (.cells #[.int .i64 j, .int .i64 1, .int .i64 ((j : Int) + 1), .int .i64 0, .int .i64 (-1), .int .i64 0] 249)).ownsRow (F + 1) 206 4 u6 1 (hopL i)) from HOR.out.elim .inl (fun h => .inr ⟨h.1, h.2.alloc _⟩))
      refine world_gen (fun w3 => HpS w w3 L i F ∧ Blk w3 wr.heap.size 249 #[.int .i64 j, .int .i64 1, .int .i64 ((j : Int) + 1), .int .i64 0, .int .i64 (-1), .int .i64 0] ∧ ((j ≤ i ∧ u6 = .slice none 0 0) ∨ (i < j ∧ w3.ownsRow (F + 1) 206 4 u6 1 (hopL i)))) ⟨HS.out.go (by repeat (first | exact Below.refl _ _ | (with_reducible refine Below.drew ?_) | (with_reducible refine below_drewN ?_ _) | (with_reducible refine Below.alloc ?_ (by first | omega | (simp; done) | (simp; omega)) _) | (with_reducible refine Below.setCell ?_ (by first | omega | (simp; done) | (simp; omega)) _) | (refine Below.trans ?_ (Below.mono (by with_reducible assumption) (by first | omega | (simp; done) | (simp; omega)))))), (by repeat (first | (refine Blk.new' _ _ _ _ ?_; first | rfl | (simp <;> omega)) | refine Blk.al ?_ _ | refine Blk.dr ?_ | refine Blk.drN ?_ _ | refine Blk.far ?_ (by first | omega | (simp; omega)))), HOA.out⟩ ?_
      rintro w3 ⟨hs3, hk3, ho3⟩
      have HS3 := Lib.hid hs3
      have HK3 := Lib.hid hk3
      have HO3 := Lib.hid ho3
      have k0 := hk3.cell 0
      have k1 := hk3.cell 1
      have k2 := hk3.cell 2
      have k3 := hk3.cell 3
      have k4 := hk3.cell 4
      have k5 := hk3.cell 5
      simp at k0 k1 k2 k3 k4 k5
      clear hs3 hk3 ho3 HS HOR HOA d0 d1 d2 d3 d4 d5
      generalize wr.heap.size = Z at *
      go_wp2_with fail
      refine (ends_ok j (-1) 0 _).mono ?_
      rintro e w4 ⟨rfl, hb4⟩
      have HS4 := Lib.hid (HS3.out.go hb4)
      have HK4 := Lib.hid (HK3.out.same (hb4.block _ HK3.out.lt))
      have HO4 := Lib.hid (show (j ≤ i ∧ u6 = .slice none 0 0) ∨ (i < j ∧ w4.ownsRow (F + 1) 206 4 u6 1 (hopL i)) from HO3.out.elim .inl (fun h => .inr ⟨h.1, own_grow h.2 hb4⟩))
      clear hb4 HS3 HK3 HO3 k0 k1 k2 k3 k4 k5
      go_upto_region 11 with fail
      have HOA := Lib.hid (show (j ≤ i ∧ u6 = .slice none 0 0) ∨ (i < j ∧ ((w4.alloc (.cells #[.int .i64 j, .int .i64 1] 255)).alloc (.cells #[.int .i64 ((j : Int) + 1), .int .i64 0] 255)).ownsRow (F + 1) 206 4 u6 1 (hopL i)) from HO4.out.elim .inl (fun h => .inr ⟨h.1, (h.2.alloc _).alloc _⟩))
      refine world_gen (fun w5 => HpS w w5 L i F ∧ Blk w5 Z 249 #[.int .i64 j, .int .i64 1, .int .i64 ((j : Int) + 1), .int .i64 0, .int .i64 (-1), .int .i64 0] ∧ Blk w5 w4.heap.size 255 #[.int .i64 j, .int .i64 1] ∧ Blk w5 (w4.heap.size + 1) 255 #[.int .i64 ((j : Int) + 1), .int .i64 0] ∧ ((j ≤ i ∧ u6 = .slice none 0 0) ∨ (i < j ∧ w5.ownsRow (F + 1) 206 4 u6 1 (hopL i)))) ⟨HS4.out.go (by repeat (first | exact Below.refl _ _ | (with_reducible refine Below.drew ?_) | (with_reducible refine below_drewN ?_ _) | (with_reducible refine Below.alloc ?_ (by first | omega | (simp; done) | (simp; omega)) _) | (with_reducible refine Below.setCell ?_ (by first | omega | (simp; done) | (simp; omega)) _) | (refine Below.trans ?_ (Below.mono (by with_reducible assumption) (by first | omega | (simp; done) | (simp; omega)))))), (by have hblk := HK4.out; repeat (first | exact hblk | refine Blk.al ?_ _ | refine Blk.dr ?_ | refine Blk.drN ?_ _)), (by repeat (first | (refine Blk.new' _ _ _ _ ?_; first | rfl | (simp <;> omega)) | refine Blk.al ?_ _ | refine Blk.dr ?_ | refine Blk.drN ?_ _ | refine Blk.far ?_ (by first | omega | (simp; omega)))), (by repeat (first | (refine Blk.new' _ _ _ _ ?_; first | rfl | (simp <;> omega)) | refine Blk.al ?_ _ | refine Blk.dr ?_ | refine Blk.drN ?_ _ | refine Blk.far ?_ (by first | omega | (simp; omega)))), HOA.out⟩ ?_
      rintro w5 ⟨hs5, hk5, ha5, hc5, ho5⟩
      have HS5 := Lib.hid hs5
      have f0 := hs5.f.cell 0
      have f1 := hs5.f.cell 1
      have k4 := hk5.cell 4
      have k5 := hk5.cell 5
      have a0 := ha5.cell 0
      have a1 := ha5.cell 1
      have c0 := hc5.cell 0
      have c1 := hc5.cell 1
      have lk := hk5.lt
      have lc := hc5.lt
      have lf := hs5.f.lt
      simp at f0 f1 k4 k5 a0 a1 c0 c1
      clear hs5 hk5 ha5 hc5 HS4 HK4 HO4 HOA
      generalize w4.heap.size + 1 = V at *
      generalize w4.heap.size = U at *
      by_cases hji : j = i
      · obtain ⟨_, rfl⟩ | ⟨hx, _⟩ := ho5
        · subst hji
          have hw5 := HS5.out.b.size
          have lf1 : F + 1 ≤ w5.heap.size := lf
          go_upto_region 13 with fail
          go_region_held3 (fun w' => w'.cell? ⟨Z, 4, none⟩ = some (.int .i64 (-1)) ∧ w'.cell? ⟨Z, 5, none⟩ = some (.int .i64 0) ∧ w'.cell? ⟨V, 0, none⟩ = some (.int .i64 ((j : Int) + 1)) ∧ w'.cell? ⟨V, 1, none⟩ = some (.int .i64 0))
            (first | go_keep | exact ⟨cell_bel (w := w5) (by repeat (first | exact Below.refl _ _ | (with_reducible refine Below.drew ?_) | (with_reducible refine below_drewN ?_ _) | (with_reducible refine Below.alloc ?_ (by first | omega | (simp; done) | (simp; omega)) _) | (with_reducible refine Below.setCell ?_ (by first | omega | (simp; done) | (simp; omega)) _) | (refine Below.trans ?_ (Below.mono (by with_reducible assumption) (by first | omega | (simp; done) | (simp; omega)))))) k4, cell_bel (w := w5) (by repeat (first | exact Below.refl _ _ | (with_reducible refine Below.drew ?_) | (with_reducible refine below_drewN ?_ _) | (with_reducible refine Below.alloc ?_ (by first | omega | (simp; done) | (simp; omega)) _) | (with_reducible refine Below.setCell ?_ (by first | omega | (simp; done) | (simp; omega)) _) | (refine Below.trans ?_ (Below.mono (by with_reducible assumption) (by first | omega | (simp; done) | (simp; omega)))))) k5, cell_bel (w := w5) (by repeat (first | exact Below.refl _ _ | (with_reducible refine Below.drew ?_) | (with_reducible refine below_drewN ?_ _) | (with_reducible refine Below.alloc ?_ (by first | omega | (simp; done) | (simp; omega)) _) | (with_reducible refine Below.setCell ?_ (by first | omega | (simp; done) | (simp; omega)) _) | (refine Below.trans ?_ (Below.mono (by with_reducible assumption) (by first | omega | (simp; done) | (simp; omega)))))) c0, cell_bel (w := w5) (by repeat (first | exact Below.refl _ _ | (with_reducible refine Below.drew ?_) | (with_reducible refine below_drewN ?_ _) | (with_reducible refine Below.alloc ?_ (by first | omega | (simp; done) | (simp; omega)) _) | (with_reducible refine Below.setCell ?_ (by first | omega | (simp; done) | (simp; omega)) _) | (refine Below.trans ?_ (Below.mono (by with_reducible assumption) (by first | omega | (simp; done) | (simp; omega)))))) c1⟩)
            (first | (go_at_call 165; refine (enterA_ok _ _).mono ?_; rintro e w6 ⟨rfl, hb6⟩; have hb56 : Below w5.heap.size w5 w6 := (by repeat (first | exact Below.refl _ _ | (with_reducible refine Below.drew ?_) | (with_reducible refine below_drewN ?_ _) | (with_reducible refine Below.alloc ?_ (by first | omega | (simp; done) | (simp; omega)) _) | (with_reducible refine Below.setCell ?_ (by first | omega | (simp; done) | (simp; omega)) _) | (refine Below.trans ?_ (Below.mono (by with_reducible assumption) (by first | omega | (simp; done) | (simp; omega)))))); clear hb6; have hs6 := hb56.size) | (refine step_append_any (by rfl) _ _ _ (by rfl) (F + 1) 206 _ _ 4 32 Tryz.underlying203 HI.out.1 HI.out.2.1 HI.out.2.2.1 HI.out.2.2.2 rfl (by omega) (.slice none 0 0) 0 [] rfl (World.ownsRow_nil _ _ _ _) (some ⟨w6.heap.size, 0, none⟩) 1 1 (w6.heap.size + 1) (hopL j) rfl (fun e => by cases e) (Rd.more (Rd.of_blk (cs := (hopL j)) (n := 1) (sz := 4) (by repeat (first | (refine Blk.new' _ _ _ _ ?_; first | rfl | (simp <;> omega)) | refine Blk.al ?_ _ | refine Blk.dr ?_ | refine Blk.drN ?_ _ | refine Blk.far ?_ (by first | omega | (simp; omega)))) rfl) (by simp)) (by intro u hu; simp only [List.mem_cons, List.not_mem_nil, or_false] at hu; (repeat (rcases hu with rfl | hu <;> try rfl)); try (subst hu; rfl)) (by simp only [maxLen]; omega) (by omega) (by simp; omega) ?_; intro va wa hoa hga hta; obtain ⟨Aa, ca, rfl, _, _⟩ := own_slice hoa; have hba : Below w5.heap.size w5 wa := Below.grown (by repeat (first | exact Below.refl _ _ | (with_reducible refine Below.drew ?_) | (with_reducible refine below_drewN ?_ _) | (with_reducible refine Below.alloc ?_ (by first | omega | (simp; done) | (simp; omega)) _) | (with_reducible refine Below.setCell ?_ (by first | omega | (simp; done) | (simp; omega)) _) | (refine Below.trans ?_ (Below.mono (by with_reducible assumption) (by first | omega | (simp; done) | (simp; omega)))))) hga (by simp; omega) (fun k hk => by simp [Value.ownBlock] at hk)))
          have HO7 := Lib.hid (show (j + 1 ≤ j ∧ Value.slice Aa 1 ca = .slice none 0 0) ∨ (j < j + 1 ∧ wa.ownsRow (F + 1) 206 4 (.slice Aa 1 ca) 1 (hopL j)) from .inr ⟨by omega, hoa⟩)
          have HS7 := Lib.hid (HS5.out.go hba)
          clear hoa hga hta
          go_wp2_with fail
          go_roundg (2 - j - 1)
          case measure => have := Hj.out; omega
          case rel => exact ⟨j + 1, by first | rfl | go_num, by have := Hj.out; omega, HS7.out, HO7.out⟩
        · omega
      · have hne : ¬ ((i : Int) = (j : Int)) := by omega
        have hnb : ((i : Int) == (j : Int)) = false := by simpa using hne
        have HO5 := Lib.hid (show (j + 1 ≤ i ∧ u6 = .slice none 0 0) ∨ (i < j + 1 ∧ w5.ownsRow (F + 1) 206 4 u6 1 (hopL i)) from ho5.elim (fun h => .inl ⟨by omega, h.2⟩) (fun h => .inr ⟨by omega, h.2⟩))
        clear ho5
        go_wp2_with fail
        go_roundg (2 - j - 1)
        case measure => have := Hj.out; omega
        case rel => exact ⟨j + 1, by first | rfl | go_num, by have := Hj.out; omega, HS5.out, HO5.out⟩
    · obtain rfl : j = 2 := by have := Hj.out; omega
      obtain ⟨hx, _⟩ | ⟨_, ho⟩ := HOR.out
      · omega
      · have HO := Lib.hid ho
        clear ho
        go_wp2_with fail
        go_ret
        exact ⟨_, rfl, own_base HO.out (by have := HS.out.g; omega), HS.out.b⟩
def PbL (w : World) (i B g k : Nat) (v : Value) (wr : World) : Prop := k = 1 ∧ v = .int .i64 0 ∧ Below w.heap.size w wr ∧ Cs wr g (hopL i) ∧ Blk wr B 113 #[.int .i64 ((i : Int) + 1), .int .i64 0]
set_option maxRecDepth 100000 in
set_option maxHeartbeats 6400000 in
theorem pbet_ok (L : LyA) (i : Nat) (w : World) (h : LayM w L) (hi : i < 2) :
    Calls Tryz.prog 35 #[L.v, .agg #[.int .i64 i, .int .i64 0], .agg #[.int .i64 ((i : Int) + 1), .int .i64 0]] w fun e w' => e = .returned (.int .i64 (-1)) ∧ Below w.heap.size w w' := by
  have H := Lib.hid h
  clear h
  go_enter Tryz.func35, Tryz.ntmps35
  go_upto_region 1 with fail
  refine world_gen (fun w0 => Below w.heap.size w w0 ∧ Blk w0 w.heap.size 26 L.cs ∧ Blk w0 (w.heap.size + 1) 113 #[.int .i64 i, .int .i64 0] ∧ Blk w0 (w.heap.size + 1 + 1) 113 #[.int .i64 ((i : Int) + 1), .int .i64 0]) ⟨(by repeat (first | exact Below.refl _ _ | (with_reducible refine Below.drew ?_) | (with_reducible refine below_drewN ?_ _) | (with_reducible refine Below.alloc ?_ (by first | omega | (simp; done) | (simp; omega)) _) | (with_reducible refine Below.setCell ?_ (by first | omega | (simp; done) | (simp; omega)) _) | (refine Below.trans ?_ (Below.mono (by with_reducible assumption) (by first | omega | (simp; done) | (simp; omega)))))), (by repeat (first | (refine Blk.new' _ _ _ _ ?_; first | rfl | (simp <;> omega)) | refine Blk.al ?_ _ | refine Blk.dr ?_ | refine Blk.drN ?_ _ | refine Blk.far ?_ (by first | omega | (simp; omega)))), (by repeat (first | (refine Blk.new' _ _ _ _ ?_; first | rfl | (simp <;> omega)) | refine Blk.al ?_ _ | refine Blk.dr ?_ | refine Blk.drN ?_ _ | refine Blk.far ?_ (by first | omega | (simp; omega)))), (by repeat (first | (refine Blk.new' _ _ _ _ ?_; first | rfl | (simp <;> omega)) | refine Blk.al ?_ _ | refine Blk.dr ?_ | refine Blk.drN ?_ _ | refine Blk.far ?_ (by first | omega | (simp; omega))))⟩ ?_
  rintro w0 ⟨hb0, hx0, hs0, ht0⟩
  have HB0 := Lib.hid hb0
  have HT0 := Lib.hid ht0
  have x0 := hx0.cell 0
  have x1 := hx0.cell 1
  have x2 := hx0.cell 2
  have x3 := hx0.cell 3
  have s0 := hs0.cell 0
  have s1 := hs0.cell 1
  clear hb0 hx0 hs0 ht0
  generalize w.heap.size + 1 + 1 = B at *
  simp at x0 x1 x2 x3 s0 s1
  go_wp2_with fail
  refine (hops_ok L i _ (H.out.go HB0.out) hi).mono ?_
  rintro e w1 ⟨v, rfl, ho1, hb1⟩
  have HB1 := Lib.hid (HB0.out.trans (hb1.mono HB0.out.size))
  have HT1 := Lib.hid (HT0.out.same (hb1.block _ HT0.out.lt))
  have ho2 := ho1.2
  obtain ⟨A1, c1, rfl, hc1, _⟩ := own_slice ho1
  cases A1 with
  | none => exact absurd (own_nil ho1).1 (by omega)
  | some a =>
    obtain ⟨g, ho, rfl⟩ : ∃ g, True ∧ a = ⟨g, 0, none⟩ := by
      rcases ho1.2 with ⟨h', _⟩ | ⟨g', cap', cur, h', _⟩
      · cases h'
      · injection h' with h1 _ _; injection h1 with h1; exact ⟨g', trivial, h1⟩
    have HG1 := Lib.hid (show Cs w1 g (hopL i) from ⟨(own_block ho1 g rfl).2, fun q u hq => (ho1.cellAt q (by
      rcases Nat.lt_or_ge q 4 with h | h
      · omega
      · simp [hopL, List.getElem?_eq_none, h] at hq)).trans hq⟩)
    clear ho1 ho2 hb1 HB0 HT0 x0 x1 x2 x3 s0 s1 ho
    go_wp2_with fail
    go_loopg [13] 1 (fun k v wr => PbL w i B g k v wr)
    case atStart => exact ⟨rfl, rfl, HB1.out, HG1.out, HT1.out⟩
    case round =>
      obtain ⟨rfl, rfl, hb, hg, ht⟩ := hrel
      have HB := Lib.hid hb
      have HT := Lib.hid ht
      have h0 : wr.cell? ⟨g, 0, none⟩ = some (.int .i64 ((i : Int) + 1)) := hg.c 0 _ rfl
      have h1 : wr.cell? ⟨g, 1, none⟩ = some (.int .i64 0) := hg.c 1 _ rfl
      have h2 : wr.cell? ⟨g, 2, none⟩ = some (.int .i64 (-1)) := hg.c 2 _ rfl
      have h3 : wr.cell? ⟨g, 3, none⟩ = some (.int .i64 0) := hg.c 3 _ rfl
      have t0 := ht.cell 0
      have t1 := ht.cell 1
      have tl := ht.lt
      simp at t0 t1
      clear hb hg ht HB1 HG1 HT1
      go_wp2_with fail
      go_ret
      exact ⟨rfl, (by have hbelh := HB.out; have hbels := hbelh.size; exact (by repeat (first | exact Below.refl _ _ | (with_reducible refine Below.drew ?_) | (with_reducible refine below_drewN ?_ _) | (with_reducible refine Below.alloc ?_ (by first | omega | (simp; done) | (simp; omega)) _) | (with_reducible refine Below.setCell ?_ (by first | omega | (simp; done) | (simp; omega)) _) | (refine Below.trans ?_ (Below.mono (by with_reducible assumption) (by first | omega | (simp; done) | (simp; omega)))))))⟩
end Go.Proofs.YtinjdcefagaaeaaGreatDoor
