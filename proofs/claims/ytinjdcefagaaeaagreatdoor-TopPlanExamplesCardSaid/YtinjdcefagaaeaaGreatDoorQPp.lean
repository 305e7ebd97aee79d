import Derived.Test.YtinjdcefagaaeaaGreatDoorQTx
import Derived.Test.YtinjdcefagaaeaaGreatDoorQPl
import Derived.BigQuiet
set_option linter.unusedVariables false
set_option linter.unusedSimpArgs false
namespace Go.Proofs.YtinjdcefagaaeaaGreatDoor
open Go.RowKit
/-! layout.Parse of the example's text -/
def LpJ (w : World) (Lb j : Nat) : Prop := ∃ v1 v3 v4, LyO w Lb v1 v3 v4 (min j 2) (min (j - 2) 3) (j - 5) (staL.take (min j 2)) (seL.take (5 * min (j - 2) 3)) (liL.take (6 * (j - 5)))
theorem ix_X {W : World} {Lb n3 n4 : Nat} {v1 v3 v4 : Value} {c3 c4 : List Value} (h : LyO W Lb v1 v3 v4 2 n3 n4 staL c3 c4) : Calls Tryz.prog 131 #[v1, .string ⟨#[88]⟩] W fun e w' => e = .returned (.int .i64 0) ∧ W = w' := by
  obtain ⟨g, c, rfl, hc, _, _⟩ := own_cs h.o1 (by omega)
  exact (ixs0_ok g 2 c 88 W (hc.c 0 _ rfl) (by omega)).mono (by rintro e w' ⟨rfl, rfl⟩; exact ⟨rfl, rfl⟩)
theorem ix_Y {W : World} {Lb n3 n4 : Nat} {v1 v3 v4 : Value} {c3 c4 : List Value} (h : LyO W Lb v1 v3 v4 2 n3 n4 staL c3 c4) : Calls Tryz.prog 131 #[v1, .string ⟨#[89]⟩] W fun e w' => e = .returned (.int .i64 1) ∧ W = w' := by
  obtain ⟨g, c, rfl, hc, _, _⟩ := own_cs h.o1 (by omega)
  exact (ixs1_ok g 2 c W (hc.c 0 _ rfl) (hc.c 1 _ rfl) (by omega)).mono (by rintro e w' ⟨rfl, rfl⟩; exact ⟨rfl, rfl⟩)
def rlA : Nat → Nat | 0 => 2 | 1 => 2 | 2 => 7 | 3 => 5 | 4 => 7 | 5 => 5 | _ => 5
def DcPost (Lb j : Nat) (w : World) (e : Ending) (w' : World) : Prop := e = .returned (.int .i64 0) ∧ Below Lb w w' ∧ LpJ w' Lb (j + 1)
theorem dc_step (j Lb g c : Nat) (r : List Wd) (w : World) (hj : rwA[j]? = some r) (h : LpJ w Lb j) (hg : Cs w g (r.flatMap Wd.cells)) (hsw : SideW w) :
    Calls Tryz.prog 26 #[.pointer (some ⟨Lb, 0, none⟩), .slice (some ⟨g, 0, none⟩) (rlA j) c] w (DcPost Lb j w) := by
  obtain ⟨v1, v3, v4, h⟩ := h
  have hj7 : j < 7 := (List.getElem?_eq_some_iff.1 hj).1
  match j, hj7 with
  | 0, _ =>
    obtain rfl : _ = r := Option.some.inj hj
    exact (dcst_ok Lb g c _ 88 v1 v3 v4 0 0 0 [] [] [] w h hg rfl rfl (by omega)).mono (by rintro e w' ⟨rfl, hb, v', h'⟩; exact ⟨rfl, hb, _, _, _, h'⟩)
  | 1, _ =>
    obtain rfl : _ = r := Option.some.inj hj
    exact (dcst_ok Lb g c _ 89 v1 v3 v4 1 0 0 [.string ⟨#[88]⟩] [] [] w h hg rfl rfl (by omega)).mono (by rintro e w' ⟨rfl, hb, v', h'⟩; exact ⟨rfl, hb, _, _, _, h'⟩)
  | 2, _ =>
    obtain rfl : _ = r := Option.some.inj hj
    exact (dcs7_ok Lb g c _ 120 ⟨#[88]⟩ 0 v1 v3 v4 2 0 0 staL [] [] w h hg rfl rfl (by omega) (by omega) (by omega) (fun W hW => ix_X hW)).mono (by rintro e w' ⟨rfl, hb, v', h'⟩; exact ⟨rfl, hb, _, _, _, h'⟩)
  | 3, _ =>
    obtain rfl : _ = r := Option.some.inj hj
    exact (dcs5_ok Lb g c _ 97 v1 v3 v4 2 1 0 staL (seL.take 5) [] w h hg rfl rfl (by omega)).mono (by rintro e w' ⟨rfl, hb, v', h'⟩; exact ⟨rfl, hb, _, _, _, h'⟩)
  | 4, _ =>
    obtain rfl : _ = r := Option.some.inj hj
    exact (dcs7_ok Lb g c _ 121 ⟨#[89]⟩ 1 v1 v3 v4 2 2 0 staL (seL.take 10) [] w h hg rfl rfl (by omega) (by omega) (by omega) (fun W hW => ix_Y hW)).mono (by rintro e w' ⟨rfl, hb, v', h'⟩; exact ⟨rfl, hb, _, _, _, h'⟩)
  | 5, _ =>
    obtain rfl : _ = r := Option.some.inj hj
    obtain ⟨g3, cc3, rfl, _, _, _⟩ := own_cs h.o3 (by decide)
    exact (dclk_ok Lb g c g3 cc3 0 _ v1 v4 2 0 staL [] w h hg rfl rfl (by omega) (by omega) hsw).mono (by rintro e w' ⟨rfl, hb, v', h'⟩; exact ⟨rfl, hb, _, _, _, h'⟩)
  | 6, _ =>
    obtain rfl : _ = r := Option.some.inj hj
    obtain ⟨g3, cc3, rfl, _, _, _⟩ := own_cs h.o3 (by decide)
    exact (dclk_ok Lb g c g3 cc3 1 _ v1 v4 2 1 staL (liL.take 6) w h hg rfl rfl (by omega) (by omega) hsw).mono (by rintro e w' ⟨rfl, hb, v', h'⟩; exact ⟨rfl, hb, _, _, _, h'⟩)
theorem results_ctt {P : Program} {fn : Func} {p u x : Tmp} {ty : TypeId} (h : fn.results = #[.cell p ty, .tmp u, .tmp x]) (tmps : Array Value) (w : World) (a : Addr) (va : Value)
    (hp : tmps.getD p undef = .pointer (some a)) (ha : (loadVar ty a).run P w = .ok va w) : (results fn tmps).run P w = .ok (.tuple #[va, tmps.getD u undef, tmps.getD x undef]) w := by
  have hp' : tmps[p]?.getD undef = .pointer (some a) := by simpa using hp
  simp [results, h, hp', asAddr, ha, Result.andThen]
abbrev ly0 : Array Value := #[.slice none 0 0, .slice none 0 0, .slice none 0 0, .slice none 0 0]
structure LpS (w wr : World) (gv : Nat) (az : List (Nat × Nat)) (rows : List (List Wd)) (Lb : Nat) : Prop where
  b : Below w.heap.size w wr
  r : Blk wr w.heap.size 26 ly0
  v : Cs wr gv (rwC az rows)
  c : ∀ (i : Nat) (a : Nat × Nat) (r : List Wd), az[i]? = some a → rows[i]? = some r → Cs wr a.1 (r.flatMap Wd.cells) ∧ a.1 < Lb
  g : w.heap.size < Lb
  h : gv < Lb
theorem LpS.bel {w wr w' : World} {gv Lb : Nat} {az : List (Nat × Nat)} {rows : List (List Wd)} (h : LpS w wr gv az rows Lb) (hb : Below Lb wr w') : LpS w w' gv az rows Lb :=
  ⟨h.b.trans (hb.mono (Nat.le_of_lt h.g)), h.r.same (hb.block _ h.g), h.v.bel h.h hb, fun i a r ha hr => ⟨(h.c i a r ha hr).1.bel (h.c i a r ha hr).2 hb, (h.c i a r ha hr).2⟩, h.g, h.h⟩
def LpL (w : World) (gv : Nat) (az : List (Nat × Nat)) (Lb : Nat) (k : Nat) (v : Value) (wr : World) : Prop := ∃ j : Nat, v = .int .i64 j ∧ j + k = 7 ∧ LpS w wr gv az rwA Lb ∧ LpJ wr Lb j
theorem rlA_ok (j : Nat) (r : List Wd) (h : rwA[j]? = some r) : r.length = rlA j := by
  have hj7 : j < 7 := (List.getElem?_eq_some_iff.1 h).1
  match j, hj7 with
  | 0, _ => obtain rfl : _ = r := Option.some.inj h; rfl
  | 1, _ => obtain rfl : _ = r := Option.some.inj h; rfl
  | 2, _ => obtain rfl : _ = r := Option.some.inj h; rfl
  | 3, _ => obtain rfl : _ = r := Option.some.inj h; rfl
  | 4, _ => obtain rfl : _ = r := Option.some.inj h; rfl
  | 5, _ => obtain rfl : _ = r := Option.some.inj h; rfl
  | 6, _ => obtain rfl : _ = r := Option.some.inj h; rfl
theorem rwC_at {az : List (Nat × Nat)} {rows : List (List Wd)} {j : Nat} {a : Nat × Nat} {r : List Wd} (ha : az[j]? = some a) (hr : rows[j]? = some r) : (rwC az rows)[j]? = some (.slice (some ⟨a.1, 0, none⟩) r.length a.2) := by
  unfold rwC
  rw [List.getElem?_zipWith, ha, hr]
set_option maxRecDepth 100000 in
set_option maxHeartbeats 12800000 in
theorem lparse_ok (w : World) (hsw : SideW w) : Calls Tryz.prog 9 #[.string txA] w fun e w' => ∃ L : LyA, e = .returned (.tuple #[L.v, .int .i64 0, .int .i64 0]) ∧ LayM w' L ∧ Below w.heap.size w w' := by
  have HW := Lib.hid (show ∀ W, Below w.heap.size w W → SideW W from fun W hb => hsw.go hb)
  clear hsw
  go_enter Tryz.func9, Tryz.ntmps9
  go_upto_region 1 with fail
  refine world_gen (fun w0 => Below w.heap.size w w0 ∧ Blk w0 w.heap.size 26 ly0) ⟨(by repeat (first | exact Below.refl _ _ | (with_reducible refine Below.drew ?_) | (with_reducible refine below_drewN ?_ _) | (with_reducible refine Below.alloc ?_ (by first | omega | (simp; done) | (simp; omega)) _) | (with_reducible refine Below.setCell ?_ (by first | omega | (simp; done) | (simp; omega)) _) | (refine Below.trans ?_ (Below.mono (by with_reducible assumption) (by first | omega | (simp; done) | (simp; omega)))))), (by repeat (first | (refine Blk.new' _ _ _ _ ?_; first | rfl | (simp <;> omega)) | refine Blk.al ?_ _ | refine Blk.dr ?_ | refine Blk.drN ?_ _ | refine Blk.far ?_ (by first | omega | (simp; omega))))⟩ ?_
  rintro w0 ⟨hb0, hr0⟩
  have HB0 := Lib.hid hb0
  have HR0 := Lib.hid hr0
  clear hb0 hr0
  go_wp2_with fail
  refine (linesA _).mono ?_
  rintro e w1 ⟨v, az, rfl, hl1, hb1⟩
  obtain ⟨gv, cv, rfl, hv, hgv, _⟩ := own_cs hl1.o (by decide)
  have hl7 : az.length = 7 := hl1.l
  have hS : LpS w (w1.alloc (.cells ly0 26)) gv az rwA w1.heap.size := by
    have hb : Below w1.heap.size w1 (w1.alloc (.cells ly0 26)) := (Below.refl _ _).alloc (Nat.le_refl _) _
    refine ⟨(HB0.out.trans (hb1.mono HB0.out.size)).trans (hb.mono (Nat.le_trans HB0.out.size hb1.size)), (HR0.out.same (hb1.block _ HR0.out.lt)).al _, hv.go hb, fun i a r ha hr => ?_, Nat.lt_of_lt_of_le HR0.out.lt hb1.size, hv.lt⟩
    have ho := hl1.c i a r ha hr
    have hc : Cs w1 a.1 (r.flatMap Wd.cells) := ⟨(own_block ho a.1 rfl).2, fun q u hq => (ho.cellAt q (by rw [← ho.1]; exact (List.getElem?_eq_some_iff.1 hq).1)).trans hq⟩
    exact ⟨hc.go hb, hc.lt⟩
  have HS := Lib.hid hS
  have HJ := Lib.hid (show LpJ (w1.alloc (.cells ly0 26)) w1.heap.size 0 from ⟨_, _, _, Blk.new _ _ _, World.ownsRow_nil _ _ _ _, World.ownsRow_nil _ _ _ _, World.ownsRow_nil _ _ _ _⟩)
  clear hS hl1 hb1 hv hgv HB0 HR0
  have hrl : rwA.length = 7 := rfl
  rw [hrl]
  clear hrl
  go_wp2_with fail
  generalize w1.heap.size = Lb at *
  go_loopg [26] 7 (fun k v wr => LpL w gv az Lb k v wr)
  case atStart => exact ⟨0, rfl, by omega, HS.out, HJ.out⟩
  case round =>
    obtain ⟨j, rfl, hjk, hs, hJ⟩ := hrel
    have Hjk := Lib.hid hjk
    have HS1 := Lib.hid hs
    have HJ1 := Lib.hid hJ
    clear hjk hs hJ HS HJ
    by_cases hj : j < 7
    · obtain ⟨r, hr⟩ : ∃ r, rwA[j]? = some r := ⟨_, List.getElem?_eq_getElem (by rw [show rwA.length = 7 from rfl]; exact hj)⟩
      obtain ⟨a, ha⟩ : ∃ a, az[j]? = some a := ⟨_, List.getElem?_eq_getElem (by rw [hl7]; exact hj)⟩
      have rc := HS1.out.v.c j _ (rwC_at ha hr)
      rw [rlA_ok j r hr] at rc
      obtain ⟨ag, ac⟩ := a
      simp only at rc
      go_wp2_with fail
      refine (dc_step j Lb ag ac r wr hr HJ1.out (HS1.out.c j _ r ha hr).1 (HW.out _ HS1.out.b)).mono ?_
      rintro e w2 ⟨rfl, hb2, hj2⟩
      have HS2 := Lib.hid (HS1.out.bel hb2)
      have HJ2 := Lib.hid hj2
      clear hb2 hj2 HS1 HJ1 rc
      go_wp2_with fail
      go_roundg (7 - j - 1)
      case measure => have := Hjk.out; omega
      case rel => exact ⟨j + 1, by first | rfl | go_num, by omega, HS2.out, HJ2.out⟩
    · obtain rfl : j = 7 := by have := Hjk.out; omega
      obtain ⟨v1, v3, v4, hl⟩ := HJ1.out
      obtain ⟨g1, c1, rfl, hc1, hn1, _⟩ := own_cs hl.o1 (by decide)
      obtain ⟨g3, c3, rfl, hc3, hn3, _⟩ := own_cs hl.o3 (by decide)
      obtain ⟨g4, c4, rfl, hc4, hn4, _⟩ := own_cs hl.o4 (by decide)
      have HM := Lib.hid (show LayM wr ⟨g1, g3, g4, c1, c3, c4⟩ from ⟨hc1, hc3, hc4⟩)
      have x0 := hl.x.cell 0
      have x1 := hl.x.cell 1
      have x2 := hl.x.cell 2
      have x3 := hl.x.cell 3
      have xl := hl.x.lt
      simp at x0 x1 x2 x3
      clear hl hc1 hc3 hc4 HJ1
      go_wp2_with fail
      refine (lcheck_ok ⟨g1, g3, g4, c1, c3, c4⟩ wr HM.out).mono ?_
      rintro e w2 ⟨rfl, hb2⟩
      have HS2 := Lib.hid (show LpS w w2 gv az rwA Lb from ⟨HS1.out.b.trans (hb2.mono HS1.out.b.size), HS1.out.r.same (hb2.block _ HS1.out.r.lt), HS1.out.v.go hb2, fun i a r ha hr => ⟨(HS1.out.c i a r ha hr).1.go hb2, (HS1.out.c i a r ha hr).2⟩, HS1.out.g, HS1.out.h⟩)
      have HM2 := Lib.hid (HM.out.go hb2)
      have y0 := (hb2.cell (p := ⟨Lb, 0, none⟩) xl).trans x0
      have y1 := (hb2.cell (p := ⟨Lb, 1, none⟩) xl).trans x1
      have y2 := (hb2.cell (p := ⟨Lb, 2, none⟩) xl).trans x2
      have y3 := (hb2.cell (p := ⟨Lb, 3, none⟩) xl).trans x3
      have yl := Nat.lt_of_lt_of_le xl hb2.size
      have r0 := HS2.out.r.cell 0
      have r1 := HS2.out.r.cell 1
      have r2 := HS2.out.r.cell 2
      have r3 := HS2.out.r.cell 3
      have rl := HS2.out.r.lt
      have f0 := HS2.out.r.frozen 0
      have f1 := HS2.out.r.frozen 1
      have f2 := HS2.out.r.frozen 2
      have f3 := HS2.out.r.frozen 3
      simp at r0 r1 r2 r3
      clear x0 x1 x2 x3 xl HM HS1 hb2
      go_wp2_with fail
      have hg := HS2.out.g
      have ht := (((Tw.set w.heap.size 0 w2 (.slice (some ⟨g1, 0, none⟩) 2 c1)).tr (Tw.set w.heap.size 1 _ (.slice none 0 0))).tr (Tw.set w.heap.size 2 _ (.slice (some ⟨g3, 0, none⟩) 3 c3))).tr (Tw.set w.heap.size 3 _ (.slice (some ⟨g4, 0, none⟩) 2 c4))
      have hrf : Blk ((((w2.setCell ⟨w.heap.size, 0, none⟩ (.slice (some ⟨g1, 0, none⟩) 2 c1)).setCell ⟨w.heap.size, 1, none⟩ (.slice none 0 0)).setCell ⟨w.heap.size, 2, none⟩ (.slice (some ⟨g3, 0, none⟩) 3 c3)).setCell ⟨w.heap.size, 3, none⟩ (.slice (some ⟨g4, 0, none⟩) 2 c4)) w.heap.size 26 (LyA.mk g1 g3 g4 c1 c3 c4).cs := (((HS2.out.r.set_ 0 _).set_ 1 _).set_ 2 _).set_ 3 _
      refine bodyPost_ret (results_ctt rfl _ _ ⟨w.heap.size, 0, none⟩ _ rfl (run_loadVar_row _ _ _ _ _ (0, 0) _ hrf Tryz.underlying26 rfl (by kernel_rfl))) rfl ?_
      exact ⟨⟨g1, g3, g4, c1, c3, c4⟩, rfl, ⟨HM2.out.st.tw ht (show g1 ≠ w.heap.size by omega), HM2.out.se.tw ht (show g3 ≠ w.heap.size by omega), HM2.out.li.tw ht (show g4 ≠ w.heap.size by omega)⟩, ht.below HS2.out.b (Nat.le_refl _) HS2.out.b.size⟩
end Go.Proofs.YtinjdcefagaaeaaGreatDoor
namespace Go.Proofs.YtinjdcefagaaeaaGreatDoor
open Go.RowKit
/-! plan.Parse: word, number, need, declared -/
/-- the reader's words in memory -/
structure RdW (w : World) (Rb g n c : Nat) (tx : List ByteArray) : Prop where
  h : w.cell? ⟨Rb, 13, none⟩ = some (.slice (some ⟨g, 0, none⟩) n c)
  c : Cs w g (tx.map Value.string)
  n : tx.length = n
theorem RdW.at {w : World} {Rb g n c : Nat} {tx : List ByteArray} (h : RdW w Rb g n c tx) (i : Nat) (s : ByteArray) (hi : tx[i]? = some s) : w.cell? ⟨g, i, none⟩ = some (.string s) ∧ i < n :=
  ⟨h.c.c i _ (by rw [List.getElem?_map, hi]; rfl), by rw [← h.n]; exact (List.getElem?_eq_some_iff.1 hi).1⟩
theorem RdW.go {w w' : World} {Rb g n c : Nat} {tx : List ByteArray} (h : RdW w Rb g n c tx) (hb : Below w.heap.size w w') : RdW w' Rb g n c tx := ⟨cell_bel hb h.h, h.c.go hb, h.n⟩
set_option maxRecDepth 100000 in
set_option maxHeartbeats 1600000 in
theorem word_ok (Rb g n c i : Nat) (tx : List ByteArray) (s : ByteArray) (w : World) (h : RdW w Rb g n c tx) (hi : tx[i]? = some s) : Calls Tryz.prog 76 #[.pointer (some ⟨Rb, 0, none⟩), .int .i64 i] w fun e w' => e = .returned (.string s) ∧ w' = w := by
  obtain ⟨hc, hin⟩ := h.at i s hi
  have x13 := h.h
  have xl := World.block_lt_of_cell? _ _ x13
  have gl := h.c.lt
  clear h
  have hin2 : ¬ (n : Int) ≤ (i : Int) := by omega
  have hin3 : (i : Int) < (n : Int) := by omega
  simp only at xl
  go_enter Tryz.func76, Tryz.ntmps76
  go_wp2_with fail
  go_ret
  exact ⟨rfl, rfl⟩
set_option maxRecDepth 100000 in
set_option maxHeartbeats 1600000 in
theorem need_ok (Rb : Nat) (w : World) : Calls Tryz.prog 75 #[.pointer (some ⟨Rb, 0, none⟩), .bool true] w fun e w' => (∃ v, e = .returned v) ∧ w' = w := by
  go_enter Tryz.func75, Tryz.ntmps75
  go_wp2_with fail
  go_end0
  exact ⟨⟨_, rfl⟩, rfl⟩
set_option maxRecDepth 100000 in
set_option maxHeartbeats 1600000 in
theorem rnum_ok (Rb g n c i : Nat) (tx : List ByteArray) (s : ByteArray) (k : Int) (w : World) (h : RdW w Rb g n c tx) (hi : tx[i]? = some s) (hs : s.size ≤ 64) (hk : numF s.data.toList = (k, true)) : Calls Tryz.prog 77 #[.pointer (some ⟨Rb, 0, none⟩), .int .i64 i] w fun e w' => e = .returned (.int .i64 k) ∧ w' = w := by
  go_enter Tryz.func77, Tryz.ntmps77
  go_wp2_with fail
  refine (word_ok Rb g n c i tx s _ h hi).mono ?_
  rintro e w1 ⟨rfl, hw⟩
  subst hw
  go_wp2_with fail
  refine (num_lit s k _ hs hk).mono ?_
  rintro e w2 ⟨rfl, hw⟩
  subst hw
  go_wp2_with fail
  refine (need_ok Rb _).mono ?_
  rintro e w3 ⟨⟨v3, rfl⟩, hw⟩
  subst hw
  go_wp2_with fail
  go_ret
  exact ⟨rfl, rfl⟩
set_option maxRecDepth 100000 in
set_option maxHeartbeats 1600000 in
theorem decl_ok (Rb i : Nat) (w : World) : Calls Tryz.prog 141 #[.pointer (some ⟨Rb, 0, none⟩), .int .i64 i] w fun e w' => e = .returned (.int .i64 i) ∧ w' = w := by
  have hi : ¬ (i : Int) < 0 := by omega
  go_enter Tryz.func141, Tryz.ntmps141
  go_wp2_with fail
  go_ret
  exact ⟨rfl, rfl⟩
end Go.Proofs.YtinjdcefagaaeaaGreatDoor
namespace Go.Proofs.YtinjdcefagaaeaaGreatDoor
open Go.RowKit
/-! plan.Parse: station, stock, section -/
theorem Cs.at0 {w : World} {g : Nat} {L : List Value} (h : Cs w g L) (i : Nat) (v : Value) (hi : L[i]? = some v) : w.cell? ⟨g, i, none⟩ = some v := h.c i v hi
def stnI (b : UInt8) : Int := if b = 88 then 0 else 1
theorem ixB_ok (L : LyA) (b : UInt8) (w : World) (h : LayM w L) (hb : b = 88 ∨ b = 89) : Calls Tryz.prog 131 #[.slice (some ⟨L.st, 0, none⟩) 2 L.c1, .string ⟨#[b]⟩] w fun e w' => e = .returned (.int .i64 (stnI b)) ∧ w' = w := by
  rcases hb with rfl | rfl
  · exact ixs0_ok L.st 2 L.c1 88 w (h.st.c 0 _ rfl) (by omega)
  · exact ixs1_ok L.st 2 L.c1 w (h.st.c 0 _ rfl) (h.st.c 1 _ rfl) (by omega)
def stnN (b : UInt8) : Nat := if b = 88 then 0 else 1
theorem stn_eq (b : UInt8) (hb : b = 88 ∨ b = 89) : stnI b = (stnN b : Int) := by rcases hb with rfl | rfl <;> rfl
set_option maxRecDepth 100000 in
set_option maxHeartbeats 3200000 in
theorem rstn_ok (Rb g n c i : Nat) (tx : List ByteArray) (b : UInt8) (L : LyA) (w : World) (h : RdW w Rb g n c tx) (hi : tx[i]? = some ⟨#[b]⟩) (hb : b = 88 ∨ b = 89) (hl : LayM w L) (h0 : w.cell? ⟨Rb, 0, none⟩ = some (.slice (some ⟨L.st, 0, none⟩) 2 L.c1)) :
    Calls Tryz.prog 83 #[.pointer (some ⟨Rb, 0, none⟩), .int .i64 i] w fun e w' => e = .returned (.int .i64 (stnI b)) ∧ ∃ m, w' = w.drewN m := by
  have HW := Lib.hid h
  have HL := Lib.hid hl
  have HI := Lib.hid hi
  have HB := Lib.hid hb
  have xl := World.block_lt_of_cell? _ _ h0
  simp only at xl
  have hse := stn_eq b hb
  rw [hse]
  clear h hl hi hb
  go_enter Tryz.func83, Tryz.ntmps83
  go_upto_region 1 with fail
  go_quiet (first | (go_at_call 76; exact Calls.quiet_of_same (word_ok Rb g n c i tx _ _ (HW.out.go (below_drewN (Below.refl _ _) _)) HI.out)) | (go_at_call 131; exact Calls.quiet_of_same ((ixB_ok L b _ (HL.out.go (below_drewN (Below.refl _ _) _)) HB.out).mono fun _ _ h => ⟨h.1.trans (by rw [hse]), h.2⟩)) | (go_at_call 141; exact Calls.quiet_of_same (decl_ok Rb (stnN b) _)))
  go_wp2_with fail
  go_ret
  exact ⟨rfl, _, rfl⟩
set_option maxRecDepth 100000 in
set_option maxHeartbeats 3200000 in
theorem sk1_ok (Rb g n c i q q2 : Nat) (tx : List ByteArray) (w : World) (h : RdW w Rb g n c tx) (hi : tx[i]? = some ⟨#[83]⟩) (hq : w.cell? ⟨q, 0, none⟩ = some (.pointer (some ⟨Rb, 0, none⟩))) (hq2 : w.cell? ⟨q2, 0, none⟩ = some (.int .i64 i)) :
    Calls Tryz.prog 143 #[.agg stkC, .pointer (some ⟨q, 0, none⟩), .pointer (some ⟨q2, 0, none⟩)] w fun e w' => e = .returned (.bool true) ∧ Below w.heap.size w w' := by
  have HW := Lib.hid h
  have HI := Lib.hid hi
  have HQ := Lib.hid hq
  have HQ2 := Lib.hid hq2
  clear h hi hq hq2
  go_enter Tryz.func143, Tryz.ntmps143
  go_upto_region 1 with fail
  refine world_gen (fun w0 => Below w.heap.size w w0 ∧ Blk w0 w.heap.size 46 stkC) ⟨(by repeat (first | exact Below.refl _ _ | (with_reducible refine Below.drew ?_) | (with_reducible refine below_drewN ?_ _) | (with_reducible refine Below.alloc ?_ (by first | omega | (simp; done) | (simp; omega)) _) | (with_reducible refine Below.setCell ?_ (by first | omega | (simp; done) | (simp; omega)) _) | (refine Below.trans ?_ (Below.mono (by with_reducible assumption) (by first | omega | (simp; done) | (simp; omega)))))), (by repeat (first | (refine Blk.new' _ _ _ _ ?_; first | rfl | (simp <;> omega)) | refine Blk.al ?_ _ | refine Blk.dr ?_ | refine Blk.drN ?_ _ | refine Blk.far ?_ (by first | omega | (simp; omega))))⟩ ?_
  rintro w0 ⟨hb0, hz0⟩
  have HB0 := Lib.hid hb0
  have HZ0 := Lib.hid hz0
  have y0 := cell_bel hb0 HQ.out
  have y1 := cell_bel hb0 HQ2.out
  have yl := World.block_lt_of_cell? _ _ y0
  have yl1 := World.block_lt_of_cell? _ _ y1
  have z0 := hz0.cell 0
  have zl := hz0.lt
  simp at z0 yl yl1
  clear hb0 hz0
  go_quiet ((go_at_call 76; exact Calls.quiet_of_same (word_ok Rb g n c i tx _ _ ((HW.out.go HB0.out).go (below_drewN (Below.refl _ _) _)) HI.out)))
  go_wp2_with fail
  go_ret
  exact ⟨rfl, (by have hbelh := HB0.out; have hbels := hbelh.size; exact (by repeat (first | exact Below.refl _ _ | (with_reducible refine Below.drew ?_) | (with_reducible refine below_drewN ?_ _) | (with_reducible refine Below.alloc ?_ (by first | omega | (simp; done) | (simp; omega)) _) | (with_reducible refine Below.setCell ?_ (by first | omega | (simp; done) | (simp; omega)) _) | (refine Below.trans ?_ (Below.mono (by with_reducible assumption) (by first | omega | (simp; done) | (simp; omega)))))))⟩
set_option maxRecDepth 100000 in
set_option maxHeartbeats 3200000 in
theorem ifk_ok (Rb g n c i q q2 gs cs : Nat) (tx : List ByteArray) (w : World) (h : RdW w Rb g n c tx) (hi : tx[i]? = some ⟨#[83]⟩) (hq : w.cell? ⟨q, 0, none⟩ = some (.pointer (some ⟨Rb, 0, none⟩))) (hq2 : w.cell? ⟨q2, 0, none⟩ = some (.int .i64 i)) (hs : Cs w gs stkC.toList) :
    Calls Tryz.prog 142 #[.slice (some ⟨gs, 0, none⟩) 1 cs, .func (.func 143) #[] #[.pointer (some ⟨q, 0, none⟩), .pointer (some ⟨q2, 0, none⟩)]] w fun e w' => e = .returned (.int .i64 0) ∧ Below w.heap.size w w' := by
  have HW := Lib.hid h
  have HI := Lib.hid hi
  have HQ := Lib.hid hq
  have HQ2 := Lib.hid hq2
  have d0 := hs.c 0 _ rfl
  have d1 := hs.c 1 _ rfl
  have d2 := hs.c 2 _ rfl
  have d3 := hs.c 3 _ rfl
  have d4 := hs.c 4 _ rfl
  have dl := hs.lt
  clear h hi hq hq2 hs
  go_enter Tryz.func142, Tryz.ntmps142
  go_wp2_with fail
  go_loopg [8] 0 (fun k v wr => v = .int .i64 0 ∧ wr = w)
  case atStart => exact ⟨rfl, rfl⟩
  case round =>
    obtain ⟨rfl, hw⟩ := hrel
    subst hw
    go_wp2_with fail
    refine (sk1_ok Rb g n c i q q2 tx _ HW.out HI.out HQ.out HQ2.out).mono ?_
    rintro e w2 ⟨rfl, hb2⟩
    have HB2 := Lib.hid hb2
    clear hb2
    go_wp2_with fail
    go_ret
    exact ⟨rfl, HB2.out⟩
set_option maxRecDepth 100000 in
set_option maxHeartbeats 3200000 in
theorem rstk_ok (Rb g n c i gs cs : Nat) (tx : List ByteArray) (w : World) (h : RdW w Rb g n c tx) (hi : tx[i]? = some ⟨#[83]⟩) (hs : Cs w gs stkC.toList) (h5 : w.cell? ⟨Rb, 5, none⟩ = some (.slice (some ⟨gs, 0, none⟩) 1 cs)) :
    Calls Tryz.prog 79 #[.pointer (some ⟨Rb, 0, none⟩), .int .i64 i] w fun e w' => e = .returned (.int .i64 0) ∧ Below w.heap.size w w' := by
  have HW := Lib.hid h
  have HI := Lib.hid hi
  have HQ := Lib.hid h5
  have HS := Lib.hid hs
  clear h hi h5 hs
  go_enter Tryz.func79, Tryz.ntmps79
  go_upto_region 1 with fail
  refine world_gen (fun w0 => Below w.heap.size w w0 ∧ w0.cell? ⟨w.heap.size, 0, none⟩ = some (.pointer (some ⟨Rb, 0, none⟩)) ∧ w0.cell? ⟨w.heap.size + 1, 0, none⟩ = some (.int .i64 i)) ⟨(by repeat (first | exact Below.refl _ _ | (with_reducible refine Below.drew ?_) | (with_reducible refine below_drewN ?_ _) | (with_reducible refine Below.alloc ?_ (by first | omega | (simp; done) | (simp; omega)) _) | (with_reducible refine Below.setCell ?_ (by first | omega | (simp; done) | (simp; omega)) _) | (refine Below.trans ?_ (Below.mono (by with_reducible assumption) (by first | omega | (simp; done) | (simp; omega)))))), (show Blk _ w.heap.size 100 #[.pointer (some ⟨Rb, 0, none⟩)] from (by repeat (first | (refine Blk.new' _ _ _ _ ?_; first | rfl | (simp <;> omega)) | refine Blk.al ?_ _ | refine Blk.dr ?_ | refine Blk.drN ?_ _ | refine Blk.far ?_ (by first | omega | (simp; omega))))).cell 0, (show Blk _ (w.heap.size + 1) 3 #[.int .i64 i] from (by repeat (first | (refine Blk.new' _ _ _ _ ?_; first | rfl | (simp <;> omega)) | refine Blk.al ?_ _ | refine Blk.dr ?_ | refine Blk.drN ?_ _ | refine Blk.far ?_ (by first | omega | (simp; omega))))).cell 0⟩ ?_
  rintro w0 ⟨hb0, hq0, hq1⟩
  have HB0 := Lib.hid hb0
  have HQ0 := Lib.hid (And.intro hq0 hq1)
  have l2 := cell_bel hb0 HQ.out
  have ll := World.block_lt_of_cell? _ _ l2
  have z0 := hq0
  have zl := World.block_lt_of_cell? _ _ hq0
  simp at ll zl
  clear hb0 hq0 hq1
  refine wp_region_overL (by kernel_rfl) (by kernel_rfl) ?_
  repeat (go_big_quiet_step (first | (go_at_call 142; exact callsOver (ifk_ok Rb g n c i _ _ gs cs tx _ ((HW.out.go HB0.out).go (over_below _ _)) HI.out (cell_bel (over_below _ _) HQ0.out.1) (cell_bel (over_below _ _) HQ0.out.2) ((HS.out.go HB0.out).go (over_below _ _)))) | (go_at_call 141; exact callsOverSame ((decl_ok Rb 0 _).mono fun _ _ h => ⟨h.1, h.2.symm⟩))))
  refine wpQuiet_nil ?_
  intro w3 hb3
  have HB3 := Lib.hid (HB0.out.trans (hb3.mono HB0.out.size))
  clear hb3
  go_wp2_with fail
  go_ret
  exact ⟨rfl, HB3.out⟩
end Go.Proofs.YtinjdcefagaaeaaGreatDoor
namespace Go.Proofs.YtinjdcefagaaeaaGreatDoor
open Go.RowKit
/-! plan.Parse: section -/
abbrev scC (j : Nat) : Array Value := #[.string ⟨#[nmF j]⟩, .int .i64 10, .int .i64 20000, .int .i64 0, .int .i64 (stF j)]
set_option maxRecDepth 100000 in
set_option maxHeartbeats 3200000 in
theorem se1_ok (Rb g n c i q q2 j : Nat) (b : UInt8) (tx : List ByteArray) (w : World) (h : RdW w Rb g n c tx) (hi : tx[i]? = some ⟨#[b]⟩) (hq : w.cell? ⟨q, 0, none⟩ = some (.pointer (some ⟨Rb, 0, none⟩))) (hq2 : w.cell? ⟨q2, 0, none⟩ = some (.int .i64 i)) :
    Calls Tryz.prog 198 #[.agg (scC j), .pointer (some ⟨q, 0, none⟩), .pointer (some ⟨q2, 0, none⟩)] w fun e w' => e = .returned (.bool (nmF j == b)) ∧ Below w.heap.size w w' := by
  have HW := Lib.hid h
  have HI := Lib.hid hi
  have HQ := Lib.hid hq
  have HQ2 := Lib.hid hq2
  clear h hi hq hq2
  go_enter Tryz.func198, Tryz.ntmps198
  go_upto_region 1 with fail
  refine world_gen (fun w0 => Below w.heap.size w w0 ∧ Blk w0 w.heap.size 169 (scC j)) ⟨(by repeat (first | exact Below.refl _ _ | (with_reducible refine Below.drew ?_) | (with_reducible refine below_drewN ?_ _) | (with_reducible refine Below.alloc ?_ (by first | omega | (simp; done) | (simp; omega)) _) | (with_reducible refine Below.setCell ?_ (by first | omega | (simp; done) | (simp; omega)) _) | (refine Below.trans ?_ (Below.mono (by with_reducible assumption) (by first | omega | (simp; done) | (simp; omega)))))), (by repeat (first | (refine Blk.new' _ _ _ _ ?_; first | rfl | (simp <;> omega)) | refine Blk.al ?_ _ | refine Blk.dr ?_ | refine Blk.drN ?_ _ | refine Blk.far ?_ (by first | omega | (simp; omega))))⟩ ?_
  rintro w0 ⟨hb0, hz0⟩
  have HB0 := Lib.hid hb0
  have HZ0 := Lib.hid hz0
  have y0 := cell_bel hb0 HQ.out
  have y1 := cell_bel hb0 HQ2.out
  have yl := World.block_lt_of_cell? _ _ y0
  have yl1 := World.block_lt_of_cell? _ _ y1
  have z0 := hz0.cell 0
  have zl := hz0.lt
  simp at z0 yl yl1
  clear hb0 hz0
  go_quiet ((go_at_call 76; exact Calls.quiet_of_same (word_ok Rb g n c i tx _ _ ((HW.out.go HB0.out).go (below_drewN (Below.refl _ _) _)) HI.out)))
  go_wp2_with fail
  go_ret
  exact ⟨rfl, (by have hbelh := HB0.out; have hbels := hbelh.size; exact (by repeat (first | exact Below.refl _ _ | (with_reducible refine Below.drew ?_) | (with_reducible refine below_drewN ?_ _) | (with_reducible refine Below.alloc ?_ (by first | omega | (simp; done) | (simp; omega)) _) | (with_reducible refine Below.setCell ?_ (by first | omega | (simp; done) | (simp; omega)) _) | (refine Below.trans ?_ (Below.mono (by with_reducible assumption) (by first | omega | (simp; done) | (simp; omega)))))))⟩
set_option maxRecDepth 100000 in
set_option maxHeartbeats 3200000 in
theorem ife_ok (Rb g n c ix q q2 gs cs i : Nat) (tx : List ByteArray) (w : World) (h : RdW w Rb g n c tx) (hi : tx[ix]? = some ⟨#[nmF i]⟩) (hq : w.cell? ⟨q, 0, none⟩ = some (.pointer (some ⟨Rb, 0, none⟩))) (hq2 : w.cell? ⟨q2, 0, none⟩ = some (.int .i64 ix)) (hs : Cs w gs seL) (hi3 : i < 3) :
    Calls Tryz.prog 195 #[.slice (some ⟨gs, 0, none⟩) 3 cs, .func (.func 198) #[] #[.pointer (some ⟨q, 0, none⟩), .pointer (some ⟨q2, 0, none⟩)]] w fun e w' => e = .returned (.int .i64 i) ∧ Below w.heap.size w w' := by
  have HW := Lib.hid h
  have HI := Lib.hid hi
  have HQ := Lib.hid hq
  have HQ2 := Lib.hid hq2
  have HS := Lib.hid hs
  clear h hi hq hq2 hs
  go_enter Tryz.func195, Tryz.ntmps195
  go_wp2_with fail
  go_loopg [8] i (fun k v wr => SmL' w i k v wr)
  case atStart => exact ⟨0, rfl, by omega, Below.refl _ _⟩
  case round =>
    obtain ⟨j, rfl, hj, hb⟩ := hrel
    have HB := Lib.hid hb
    have Hj := Lib.hid hj
    have hj3 : j < 3 := by omega
    have hj3i : (j : Int) < 3 := by omega
    clear hb hj
    obtain ⟨d0, d1, d2, d3, d4⟩ := sec_at (HS.out.go HB.out) j hj3
    have dl := (HS.out.go HB.out).lt
    by_cases hji : j = i
    · subst hji
      have heq : (nmF j == nmF j) = true := by simp
      go_wp2_with fail
      refine (se1_ok Rb g n c ix q q2 j (nmF j) tx _ (HW.out.go HB.out) HI.out (cell_bel HB.out HQ.out) (cell_bel HB.out HQ2.out)).mono ?_
      rintro e w2 ⟨rfl, hb2⟩
      rw [heq]
      have HB2 := Lib.hid (HB.out.trans (hb2.mono HB.out.size))
      clear hb2 heq
      go_wp2_with fail
      go_ret
      exact ⟨rfl, HB2.out⟩
    · have heq := nmF_ne i j hi3 hj3 hji
      go_wp2_with fail
      refine (se1_ok Rb g n c ix q q2 j (nmF i) tx _ (HW.out.go HB.out) HI.out (cell_bel HB.out HQ.out) (cell_bel HB.out HQ2.out)).mono ?_
      rintro e w2 ⟨rfl, hb2⟩
      rw [heq]
      have HB2 := Lib.hid (HB.out.trans (hb2.mono HB.out.size))
      clear hb2 heq
      go_wp2_with fail
      go_roundg (i - j - 1)
      case measure => have := Hj.out; omega
      case rel => exact ⟨j + 1, by first | rfl | go_num, by have := Hj.out; omega, HB2.out⟩
set_option maxRecDepth 100000 in
set_option maxHeartbeats 3200000 in
theorem rsec_ok (Rb g n c ix gs cs i : Nat) (tx : List ByteArray) (w : World) (h : RdW w Rb g n c tx) (hi : tx[ix]? = some ⟨#[nmF i]⟩) (hs : Cs w gs seL) (h2 : w.cell? ⟨Rb, 2, none⟩ = some (.slice (some ⟨gs, 0, none⟩) 3 cs)) (hi3 : i < 3) :
    Calls Tryz.prog 140 #[.pointer (some ⟨Rb, 0, none⟩), .int .i64 ix] w fun e w' => e = .returned (.int .i64 i) ∧ Below w.heap.size w w' := by
  have HW := Lib.hid h
  have HI := Lib.hid hi
  have HQ := Lib.hid h2
  have HS := Lib.hid hs
  clear h hi h2 hs
  go_enter Tryz.func140, Tryz.ntmps140
  go_upto_region 1 with fail
  refine world_gen (fun w0 => Below w.heap.size w w0 ∧ w0.cell? ⟨w.heap.size, 0, none⟩ = some (.pointer (some ⟨Rb, 0, none⟩)) ∧ w0.cell? ⟨w.heap.size + 1, 0, none⟩ = some (.int .i64 ix)) ⟨(by repeat (first | exact Below.refl _ _ | (with_reducible refine Below.drew ?_) | (with_reducible refine below_drewN ?_ _) | (with_reducible refine Below.alloc ?_ (by first | omega | (simp; done) | (simp; omega)) _) | (with_reducible refine Below.setCell ?_ (by first | omega | (simp; done) | (simp; omega)) _) | (refine Below.trans ?_ (Below.mono (by with_reducible assumption) (by first | omega | (simp; done) | (simp; omega)))))), (show Blk _ w.heap.size 100 #[.pointer (some ⟨Rb, 0, none⟩)] from (by repeat (first | (refine Blk.new' _ _ _ _ ?_; first | rfl | (simp <;> omega)) | refine Blk.al ?_ _ | refine Blk.dr ?_ | refine Blk.drN ?_ _ | refine Blk.far ?_ (by first | omega | (simp; omega))))).cell 0, (show Blk _ (w.heap.size + 1) 3 #[.int .i64 ix] from (by repeat (first | (refine Blk.new' _ _ _ _ ?_; first | rfl | (simp <;> omega)) | refine Blk.al ?_ _ | refine Blk.dr ?_ | refine Blk.drN ?_ _ | refine Blk.far ?_ (by first | omega | (simp; omega))))).cell 0⟩ ?_
  rintro w0 ⟨hb0, hq0, hq1⟩
  have HB0 := Lib.hid hb0
  have HQ0 := Lib.hid (And.intro hq0 hq1)
  have l2 := cell_bel hb0 HQ.out
  have ll := World.block_lt_of_cell? _ _ l2
  have z0 := hq0
  have zl := World.block_lt_of_cell? _ _ hq0
  simp at ll zl
  clear hb0 hq0 hq1
  refine wp_region_overL (by kernel_rfl) (by kernel_rfl) ?_
  repeat (go_big_quiet_step (first | (go_at_call 195; exact callsOver (ife_ok Rb g n c ix _ _ gs cs i tx _ ((HW.out.go HB0.out).go (over_below _ _)) HI.out (cell_bel (over_below _ _) HQ0.out.1) (cell_bel (over_below _ _) HQ0.out.2) ((HS.out.go HB0.out).go (over_below _ _)) hi3)) | (go_at_call 141; exact callsOverSame ((decl_ok Rb i _).mono fun _ _ h => ⟨h.1, h.2.symm⟩))))
  refine wpQuiet_nil ?_
  intro w3 hb3
  have HB3 := Lib.hid (HB0.out.trans (hb3.mono HB0.out.size))
  clear hb3
  go_wp2_with fail
  go_ret
  exact ⟨rfl, HB3.out⟩
end Go.Proofs.YtinjdcefagaaeaaGreatDoor
