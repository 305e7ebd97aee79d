import Derived.Test.YtbmbdenjlbelaaaAgr
import Derived.Test.YtbmbdenjlbelaaaAw15
import Derived.Test.YtbmbdenjlbelaaaOpenPrt
namespace Go.Proofs.Ytbmbdenjlbelaaa
open Go.RowKit
set_option maxRecDepth 100000 in
set_option maxHeartbeats 6400000 in
theorem boundraw_true (x0 : XNet) (x1 : SCyc) (x2 : SPrt) (w : World) (w0 : Rd w w.heap.size 6 x0.AA x0.acts.length (x0.acts.flatMap Act.cells)) (s0 : x0.ne ≤ 4611686018427387904 ∧ x0.acts.length ≤ 4611686018427387904) (w1 : Rd w w.heap.size 2 x1.A x1.xs.length (x1.xs.flatMap Cyc.cells)) (s1 : x1.xs.length ≤ 4611686018427387904 ∧ ∀ c ∈ x1.xs, CyIn w c ∧ CySz c) (w2 : Rd w w.heap.size 3 x2.A x2.xs.length (x2.xs.flatMap Prt.cells)) (s2 : x2.xs.length ≤ 2513169434843 ∧ ∀ p ∈ x2.xs, CyIn w p.c ∧ CySz p.c) :
    Calls Try.prog 9 #[.agg #[.int .i64 x0.T, .slice x0.AE x0.ne x0.ce, .slice x0.AA x0.acts.length x0.ca], .slice x1.A x1.xs.length x1.c, .slice x2.A x2.xs.length x2.c] w fun e w' => e = .returned (.bool true) ∧ Below w.heap.size w w' := by
  obtain ⟨T, AE, ne, ce, AA, ca, acts⟩ := x0
  obtain ⟨Ac, cc, l⟩ := x1
  obtain ⟨Ap, cp, ps⟩ := x2
  simp only at w0 s0 w1 s1 w2 s2
  simp only
  have HA := Lib.hid w0
  obtain ⟨he, hl⟩ := s0
  have HCs := Lib.hid (show CysRd w Ac l from ⟨w1, fun c hc => ⟨(s1.2 c hc).1.1, (s1.2 c hc).1.2.1, (s1.2 c hc).2.1, (s1.2 c hc).2.2⟩, s1.1⟩)
  have HCap := Lib.hid (show ∀ c ∈ l, c.arcs.length ≤ c.cr from fun c hc => (s1.2 c hc).1.2.2)
  have HP := Lib.hid (show PrsRd w Ap ps from ⟨w2, fun p hp => ⟨(s2.2 p hp).1.1, (s2.2 p hp).1.2.1, (s2.2 p hp).2.1, (s2.2 p hp).2.2⟩, s2.1⟩)
  have HCp := Lib.hid (show ∀ p ∈ ps, p.c.arcs.length ≤ p.c.cr from fun p hp => (s2.2 p hp).1.2.2)
  clear w0 w1 s1 w2 s2
  go_enter Try.func9, Try.ntmps9
  go_upto_region 1 with fail
  refine world_gen (fun w1 => FeN w w1 w.heap.size #[.int .i64 T, .slice AE ne ce, .slice AA acts.length ca]) ⟨(Below.refl _ _).alloc (Nat.le_refl _) _, Blk.new _ _ _⟩ ?_
  intro w0 hf0
  obtain ⟨X, hX⟩ : ∃ X, X = w.heap.size := ⟨_, rfl⟩
  rw [← hX] at ⊢
  rw [show FeN w w0 w.heap.size = FeN w w0 X by rw [hX]] at hf0
  clear hX
  have HF := Lib.hid hf0
  clear hf0
  have x0 := HF.out.x.cell 0
  have x1 := HF.out.x.cell 1
  have x2 := HF.out.x.cell 2
  simp at x0 x1 x2
  go_wp2_with fail
  refine (awake_any w0).mono ?_
  rintro e w1 ⟨rfl, hb1⟩
  have HF1 := Lib.hid (HF.out.grow hb1)
  clear x0 x1 x2 hb1 HF
  have HF := HF1
  clear HF1
  have x0 := HF.out.x.cell 0
  have x1 := HF.out.x.cell 1
  have x2 := HF.out.x.cell 2
  simp at x0 x1 x2
  go_wp2_with fail
  refine (agrees_any T AE AA Ac Ap ne ce ca cc cp acts l ps w1 ((HA.out.grow HF.out.bel).more HF.out.bel.size) he hl (HCs.out.grow HF.out.bel) HCap.out (HP.out.grow HF.out.bel) HCp.out).mono ?_
  rintro e w2 ⟨rfl, hb2⟩
  have HF1 := Lib.hid (HF.out.grow hb2)
  clear x0 x1 x2 hb2 HF
  have HF := HF1
  clear HF1
  have x0 := HF.out.x.cell 0
  have x1 := HF.out.x.cell 1
  have x2 := HF.out.x.cell 2
  simp at x0 x1 x2
  go_wp2_with fail
  refine (small_any w2).mono ?_
  rintro e w3 ⟨AE3, AA3, rfl, hA3, hb3⟩
  have HA3 := Lib.hid hA3
  clear hA3
  have HF1 := Lib.hid (HF.out.grow hb3)
  clear x0 x1 x2 hb3 HF
  have HF := HF1
  clear HF1
  have x0 := HF.out.x.cell 0
  have x1 := HF.out.x.cell 1
  have x2 := HF.out.x.cell 2
  simp at x0 x1 x2
  have hE : exB.length = 2 := rfl
  go_wp2_with fail
  refine (agrees_any 10 AE3 AA3 Ac Ap 2 2 2 cc cp exB l ps w3 HA3.out (by omega) (by omega) (HCs.out.grow HF.out.bel) HCap.out (HP.out.grow HF.out.bel) HCp.out).mono ?_
  rintro e w4 ⟨rfl, hb4⟩
  have HB4 := Lib.hid (HF.out.bel.trans (hb4.mono HF.out.bel.size))
  clear hb4
  go_wp2_with fail
  go_ret
  exact ⟨rfl, HB4.out⟩
end Go.Proofs.Ytbmbdenjlbelaaa
