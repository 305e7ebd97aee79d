import Derived.Test.YtcgamkldlmmdnaaRf4
import Derived.Test.YtcgamkldlmmdnaaIne9
namespace Go.Proofs.Ytcgamkldlmmdnaa
open Go.RowKit

set_option maxRecDepth 100000 in
set_option maxHeartbeats 3200000 in
theorem agrees_any (T : Int) (AE AA Ar As Al : Option Addr) (ne ce ca cr cs cl : Nat) (acts : List Act) (arcs signs sl : List Int) (w : World) (hN : NCyc w AA Ar As ne acts arcs signs) (hcr : arcs.length ≤ cr) (hL : Rd w w.heap.size 1 Al sl.length (sl.map (Value.int .i64))) (hll : sl.length ≤ 4611686018427387904) :
    Calls Try.prog 31 #[.agg #[.int .i64 T, .slice AE ne ce, .slice AA acts.length ca], .agg #[.slice Ar arcs.length cr, .slice As signs.length cs], .slice Al sl.length cl] w fun e w' => e = .returned (.bool true) ∧ Below w.heap.size w w' := by
  have HN := Lib.hid hN
  have HSl := Lib.hid hL
  clear hN hL
  have HC0 := Lib.hid (show CBx w ((w.alloc (.cells #[.int .i64 T, .slice AE ne ce, .slice AA acts.length ca] 26)).alloc (.cells #[.slice Ar arcs.length cr, .slice As signs.length cs] 32)) w.heap.size (w.heap.size + 1) #[.int .i64 T, .slice AE ne ce, .slice AA acts.length ca] #[.slice Ar arcs.length cr, .slice As signs.length cs] from
    ⟨(Blk.new _ _ _).al _, by have := Blk.new (w.alloc (.cells #[.int .i64 T, .slice AE ne ce, .slice AA acts.length ca] 26)) 32 #[.slice Ar arcs.length cr, .slice As signs.length cs]; simpa using this, (by repeat (first | exact Below.refl _ _ | (with_reducible refine Below.drew ?_) | (with_reducible refine below_drewN ?_ _) | (with_reducible refine Below.alloc ?_ (by first | omega | (simp; done) | (simp; omega)) _) | (with_reducible refine Below.setCell ?_ (by first | omega | (simp; done) | (simp; omega)) _) | (refine Below.trans ?_ (Below.mono (by with_reducible assumption) (by first | omega | (simp; done) | (simp; omega))))))⟩)
  go_enter Try.func31, Try.ntmps31
  go_upto_region 1 with fail
  refine world_gen (fun w' => CBx w w' w.heap.size (w.heap.size + 1) #[.int .i64 T, .slice AE ne ce, .slice AA acts.length ca] #[.slice Ar arcs.length cr, .slice As signs.length cs]) HC0.out ?_
  intro w0 hc0
  have HC := Lib.hid hc0
  clear hc0 HC0
  obtain ⟨X, hX⟩ : ∃ X, X = w.heap.size := ⟨_, rfl⟩
  obtain ⟨Y, hY⟩ : ∃ Y, Y = w.heap.size + 1 := ⟨_, rfl⟩
  rw [← hY, ← hX] at ⊢
  rw [← hY, ← hX] at HC
  have hXY : w.heap.size ≤ X ∧ w.heap.size ≤ Y ∧ X ≠ Y ∧ Y ≤ w.heap.size + 1 ∧ X < Y := by omega
  obtain ⟨hXw, hYw, hne, hYw1, hXltY⟩ := hXY
  clear hX hY
  have x0 := HC.out.x.cell 0
  have x1 := HC.out.x.cell 1
  have x2 := HC.out.x.cell 2
  have y0 := HC.out.y.cell 0
  have y1 := HC.out.y.cell 1
  simp at x0 x1 x2 y0 y1
  go_wp2_with fail
  refine (wind_any T AE AA Ar As ne ce ca cr cs acts arcs signs _ (HN.out.grow HC.out.bel)).mono ?_
  rintro e wv ⟨rfl, hbv⟩
  have HC1 := Lib.hid (HC.out.grow hbv)
  clear HC hbv x0 x1 x2 y0 y1
  have HC := HC1
  clear HC1
  have x0 := HC.out.x.cell 0
  have x1 := HC.out.x.cell 1
  have x2 := HC.out.x.cell 2
  have y0 := HC.out.y.cell 0
  have y1 := HC.out.y.cell 1
  simp at x0 x1 x2 y0 y1
  go_wp2_with fail
  refine (rwind_any T AE AA Ar As ne ce ca cr cs acts arcs signs _ (HN.out.grow HC.out.bel) hcr).mono ?_
  rintro e wv ⟨rfl, hbv⟩
  have HC1 := Lib.hid (HC.out.grow hbv)
  clear HC hbv x0 x1 x2 y0 y1
  have HC := HC1
  clear HC1
  generalize winL T ne acts arcs signs = a1
  generalize winH T ne acts arcs signs = a2
  have x0 := HC.out.x.cell 0
  have x1 := HC.out.x.cell 1
  have x2 := HC.out.x.cell 2
  have y0 := HC.out.y.cell 0
  have y1 := HC.out.y.cell 1
  simp at x0 x1 x2 y0 y1
  go_wp2_with fail
  refine (gap_any T AE AA Ar As ne ce ca cr cs acts arcs signs _ (HN.out.grow HC.out.bel)).mono ?_
  rintro e wv ⟨rfl, hbv⟩
  have HC1 := Lib.hid (HC.out.grow hbv)
  clear HC hbv x0 x1 x2 y0 y1
  have HC := HC1
  clear HC1
  have x0 := HC.out.x.cell 0
  have x1 := HC.out.x.cell 1
  have x2 := HC.out.x.cell 2
  have y0 := HC.out.y.cell 0
  have y1 := HC.out.y.cell 1
  simp at x0 x1 x2 y0 y1
  go_wp2_with fail
  refine (rgap_any T AE AA Ar As ne ce ca cr cs acts arcs signs _ (HN.out.grow HC.out.bel) hcr).mono ?_
  rintro e wv ⟨rfl, hbv⟩
  have HC1 := Lib.hid (HC.out.grow hbv)
  clear HC hbv x0 x1 x2 y0 y1
  have HC := HC1
  clear HC1
  generalize gapV T ne acts arcs signs = a3
  generalize okW T ne acts arcs signs = a4
  have x0 := HC.out.x.cell 0
  have x1 := HC.out.x.cell 1
  have x2 := HC.out.x.cell 2
  have y0 := HC.out.y.cell 0
  have y1 := HC.out.y.cell 1
  simp at x0 x1 x2 y0 y1
  go_wp2_with fail
  refine (left_any T AE AA Ar As Al ne ce ca cr cs cl acts arcs signs sl _ (HN.out.grow HC.out.bel) ((HSl.out.grow HC.out.bel).more HC.out.bel.size) hll).mono ?_
  rintro e wv ⟨rfl, hbv⟩
  have HC1 := Lib.hid (HC.out.grow hbv)
  clear HC hbv x0 x1 x2 y0 y1
  have HC := HC1
  clear HC1
  have x0 := HC.out.x.cell 0
  have x1 := HC.out.x.cell 1
  have x2 := HC.out.x.cell 2
  have y0 := HC.out.y.cell 0
  have y1 := HC.out.y.cell 1
  simp at x0 x1 x2 y0 y1
  go_wp2_with fail
  refine (rleft_any T AE AA Ar As Al ne ce ca cr cs cl acts arcs signs sl _ (HN.out.grow HC.out.bel) hcr ((HSl.out.grow HC.out.bel).more HC.out.bel.size) hll).mono ?_
  rintro e wv ⟨rfl, hbv⟩
  have HC1 := Lib.hid (HC.out.grow hbv)
  clear HC hbv x0 x1 x2 y0 y1
  have HC := HC1
  clear HC1
  generalize leftV T ne acts arcs signs sl = a5
  generalize leftE T ne acts arcs signs sl = a6
  have x0 := HC.out.x.cell 0
  have x1 := HC.out.x.cell 1
  have x2 := HC.out.x.cell 2
  have y0 := HC.out.y.cell 0
  have y1 := HC.out.y.cell 1
  simp at x0 x1 x2 y0 y1
  have hxl := HC.out.x.lt
  have hyl := HC.out.y.lt
  rename_i wv _
  have HNv := Lib.hid (HN.out.grow HC.out.bel)
  have hd1 : ∀ x : Int, (x == x) = true := fun x => by simp
  go_upto_region 7 with fail
  refine wp_region_overL (by kernel_rfl) (by kernel_rfl) ?_
  repeat (go_big_quiet_step (first | (go_at_call 28; exact callsOver (resid_any T AE AA Ar As ne ce ca cr cs acts arcs signs _ (HNv.out.grow (over_below _ _)))) | (go_at_call 50; exact callsOver (rresid_any T AE AA Ar As ne ce ca cr cs acts arcs signs _ (HNv.out.grow (over_below _ _)) hcr)) | (go_at_call 19; exact callsOver (right_any T AE AA Ar As ne ce ca cr cs acts arcs signs _ (HNv.out.grow (over_below _ _)))) | (go_at_call 45; exact callsOver (rright_any T AE AA Ar As ne ce ca cr cs acts arcs signs _ (HNv.out.grow (over_below _ _)) hcr))))
  refine wpQuiet_nil ?_
  intro w9 hb9
  have HC9 := Lib.hid (HC.out.grow hb9)
  go_wp2_with fail
  go_ret
  exact ⟨rfl, HC9.out.bel⟩

end Go.Proofs.Ytcgamkldlmmdnaa
