import Derived.Test.YtcgamkldlmmdnaaLw5
import Derived.Test.YtcgamkldlmmdnaaOpenNet
namespace Go.Proofs.Ytcgamkldlmmdnaa
open Go.RowKit

set_option maxRecDepth 100000 in
set_option maxHeartbeats 3200000 in
theorem raw_true (x0 : XNet) (x1 : Cyc) (x2 : SCyc) (A3 : Option Addr) (n3 c3 : Nat) (z3 : List Int) (w : World) (h0 : Rd w w.heap.size 6 x0.AA x0.acts.length (x0.acts.flatMap Act.cells)) (s0 : x0.ne ≤ 4611686018427387904 ∧ x0.acts.length ≤ 4611686018427387904) (h1 : CyIn w x1) (s1 : CySz x1) (h2 : Rd w w.heap.size 2 x2.A x2.xs.length (x2.xs.flatMap Cyc.cells)) (s2 : x2.xs.length ≤ 4611686018427387904 ∧ ∀ c ∈ x2.xs, CyIn w c ∧ CySz c)
    (h3 : Rd w w.heap.size 1 A3 n3 (z3.map (Value.int .i64))) (m3 : n3 ≤ c3 ∧ c3 ≤ maxLen ∧ c3 * 8 ≤ 140737488351232) :
    Calls Try.prog 11 #[.agg #[.int .i64 x0.T, .slice x0.AE x0.ne x0.ce, .slice x0.AA x0.acts.length x0.ca], .agg #[.slice x1.Ar x1.arcs.length x1.cr, .slice x1.As x1.signs.length x1.cs], .slice x2.A x2.xs.length x2.c, .slice A3 n3 c3] w fun e w' => e = .returned (.bool true) ∧ Below w.heap.size w w' := by
  obtain rfl : n3 = z3.length := by have := h3.1; simp at this; omega
  obtain ⟨T, AE, ne, ce, AA, ca, acts⟩ := x0
  obtain ⟨Ac, cc, l⟩ := x2
  have HA := Lib.hid h0
  have HCs := Lib.hid (show CysRd w Ac l from ⟨h2, fun c hc => ⟨(s2.2 c hc).1.1, (s2.2 c hc).1.2.1, (s2.2 c hc).2.1, (s2.2 c hc).2.2⟩, s2.1⟩)
  have HCp := Lib.hid (show ∀ c ∈ l, c.arcs.length ≤ c.cr from fun c hc => (s2.2 c hc).1.2.2)
  have HCy := Lib.hid (show CyRd w x1 from ⟨h1.1, h1.2.1, s1.1, s1.2⟩)
  have HCc := Lib.hid h1.2.2
  have HS3 := Lib.hid h3
  have hsl : z3.length ≤ 4611686018427387904 := by omega
  have he : ne ≤ 4611686018427387904 := s0.1
  have hla : acts.length ≤ 4611686018427387904 := s0.2
  obtain ⟨Ar, cr, As, cs, arcs, signs⟩ := x1
  simp only at HCc HCy HA
  clear h0 h1 h2 h3 s0 s1 s2 m3
  have HC0 := Lib.hid (show CBx w ((w.alloc (.cells #[.int .i64 T, .slice AE ne ce, .slice AA acts.length ca] 26)).alloc (.cells #[.slice Ar arcs.length cr, .slice As signs.length cs] 32)) w.heap.size (w.heap.size + 1) #[.int .i64 T, .slice AE ne ce, .slice AA acts.length ca] #[.slice Ar arcs.length cr, .slice As signs.length cs] from
    ⟨(Blk.new _ _ _).al _, by have := Blk.new (w.alloc (.cells #[.int .i64 T, .slice AE ne ce, .slice AA acts.length ca] 26)) 32 #[.slice Ar arcs.length cr, .slice As signs.length cs]; simpa using this, (by repeat (first | exact Below.refl _ _ | (with_reducible refine Below.drew ?_) | (with_reducible refine below_drewN ?_ _) | (with_reducible refine Below.alloc ?_ (by first | omega | (simp; done) | (simp; omega)) _) | (with_reducible refine Below.setCell ?_ (by first | omega | (simp; done) | (simp; omega)) _) | (refine Below.trans ?_ (Below.mono (by with_reducible assumption) (by first | omega | (simp; done) | (simp; omega))))))⟩)
  go_enter Try.func11, Try.ntmps11
  go_upto_region 1 with fail
  refine world_gen (fun w' => CBx w w' w.heap.size (w.heap.size + 1) #[.int .i64 T, .slice AE ne ce, .slice AA acts.length ca] #[.slice Ar arcs.length cr, .slice As signs.length cs]) HC0.out ?_
  intro w0 hc0
  have HC := Lib.hid hc0
  clear hc0 HC0
  obtain ⟨X, hX⟩ : ∃ X, X = w.heap.size := ⟨_, rfl⟩
  obtain ⟨Y, hY⟩ : ∃ Y, Y = w.heap.size + 1 := ⟨_, rfl⟩
  rw [← hY, ← hX] at ⊢
  rw [← hY, ← hX] at HC
  have hXY : w.heap.size ≤ X ∧ w.heap.size ≤ Y ∧ X ≠ Y ∧ Y ≤ w.heap.size + 1 ∧ X < Y := by omega
  obtain ⟨hXw, hYw, hne, hYw1, hXltY⟩ := hXY
  clear hX hY
  have x0 := HC.out.x.cell 0
  have x1 := HC.out.x.cell 1
  have x2 := HC.out.x.cell 2
  have y0 := HC.out.y.cell 0
  have y1 := HC.out.y.cell 1
  simp at x0 x1 x2 y0 y1
  go_wp2_with fail
  refine (separate_any T AE AA A3 Ac ne ce ca c3 cc acts z3 l _ ((HA.out.grow HC.out.bel).more HC.out.bel.size) he hla (HCs.out.grow HC.out.bel) ((HS3.out.grow HC.out.bel).more HC.out.bel.size) hsl).mono ?_
  rintro e w1 ⟨rfl, hb1⟩
  have HC1 := Lib.hid (HC.out.grow hb1)
  clear HC hb1 x0 x1 x2 y0 y1
  have HC := HC1
  clear HC1
  have x0 := HC.out.x.cell 0
  have x1 := HC.out.x.cell 1
  have x2 := HC.out.x.cell 2
  have y0 := HC.out.y.cell 0
  have y1 := HC.out.y.cell 1
  simp at x0 x1 x2 y0 y1
  go_wp2_with fail
  refine (rseparate_any T AE AA A3 Ac ne ce ca c3 cc acts z3 l _ ((HA.out.grow HC.out.bel).more HC.out.bel.size) he hla (HCs.out.grow HC.out.bel) HCp.out ((HS3.out.grow HC.out.bel).more HC.out.bel.size) hsl).mono ?_
  rintro e w2 ⟨rfl, hb2⟩
  have HC1 := Lib.hid (HC.out.grow hb2)
  clear HC hb2 x0 x1 x2 y0 y1
  have HC := HC1
  clear HC1
  generalize sepV T ne acts z3 l = sv
  obtain ⟨s1, s2, s3⟩ := sv
  simp only
  go_upto_region 3 with fail
  have x0 := HC.out.x.cell 0
  have x1 := HC.out.x.cell 1
  have x2 := HC.out.x.cell 2
  have y0 := HC.out.y.cell 0
  have y1 := HC.out.y.cell 1
  simp at x0 x1 x2 y0 y1
  have hxl := HC.out.x.lt
  have hyl := HC.out.y.lt
  have HCd := Lib.hid (HC.out.grow (Below.refl _ _).drew)
  have HNc : Hid (∀ w', Below w.heap.size w w' → NCyc w' AA Ar As ne acts arcs signs) := fun w' hb => (HCy.out.grow hb).ncyc ((HA.out.grow hb).more hb.size) he hla
  have HNx : Hid (∀ w' AX, Below w.heap.size w w' → Rd w' w'.heap.size 6 AX exA.length (exA.flatMap Act.cells) → NCyc w' AX Ar As 2 exA arcs signs) := fun w' AX hb hx => (HCy.out.grow hb).ncyc hx (by omega) (by decide)
  have HS' : Hid (∀ w', Below w.heap.size w w' → Rd w' w'.heap.size 1 A3 z3.length (z3.map (Value.int .i64))) := fun w' hb => (HS3.out.grow hb).more hb.size
  go_region_held3 (fun w' => w'.cell? ⟨X, 0, none⟩ = some (.int .i64 T) ∧ w'.cell? ⟨X, 1, none⟩ = some (.slice AE ne ce) ∧ w'.cell? ⟨X, 2, none⟩ = some (.slice AA acts.length ca) ∧ w'.cell? ⟨Y, 0, none⟩ = some (.slice Ar arcs.length cr) ∧ w'.cell? ⟨Y, 1, none⟩ = some (.slice As signs.length cs))
    (first | go_keep | (go_split_ands; (repeat (refine And.intro (cell_bel hb7 (by assumption)) ?_)); exact cell_bel hb7 (by assumption)) | (go_split_ands; (repeat (refine And.intro (cell_bel hb6 (by assumption)) ?_)); exact cell_bel hb6 (by assumption)) | (go_split_ands; (repeat (refine And.intro (cell_bel hb5 (by assumption)) ?_)); exact cell_bel hb5 (by assumption)) | (go_split_ands; (repeat (refine And.intro (cell_bel hb4 (by assumption)) ?_)); exact cell_bel hb4 (by assumption)))
    (first | (go_at_call 14; refine (awake_any _).mono ?_; rintro e w4 ⟨rfl, hb4⟩; have HB4 := Lib.hid (HCd.out.grow hb4).bel) | (go_at_call 29; refine (small_any _).mono ?_; rintro e w6 ⟨AX, AY, rfl, hx6, hb6⟩; have HB6 := Lib.hid (HB5.out.trans (hb6.mono HB5.out.size)); have HX6 := Lib.hid hx6; clear hx6) | (go_at_call 31; refine (agrees_any 10 AX AY Ar As A3 2 2 2 cr cs c3 exA arcs signs z3 _ (HNx.out _ _ HB6.out HX6.out) HCc.out (HS'.out _ HB6.out) hsl).mono ?_; rintro e w7 ⟨rfl, hb7⟩; have HB7 := Lib.hid (HB6.out.trans (hb7.mono HB6.out.size))) | (go_at_call 31; refine (agrees_any T AE AA Ar As A3 ne ce ca cr cs c3 acts arcs signs z3 _ (HNc.out _ HB4.out) HCc.out (HS'.out _ HB4.out) hsl).mono ?_; rintro e w5 ⟨rfl, hb5⟩; have HB5 := Lib.hid (HB4.out.trans (hb5.mono HB4.out.size))))
  clear x0 x1 x2 y0 y1 hxl hyl
  go_wp2_with fail
  go_ret
  exact ⟨rfl, HB7.out⟩
end Go.Proofs.Ytcgamkldlmmdnaa
