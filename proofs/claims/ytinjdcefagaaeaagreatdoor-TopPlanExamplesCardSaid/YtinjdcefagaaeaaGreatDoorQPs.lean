import Derived.Test.YtinjdcefagaaeaaGreatDoorQPr
import Derived.Test.YtinjdcefagaaeaaGreatDoorQPl
import Derived.RegionTactic
import Derived.ChangeAlike
import Derived.BigRegion
set_option linter.unusedVariables false
set_option linter.unusedSimpArgs false
namespace Go.Proofs.YtinjdcefagaaeaaGreatDoor
open Go.RowKit
/-! plan.Parse: the rows one by one -/
abbrev deL : List Value := [.int .i64 0, .int .i64 1, .int .i64 3]
abbrev nilV : Value := .slice none 0 0
structure PpF (w : World) (Rb : Nat) (L : LyA) (P : PlA) (j : Nat) : Prop where
  l : LayM w L
  lR : L.st < Rb ∧ L.se < Rb ∧ L.li < Rb
  k : 2 ≤ j → Cs w P.sk stkC.toList ∧ Rb < P.sk
  r : 3 ≤ j → Cs w P.ro (rtC P.sp P.cs).toList ∧ Cs w P.sp stpL ∧ Rb < P.ro ∧ Rb < P.sp ∧ 3 ≤ P.cs
  i : 4 ≤ j → CB w P.li 167 (lnC (if 5 ≤ j then .slice (some ⟨P.ri, 0, none⟩) 1 P.cr else nilV)).toList ∧ Rb < P.li ∧ P.li ≠ P.sk ∧ P.li ≠ P.ro ∧ P.li ≠ P.sp
  q : 5 ≤ j → Cs w P.ri riL ∧ Rb < P.ri
  d : 6 ≤ j → Cs w P.de deL ∧ Rb < P.de
theorem PpF.tw {w w' : World} {Rb j : Nat} {L : LyA} {P : PlA} (h : PpF w Rb L P j) (ht : Tw Rb w w') : PpF w' Rb L P j :=
  ⟨⟨h.l.st.tw ht (by have := h.lR; omega), h.l.se.tw ht (by have := h.lR; omega), h.l.li.tw ht (by have := h.lR; omega)⟩, h.lR,
   fun e => ⟨(h.k e).1.tw ht (by have := (h.k e).2; omega), (h.k e).2⟩,
   fun e => ⟨(h.r e).1.tw ht (by have := (h.r e).2; omega), (h.r e).2.1.tw ht (by have := (h.r e).2; omega), (h.r e).2.2⟩,
   fun e => ⟨(h.i e).1.tw ht (by have := (h.i e).2; omega), (h.i e).2⟩,
   fun e => ⟨(h.q e).1.tw ht (by have := (h.q e).2; omega), (h.q e).2⟩,
   fun e => ⟨(h.d e).1.tw ht (by have := (h.d e).2; omega), (h.d e).2⟩⟩
theorem PpF.go {w w' : World} {Rb j : Nat} {L : LyA} {P : PlA} (h : PpF w Rb L P j) (hb : Below w.heap.size w w') : PpF w' Rb L P j := h.tw (Tw.of hb)
/-- the reader after j lines -/
def ppC (L : LyA) (P : PlA) (vw : Value) : Nat → Array Value
  | 0 => rdC L 0 nilV nilV nilV nilV false vw 0
  | 1 => rdC L 300 nilV nilV nilV nilV true vw 0
  | 2 => rdC L 300 (.slice (some ⟨P.sk, 0, none⟩) 1 P.c1) nilV nilV nilV true vw 0
  | 3 => rdC L 300 (.slice (some ⟨P.sk, 0, none⟩) 1 P.c1) (.slice (some ⟨P.ro, 0, none⟩) 1 P.c2) nilV nilV true vw 0
  | 4 => rdC L 300 (.slice (some ⟨P.sk, 0, none⟩) 1 P.c1) (.slice (some ⟨P.ro, 0, none⟩) 1 P.c2) (.slice (some ⟨P.li, 0, none⟩) 1 P.c3) nilV true vw 0
  | 5 => rdC L 300 (.slice (some ⟨P.sk, 0, none⟩) 1 P.c1) (.slice (some ⟨P.ro, 0, none⟩) 1 P.c2) (.slice (some ⟨P.li, 0, none⟩) 1 P.c3) nilV true vw 0
  | _ => rdC L 300 (.slice (some ⟨P.sk, 0, none⟩) 1 P.c1) (.slice (some ⟨P.ro, 0, none⟩) 1 P.c2) (.slice (some ⟨P.li, 0, none⟩) 1 P.c3) (.slice (some ⟨P.de, 0, none⟩) 1 P.c4) true vw 0
def PpJ (w : World) (Rb : Nat) (L : LyA) (j : Nat) : Prop := ∃ P vw, Blk w Rb 102 (ppC L P vw j) ∧ PpF w Rb L P j
def rlB : Nat → Nat | 0 => 2 | 1 => 6 | 2 => 7 | 3 => 4 | 4 => 3 | _ => 4
theorem rlB_ok (j : Nat) (r : List Wd) (h : rwB[j]? = some r) : r.length = rlB j := by
  have hj6 : j < 6 := (List.getElem?_eq_some_iff.1 h).1
  match j, hj6 with
  | 0, _ => obtain rfl : _ = r := Option.some.inj h; rfl
  | 1, _ => obtain rfl : _ = r := Option.some.inj h; rfl
  | 2, _ => obtain rfl : _ = r := Option.some.inj h; rfl
  | 3, _ => obtain rfl : _ = r := Option.some.inj h; rfl
  | 4, _ => obtain rfl : _ = r := Option.some.inj h; rfl
  | 5, _ => obtain rfl : _ = r := Option.some.inj h; rfl
def PpPost (Rb : Nat) (L : LyA) (j : Nat) (w : World) (e : Ending) (w' : World) : Prop := e = .returned (.int .i64 0) ∧ Below Rb w w' ∧ PpJ w' Rb L (j + 1)
theorem pp_step (j Rb g c : Nat) (L : LyA) (r : List Wd) (w : World) (hj : rwB[j]? = some r) (h : PpJ w Rb L j) (hg : Cs w g (r.flatMap Wd.cells)) (hgR : g < Rb) :
    Calls Tryz.prog 28 #[.pointer (some ⟨Rb, 0, none⟩), .slice (some ⟨g, 0, none⟩) (rlB j) c] w (PpPost Rb L j w) := by
  obtain ⟨P, vw, hx, hf⟩ := h
  have hj6 : j < 6 := (List.getElem?_eq_some_iff.1 hj).1
  have hgn : g ≠ Rb := by omega
  have hRl := hx.lt
  have hbel : ∀ w', Tw Rb w w' → Below Rb w w' := fun w' ht => ht.below (Below.refl _ _) (Nat.le_refl _) (Nat.le_of_lt hRl)
  have hlR : L.st ≠ Rb ∧ L.se ≠ Rb ∧ L.li ≠ Rb := by have := hf.lR; omega
  match j, hj6 with
  | 0, _ =>
    obtain rfl : _ = r := Option.some.inj hj
    refine (pdper_ok Rb g c _ L 0 nilV nilV nilV nilV vw w hx hg hgn rfl rfl).mono ?_
    rintro e w' ⟨rfl, ht, vw', hx'⟩
    have hf' := hf.tw ht
    exact ⟨rfl, hbel _ ht, P, vw', hx', ⟨hf'.l, hf'.lR, fun e => by omega, fun e => by omega, fun e => by omega, fun e => by omega, fun e => by omega⟩⟩
  | 1, _ =>
    obtain rfl : _ = r := Option.some.inj hj
    refine (pdstk_ok Rb g c _ L 300 nilV nilV nilV vw true w hx hg hgn rfl rfl).mono ?_
    rintro e w' ⟨rfl, ht, g', c', vw', hgw, hcb, hx'⟩
    have hf' := hf.tw ht
    exact ⟨rfl, hbel _ ht, { P with sk := g', c1 := c' }, vw', hx', ⟨hf'.l, hf'.lR, fun _ => ⟨hcb.cs, by show Rb < g'; omega⟩, fun e => by omega, fun e => by omega, fun e => by omega, fun e => by omega⟩⟩
  | 2, _ =>
    obtain rfl : _ = r := Option.some.inj hj
    refine (pdrou_ok Rb g c _ L 300 (.slice (some ⟨P.sk, 0, none⟩) 1 P.c1) nilV nilV vw true w hx hf.l hlR hg hgn rfl rfl).mono ?_
    rintro e w' ⟨rfl, ht, gr, cr, sp, cs, vw', hgr, hsp, hcs, hcb, hst, hx'⟩
    have hf' := hf.tw ht
    exact ⟨rfl, hbel _ ht, { P with ro := gr, c2 := cr, sp := sp, cs := cs }, vw', hx', ⟨hf'.l, hf'.lR, fun _ => hf'.k (by omega), fun _ => ⟨hcb.cs, hst, by show Rb < gr; omega, by show Rb < sp; omega, hcs⟩, fun e => by omega, fun e => by omega, fun e => by omega⟩⟩
  | 3, _ =>
    obtain rfl : _ = r := Option.some.inj hj
    have hk := hf.k (by omega)
    have hr := hf.r (by omega)
    refine (pdlin_ok Rb g c P.sk P.c1 _ L 300 (.slice (some ⟨P.ro, 0, none⟩) 1 P.c2) nilV vw true w hx hk.1 (by omega) hg hgn rfl rfl).mono ?_
    rintro e w' ⟨rfl, ht, g', c', vw', hgw, hcb, hx'⟩
    have hf' := hf.tw ht
    have h1 := hk.1.lt
    have h2 := hr.1.lt
    have h3 := hr.2.1.lt
    exact ⟨rfl, hbel _ ht, { P with li := g', c3 := c' }, vw', hx', ⟨hf'.l, hf'.lR, fun _ => hf'.k (by omega), fun _ => hf'.r (by omega), fun _ => ⟨hcb, by show Rb < g'; omega, by show g' ≠ P.sk; omega, by show g' ≠ P.ro; omega, by show g' ≠ P.sp; omega⟩, fun e => by omega, fun e => by omega⟩⟩
  | 4, _ =>
    obtain rfl : _ = r := Option.some.inj hj
    have hk := hf.k (by omega)
    have hr := hf.r (by omega)
    have hi := hf.i (by omega)
    refine (pdrid_ok Rb g c P.li P.c3 _ L 300 (.slice (some ⟨P.sk, 0, none⟩) 1 P.c1) (.slice (some ⟨P.ro, 0, none⟩) 1 P.c2) nilV vw true w hx hi.1 (by omega) hg hgn rfl rfl).mono ?_
    rintro e w' ⟨rfl, ht, ga, ca, vw', hgw, hca, hcl, hx'⟩
    have hl := hf.lR
    have h4 := hi.2.1
    have h5 := hi.2.2
    exact ⟨rfl, ht.below (Below.refl _ _) (Nat.le_refl _) (by omega) (Nat.le_of_lt hRl), { P with ri := ga, cr := ca }, vw', hx',
      ⟨⟨hf.l.st.t2 ht (by omega) (by omega), hf.l.se.t2 ht (by omega) (by omega), hf.l.li.t2 ht (by omega) (by omega)⟩, hf.lR,
       fun _ => ⟨hk.1.t2 ht (by omega) (fun e => h5.1 e.symm), hk.2⟩,
       fun _ => ⟨hr.1.t2 ht (by omega) (fun e => h5.2.1 e.symm), hr.2.1.t2 ht (by omega) (fun e => h5.2.2 e.symm), hr.2.2⟩,
       fun _ => ⟨hcl, hi.2⟩, fun _ => ⟨hca.cs, by show Rb < ga; omega⟩, fun e => by omega⟩⟩
  | 5, _ =>
    obtain rfl : _ = r := Option.some.inj hj
    refine (pddem_ok Rb g c _ L 300 (.slice (some ⟨P.sk, 0, none⟩) 1 P.c1) (.slice (some ⟨P.ro, 0, none⟩) 1 P.c2) (.slice (some ⟨P.li, 0, none⟩) 1 P.c3) vw true w hx hf.l hlR hg hgn rfl rfl).mono ?_
    rintro e w' ⟨rfl, ht, g', c', vw', hgw, hcb, hx'⟩
    have hf' := hf.tw ht
    exact ⟨rfl, hbel _ ht, { P with de := g', c4 := c' }, vw', hx', ⟨hf'.l, hf'.lR, fun _ => hf'.k (by omega), fun _ => hf'.r (by omega), fun _ => hf'.i (by omega), fun _ => hf'.q (by omega), fun _ => ⟨hcb.cs, by show Rb < g'; omega⟩⟩⟩
end Go.Proofs.YtinjdcefagaaeaaGreatDoor
namespace Go.Proofs.YtinjdcefagaaeaaGreatDoor
open Go.RowKit
/-! plan.Parse of the example's text -/
abbrev pl0 : Array Value := #[.int .i64 0, nilV, nilV, nilV, nilV, nilV, nilV, nilV]
structure PqS (w wr : World) (L : LyA) (gv : Nat) (az : List (Nat × Nat)) (rows : List (List Wd)) (Rb : Nat) : Prop where
  b : Below w.heap.size w wr
  x : Blk wr w.heap.size 26 L.cs
  r : Blk wr (w.heap.size + 1) 35 pl0
  v : Cs wr gv (rwC az rows)
  c : ∀ (i : Nat) (a : Nat × Nat) (r : List Wd), az[i]? = some a → rows[i]? = some r → Cs wr a.1 (r.flatMap Wd.cells) ∧ a.1 < Rb
  g : w.heap.size + 1 < Rb
  h : gv < Rb
theorem PqS.bel {w wr w' : World} {L : LyA} {gv Rb : Nat} {az : List (Nat × Nat)} {rows : List (List Wd)} (h : PqS w wr L gv az rows Rb) (hb : Below Rb wr w') : PqS w w' L gv az rows Rb :=
  ⟨h.b.trans (hb.mono (by have := h.g; omega)), h.x.same (hb.block _ (by have := h.g; omega)), h.r.same (hb.block _ h.g), h.v.bel h.h hb, fun i a r ha hr => ⟨(h.c i a r ha hr).1.bel (h.c i a r ha hr).2 hb, (h.c i a r ha hr).2⟩, h.g, h.h⟩
theorem PqS.go {w wr w' : World} {L : LyA} {gv Rb : Nat} {az : List (Nat × Nat)} {rows : List (List Wd)} (h : PqS w wr L gv az rows Rb) (hb : Below wr.heap.size wr w') : PqS w w' L gv az rows Rb :=
  ⟨h.b.trans (hb.mono h.b.size), h.x.same (hb.block _ h.x.lt), h.r.same (hb.block _ h.r.lt), h.v.go hb, fun i a r ha hr => ⟨(h.c i a r ha hr).1.go hb, (h.c i a r ha hr).2⟩, h.g, h.h⟩
abbrev stP (w : World) (G : Nat) (P : PlA) : World := (((((((w.setCell ⟨G, 0, none⟩ (.int .i64 300)).setCell ⟨G, 1, none⟩ (.slice (some ⟨P.sk, 0, none⟩) 1 P.c1)).setCell ⟨G, 2, none⟩ (.slice (some ⟨P.ro, 0, none⟩) 1 P.c2)).setCell ⟨G, 3, none⟩ (.slice (some ⟨P.li, 0, none⟩) 1 P.c3)).setCell ⟨G, 4, none⟩ nilV).setCell ⟨G, 5, none⟩ nilV).setCell ⟨G, 6, none⟩ nilV).setCell ⟨G, 7, none⟩ (.slice (some ⟨P.de, 0, none⟩) 1 P.c4)
theorem stP_ok (w : World) (G : Nat) (P : PlA) (h : Blk w G 35 pl0) : Tw G w (stP w G P) ∧ Blk (stP w G P) G 35 P.cells :=
  ⟨(((((((Tw.set G 0 w _).tr (Tw.set G 1 _ _)).tr (Tw.set G 2 _ _)).tr (Tw.set G 3 _ _)).tr (Tw.set G 4 _ _)).tr (Tw.set G 5 _ _)).tr (Tw.set G 6 _ _)).tr (Tw.set G 7 _ _),
   (((((((h.set_ 0 _).set_ 1 _).set_ 2 _).set_ 3 _).set_ 4 _).set_ 5 _).set_ 6 _).set_ 7 _⟩
def PqL (w : World) (L : LyA) (gv : Nat) (az : List (Nat × Nat)) (Rb : Nat) (k : Nat) (v : Value) (wr : World) : Prop := ∃ j : Nat, v = .int .i64 j ∧ j + k = 6 ∧ PqS w wr L gv az rwB Rb ∧ PpJ wr Rb L j
set_option maxRecDepth 100000 in
set_option maxHeartbeats 12800000 in
theorem pparse_ok (L : LyA) (w : World) (h : LayM w L) : Calls Tryz.prog 10 #[L.v, .string txB] w fun e w' => ∃ P : PlA, e = .returned (.tuple #[P.v, .int .i64 0, .int .i64 0]) ∧ PlM w' P ∧ Below w.heap.size w w' := by
  have HL := Lib.hid h
  clear h
  go_enter Tryz.func10, Tryz.ntmps10
  go_upto_region 1 with fail
  refine world_gen (fun w0 => Below w.heap.size w w0 ∧ Blk w0 w.heap.size 26 L.cs ∧ Blk w0 (w.heap.size + 1) 35 pl0) ⟨(by repeat (first | exact Below.refl _ _ | (with_reducible refine Below.drew ?_) | (with_reducible refine below_drewN ?_ _) | (with_reducible refine Below.alloc ?_ (by first | omega | (simp; done) | (simp; omega)) _) | (with_reducible refine Below.setCell ?_ (by first | omega | (simp; done) | (simp; omega)) _) | (refine Below.trans ?_ (Below.mono (by with_reducible assumption) (by first | omega | (simp; done) | (simp; omega)))))), (by repeat (first | (refine Blk.new' _ _ _ _ ?_; first | rfl | (simp <;> omega)) | refine Blk.al ?_ _ | refine Blk.dr ?_ | refine Blk.drN ?_ _ | refine Blk.far ?_ (by first | omega | (simp; omega)))), (by repeat (first | (refine Blk.new' _ _ _ _ ?_; first | rfl | (simp <;> omega)) | refine Blk.al ?_ _ | refine Blk.dr ?_ | refine Blk.drN ?_ _ | refine Blk.far ?_ (by first | omega | (simp; omega))))⟩ ?_
  rintro w0 ⟨hb0, hx0, hr0⟩
  have HB0 := Lib.hid hb0
  have HX0 := Lib.hid hx0
  have HR0 := Lib.hid hr0
  have x0 := hx0.cell 0
  have x1 := hx0.cell 1
  have x2 := hx0.cell 2
  have x3 := hx0.cell 3
  have xl := hx0.lt
  simp at x0 x1 x2 x3
  clear hb0 hx0 hr0
  go_wp2_with fail
  refine (lcheck_ok L _ (HL.out.go HB0.out)).mono ?_
  rintro e w1 ⟨rfl, hb1⟩
  have HB1 := Lib.hid (HB0.out.trans (hb1.mono HB0.out.size))
  have HX1 := Lib.hid (HX0.out.same (hb1.block _ HX0.out.lt))
  have HR1 := Lib.hid (HR0.out.same (hb1.block _ HR0.out.lt))
  clear hb1 HB0 HX0 HR0 x0 x1 x2 x3 xl
  go_wp2_with fail
  refine (linesB _).mono ?_
  rintro e w2 ⟨v, az, rfl, hl2, hb2⟩
  obtain ⟨gv, cv, rfl, hv, hgv, _⟩ := own_cs hl2.o (by decide)
  have hl6 : az.length = 6 := hl2.l
  have HB2 := Lib.hid (HB1.out.trans (hb2.mono HB1.out.size))
  have HX2 := Lib.hid (HX1.out.same (hb2.block _ HX1.out.lt))
  have HR2 := Lib.hid (HR1.out.same (hb2.block _ HR1.out.lt))
  have HV2 := Lib.hid (And.intro hl2 hv)
  clear hb2 hl2 hv hgv HB1 HX1 HR1
  have x0 := HX2.out.cell 0
  have x1 := HX2.out.cell 1
  have x2 := HX2.out.cell 2
  have x3 := HX2.out.cell 3
  have xl := HX2.out.lt
  simp at x0 x1 x2 x3
  have hrl : rwB.length = 6 := rfl
  rw [hrl]
  clear hrl
  go_upto_region 7 with fail
  have hbw := HB2.out.size
  have hRl := HR2.out.lt
  refine world_gen (fun w3 => PqS w w3 L gv az rwB w2.heap.size ∧ PpJ w3 w2.heap.size L 0) ?_ ?_
  · have hbx : Below w2.heap.size w2 (w2.alloc (.cells (ppC L ⟨0, 0, 0, 0, 0, 0, 0, 0, 0, 0, 0, 0⟩ nilV 0) 102)) := (Below.refl _ w2).alloc (Nat.le_refl _) _
    have hbX := HB2.out.trans (hbx.mono hbw)
    have h1 := HL.out.st.lt
    have h2 := HL.out.se.lt
    have h3 := HL.out.li.lt
    refine ⟨⟨hbX, HX2.out.same (hbx.block _ HX2.out.lt), HR2.out.same (hbx.block _ HR2.out.lt), HV2.out.2.go hbx, fun i a r ha hr => ?_, hRl, HV2.out.2.lt⟩, ⟨0, 0, 0, 0, 0, 0, 0, 0, 0, 0, 0, 0⟩, nilV, Blk.new _ _ _, ⟨HL.out.go hbX, ⟨by omega, by omega, by omega⟩, fun e => by omega, fun e => by omega, fun e => by omega, fun e => by omega, fun e => by omega⟩⟩
    have ho := HV2.out.1.c i a r ha hr
    have hc : Cs w2 a.1 (r.flatMap Wd.cells) := ⟨(own_block ho a.1 rfl).2, fun q u hq => (ho.cellAt q (by rw [← ho.1]; exact (List.getElem?_eq_some_iff.1 hq).1)).trans hq⟩
    exact ⟨hc.go hbx, hc.lt⟩
  rintro w3 ⟨hs3, hj3⟩
  have HS := Lib.hid hs3
  have HJ := Lib.hid hj3
  clear hs3 hj3 HB2 HX2 HR2 HV2 x0 x1 x2 x3 xl hbw hRl
  generalize w2.heap.size = Rb at *
  go_wp2_with fail
  go_loopg [35] 6 (fun k v wr => PqL w L gv az Rb k v wr)
  case atStart => exact ⟨0, rfl, by omega, HS.out, HJ.out⟩
  case round =>
    obtain ⟨j, rfl, hjk, hs, hJ⟩ := hrel
    have Hjk := Lib.hid hjk
    have HS1 := Lib.hid hs
    have HJ1 := Lib.hid hJ
    clear hjk hs hJ HS HJ
    by_cases hj : j < 6
    · obtain ⟨r, hr⟩ : ∃ r, rwB[j]? = some r := ⟨_, List.getElem?_eq_getElem (by rw [show rwB.length = 6 from rfl]; exact hj)⟩
      obtain ⟨a, ha⟩ : ∃ a, az[j]? = some a := ⟨_, List.getElem?_eq_getElem (by rw [hl6]; exact hj)⟩
      have rc := HS1.out.v.c j _ (rwC_at ha hr)
      rw [rlB_ok j r hr] at rc
      obtain ⟨ag, ac⟩ := a
      simp only at rc
      go_wp2_with fail
      refine (pp_step j Rb ag ac L r wr hr HJ1.out (HS1.out.c j _ r ha hr).1 (HS1.out.c j _ r ha hr).2).mono ?_
      rintro e w4 ⟨rfl, hb4, hj4⟩
      have HS2 := Lib.hid (HS1.out.bel hb4)
      have HJ2 := Lib.hid hj4
      clear hb4 hj4 HS1 HJ1 rc
      go_wp2_with fail
      go_roundg (6 - j - 1)
      case measure => have := Hjk.out; omega
      case rel => exact ⟨j + 1, by first | rfl | go_num, by omega, HS2.out, HJ2.out⟩
    · obtain rfl : j = 6 := by have := Hjk.out; omega
      obtain ⟨P, vw, hx, hf⟩ := HJ1.out
      have hx' : Blk wr Rb 102 (rdC L 300 (.slice (some ⟨P.sk, 0, none⟩) 1 P.c1) (.slice (some ⟨P.ro, 0, none⟩) 1 P.c2) (.slice (some ⟨P.li, 0, none⟩) 1 P.c3) (.slice (some ⟨P.de, 0, none⟩) 1 P.c4) true vw 0) := hx
      have HM := Lib.hid (show PlM wr P from ⟨(hf.k (by omega)).1, (hf.r (by omega)).1, (hf.r (by omega)).2.1, (hf.i (by omega)).1.cs, (hf.q (by omega)).1, (hf.d (by omega)).1, (hf.r (by omega)).2.2.2.2⟩)
      have HN := Lib.hid (show Rb < P.sk ∧ Rb < P.ro ∧ Rb < P.sp ∧ Rb < P.li ∧ Rb < P.ri ∧ Rb < P.de from ⟨(hf.k (by omega)).2, (hf.r (by omega)).2.2.1, (hf.r (by omega)).2.2.2.1, (hf.i (by omega)).2.1, (hf.q (by omega)).2, (hf.d (by omega)).2⟩)
      have HY := Lib.hid hx'
      have y4 := hx'.cell 4
      have y5 := hx'.cell 5
      have y6 := hx'.cell 6
      have y7 := hx'.cell 7
      have y8 := hx'.cell 8
      have y9 := hx'.cell 9
      have y10 := hx'.cell 10
      have y11 := hx'.cell 11
      have yl := hx'.lt
      have x0 := HS1.out.x.cell 0
      have x1 := HS1.out.x.cell 1
      have x2 := HS1.out.x.cell 2
      have x3 := HS1.out.x.cell 3
      have xl := HS1.out.x.lt
      simp at y4 y5 y6 y7 y8 y9 y10 y11 x0 x1 x2 x3
      clear hx hf hx' HJ1
      go_upto_region 14 with fail
      refine wp_region_overL (by kernel_rfl) (by kernel_rfl) ?_
      repeat (go_big_quiet_step ((go_at_call 29; exact callsOver (pcheck_ok L P _ ((HL.out.go HS1.out.b).go (over_below _ _)) (HM.out.go (over_below _ _))))))
      refine wpQuiet_nil ?_
      intro w5 hb5
      have HS5 := Lib.hid (HS1.out.go hb5)
      have HM5 := Lib.hid (HM.out.go hb5)
      have HY5 := Lib.hid (HY.out.same (hb5.block _ HY.out.lt))
      clear hb5 HS1 HM HY y4 y5 y6 y7 y8 y9 y10 y11 yl x0 x1 x2 x3 xl
      have y4 := HY5.out.cell 4
      have y5 := HY5.out.cell 5
      have y6 := HY5.out.cell 6
      have y7 := HY5.out.cell 7
      have y8 := HY5.out.cell 8
      have y9 := HY5.out.cell 9
      have y10 := HY5.out.cell 10
      have y11 := HY5.out.cell 11
      have yl := HY5.out.lt
      have r0 := HS5.out.r.cell 0
      have r1 := HS5.out.r.cell 1
      have r2 := HS5.out.r.cell 2
      have r3 := HS5.out.r.cell 3
      have r4 := HS5.out.r.cell 4
      have r5 := HS5.out.r.cell 5
      have r6 := HS5.out.r.cell 6
      have r7 := HS5.out.r.cell 7
      have f0 := HS5.out.r.frozen 0
      have f1 := HS5.out.r.frozen 1
      have f2 := HS5.out.r.frozen 2
      have f3 := HS5.out.r.frozen 3
      have f4 := HS5.out.r.frozen 4
      have f5 := HS5.out.r.frozen 5
      have f6 := HS5.out.r.frozen 6
      have f7 := HS5.out.r.frozen 7
      have rl := HS5.out.r.lt
      simp at y4 y5 y6 y7 y8 y9 y10 y11 r0 r1 r2 r3 r4 r5 r6 r7
      go_wp2_with fail
      have hst := stP_ok w5 (w.heap.size + 1) P HS5.out.r
      have hg := HS5.out.g
      have hn := HN.out
      have hbs := HS5.out.b.size
      have hm := HM5.out
      refine bodyPost_ret (results_ctt rfl _ _ ⟨w.heap.size + 1, 0, none⟩ _ rfl (run_loadVar_row _ _ _ _ _ (0, 0) _ hst.2 Tryz.underlying35 rfl (by kernel_rfl))) rfl ?_
      exact ⟨P, rfl, ⟨hm.sk.tw hst.1 (by omega), hm.ro.tw hst.1 (by omega), hm.sp.tw hst.1 (by omega), hm.li.tw hst.1 (by omega), hm.ri.tw hst.1 (by omega), hm.de.tw hst.1 (by omega), hm.c⟩, hst.1.below HS5.out.b (by omega) hbs⟩
end Go.Proofs.YtinjdcefagaaeaaGreatDoor
namespace Go.Proofs.YtinjdcefagaaeaaGreatDoor
open Go.RowKit
/-! railplantop.read -/
abbrev stL (w : World) (G : Nat) (L : LyA) : World := (((w.setCell ⟨G, 0, none⟩ (.slice (some ⟨L.st, 0, none⟩) 2 L.c1)).setCell ⟨G, 1, none⟩ nilV).setCell ⟨G, 2, none⟩ (.slice (some ⟨L.se, 0, none⟩) 3 L.c3)).setCell ⟨G, 3, none⟩ (.slice (some ⟨L.li, 0, none⟩) 2 L.c4)
theorem stL_ok (w : World) (G : Nat) (L : LyA) (h : Blk w G 26 ly0) : Tw G w (stL w G L) ∧ Blk (stL w G L) G 26 L.cs :=
  ⟨(((Tw.set G 0 w _).tr (Tw.set G 1 _ _)).tr (Tw.set G 2 _ _)).tr (Tw.set G 3 _ _), (((h.set_ 0 _).set_ 1 _).set_ 2 _).set_ 3 _⟩
theorem results_cct {P : Program} {fn : Func} {p q u : Tmp} {ty tz : TypeId} (h : fn.results = #[.cell p ty, .cell q tz, .tmp u]) (tmps : Array Value) (w : World) (a b : Addr) (va vb : Value)
    (hp : tmps.getD p undef = .pointer (some a)) (hq : tmps.getD q undef = .pointer (some b)) (ha : (loadVar ty a).run P w = .ok va w) (hb : (loadVar tz b).run P w = .ok vb w) : (results fn tmps).run P w = .ok (.tuple #[va, vb, tmps.getD u undef]) w := by
  have hp' : tmps[p]?.getD undef = .pointer (some a) := by simpa using hp
  have hq' : tmps[q]?.getD undef = .pointer (some b) := by simpa using hq
  simp [results, h, hp', hq', asAddr, ha, hb, Result.andThen]
theorem ne_cell {w : World} {a b i : Nat} {u v : Value} (h1 : w.cell? ⟨a, i, none⟩ = some u) (h2 : w.cell? ⟨b, i, none⟩ = some v) (hne : u ≠ v) : a ≠ b := by
  rintro rfl
  rw [h1] at h2
  exact hne (Option.some.inj h2)
structure RqS (w wr : World) (L : LyA) (P : PlA) (X Y : Nat) : Prop where
  b : Below w.heap.size w wr
  l : Blk wr w.heap.size 26 ly0
  p : Blk wr (w.heap.size + 1) 35 pl0
  x : Blk wr X 26 L.cs
  y : Blk wr Y 35 P.cells
  lm : LayM wr L
  pm : PlM wr P
  g : w.heap.size + 1 < X ∧ X < Y
theorem rq_ne {w w4 : World} {L : LyA} {P : PlA} {X Y : Nat} (HS : Hid (RqS w w4 L P X Y)) : ((L.st ≠ w.heap.size ∧ L.st ≠ w.heap.size + 1) ∧ (L.se ≠ w.heap.size ∧ L.se ≠ w.heap.size + 1) ∧ (L.li ≠ w.heap.size ∧ L.li ≠ w.heap.size + 1)) ∧ (P.sk ≠ w.heap.size ∧ P.sk ≠ w.heap.size + 1) ∧ (P.ro ≠ w.heap.size ∧ P.ro ≠ w.heap.size + 1) ∧ (P.sp ≠ w.heap.size ∧ P.sp ≠ w.heap.size + 1) ∧ (P.li ≠ w.heap.size ∧ P.li ≠ w.heap.size + 1) ∧ (P.ri ≠ w.heap.size ∧ P.ri ≠ w.heap.size + 1) ∧ (P.de ≠ w.heap.size ∧ P.de ≠ w.heap.size + 1) := by
  have l0 := HS.out.l.cell 0
  have p0 := HS.out.p.cell 0
  have p1 := HS.out.p.cell 1
  simp at l0 p0 p1
  have na_st : L.st ≠ w.heap.size := ne_cell (HS.out.lm.st.c 0 _ rfl) l0 (by simp)
  have nb_st : L.st ≠ w.heap.size + 1 := ne_cell (HS.out.lm.st.c 0 _ rfl) p0 (by simp)
  have na_se : L.se ≠ w.heap.size := ne_cell (HS.out.lm.se.c 0 _ rfl) l0 (by simp)
  have nb_se : L.se ≠ w.heap.size + 1 := ne_cell (HS.out.lm.se.c 0 _ rfl) p0 (by simp)
  have na_li : L.li ≠ w.heap.size := ne_cell (HS.out.lm.li.c 0 _ rfl) l0 (by simp)
  have nb_li : L.li ≠ w.heap.size + 1 := ne_cell (HS.out.lm.li.c 1 _ rfl) p1 (by simp)
  have ma_sk : P.sk ≠ w.heap.size := ne_cell (HS.out.pm.sk.c 0 _ rfl) l0 (by simp)
  have mb_sk : P.sk ≠ w.heap.size + 1 := ne_cell (HS.out.pm.sk.c 0 _ rfl) p0 (by simp)
  have ma_ro : P.ro ≠ w.heap.size := ne_cell (HS.out.pm.ro.c 0 _ rfl) l0 (by simp)
  have mb_ro : P.ro ≠ w.heap.size + 1 := ne_cell (HS.out.pm.ro.c 0 _ rfl) p0 (by simp)
  have ma_sp : P.sp ≠ w.heap.size := ne_cell (HS.out.pm.sp.c 0 _ rfl) l0 (by simp)
  have mb_sp : P.sp ≠ w.heap.size + 1 := ne_cell (HS.out.pm.sp.c 1 _ rfl) p1 (by simp)
  have ma_li : P.li ≠ w.heap.size := ne_cell (HS.out.pm.li.c 0 _ rfl) l0 (by simp)
  have mb_li : P.li ≠ w.heap.size + 1 := ne_cell (HS.out.pm.li.c 0 _ rfl) p0 (by simp)
  have ma_ri : P.ri ≠ w.heap.size := ne_cell (HS.out.pm.ri.c 0 _ rfl) l0 (by simp)
  have mb_ri : P.ri ≠ w.heap.size + 1 := ne_cell (HS.out.pm.ri.c 1 _ rfl) p1 (by simp)
  have ma_de : P.de ≠ w.heap.size := ne_cell (HS.out.pm.de.c 0 _ rfl) l0 (by simp)
  have mb_de : P.de ≠ w.heap.size + 1 := ne_cell (HS.out.pm.de.c 1 _ rfl) p1 (by simp)
  exact ⟨⟨⟨na_st, nb_st⟩, ⟨na_se, nb_se⟩, ⟨na_li, nb_li⟩⟩, ⟨ma_sk, mb_sk⟩, ⟨ma_ro, mb_ro⟩, ⟨ma_sp, mb_sp⟩, ⟨ma_li, mb_li⟩, ⟨ma_ri, mb_ri⟩, ⟨ma_de, mb_de⟩⟩
set_option maxRecDepth 100000 in
set_option maxHeartbeats 12800000 in
theorem read_ok (w : World) (hsw : SideW w) : Calls Tryz.prog 4 #[.string txA, .string txB] w fun e w' => ∃ (L : LyA) (P : PlA), e = .returned (.tuple #[L.v, P.v, .bool true]) ∧ LayM w' L ∧ PlM w' P ∧ Below w.heap.size w w' := by
  have HW := Lib.hid (show ∀ W, Below w.heap.size w W → SideW W from fun W hb => hsw.go hb)
  clear hsw
  go_enter Tryz.func4, Tryz.ntmps4
  go_upto_region 1 with fail
  refine world_gen (fun w0 => Below w.heap.size w w0 ∧ Blk w0 w.heap.size 26 ly0 ∧ Blk w0 (w.heap.size + 1) 35 pl0) ⟨(by repeat (first | exact Below.refl _ _ | (with_reducible refine Below.drew ?_) | (with_reducible refine below_drewN ?_ _) | (with_reducible refine Below.alloc ?_ (by first | omega | (simp; done) | (simp; omega)) _) | (with_reducible refine Below.setCell ?_ (by first | omega | (simp; done) | (simp; omega)) _) | (refine Below.trans ?_ (Below.mono (by with_reducible assumption) (by first | omega | (simp; done) | (simp; omega)))))), (by repeat (first | (refine Blk.new' _ _ _ _ ?_; first | rfl | (simp <;> omega)) | refine Blk.al ?_ _ | refine Blk.dr ?_ | refine Blk.drN ?_ _ | refine Blk.far ?_ (by first | omega | (simp; omega)))), (by repeat (first | (refine Blk.new' _ _ _ _ ?_; first | rfl | (simp <;> omega)) | refine Blk.al ?_ _ | refine Blk.dr ?_ | refine Blk.drN ?_ _ | refine Blk.far ?_ (by first | omega | (simp; omega))))⟩ ?_
  rintro w0 ⟨hb0, hl0, hp0⟩
  have HB0 := Lib.hid hb0
  have HL0 := Lib.hid hl0
  have HP0 := Lib.hid hp0
  clear hb0 hl0 hp0
  go_wp2_with fail
  refine (lparse_ok _ (HW.out _ HB0.out)).mono ?_
  rintro e w1 ⟨L, rfl, hlm, hb1⟩
  have HM1 := Lib.hid hlm
  have HB1 := Lib.hid (HB0.out.trans (hb1.mono HB0.out.size))
  have HL1 := Lib.hid (HL0.out.same (hb1.block _ HL0.out.lt))
  have HP1 := Lib.hid (HP0.out.same (hb1.block _ HP0.out.lt))
  clear hlm hb1 HB0 HL0 HP0
  go_upto_region 2 with fail
  refine world_gen (fun w2 => Below w.heap.size w w2 ∧ Blk w2 w.heap.size 26 ly0 ∧ Blk w2 (w.heap.size + 1) 35 pl0 ∧ Blk w2 w1.heap.size 26 L.cs ∧ LayM w2 L) ?_ ?_
  · have hb : Below w1.heap.size w1 (w1.alloc (.cells L.cs 26)) := (Below.refl _ _).alloc (Nat.le_refl _) _
    exact ⟨HB1.out.trans (hb.mono HB1.out.size), HL1.out.same (hb.block _ HL1.out.lt), HP1.out.same (hb.block _ HP1.out.lt), Blk.new _ _ _, HM1.out.go hb⟩
  rintro w2 ⟨hb2, hl2, hp2, hx2, hm2⟩
  have HB2 := Lib.hid hb2
  have HL2 := Lib.hid hl2
  have HP2 := Lib.hid hp2
  have HX2 := Lib.hid hx2
  have HM2 := Lib.hid hm2
  have hXg : w.heap.size + 1 < w1.heap.size := HP1.out.lt
  clear hb2 hl2 hp2 hx2 hm2 HB1 HL1 HP1 HM1
  generalize w1.heap.size = X at *
  have x0 := HX2.out.cell 0
  have x1 := HX2.out.cell 1
  have x2 := HX2.out.cell 2
  have x3 := HX2.out.cell 3
  have xl := HX2.out.lt
  simp at x0 x1 x2 x3
  go_wp2_with fail
  refine (pparse_ok L _ HM2.out).mono ?_
  rintro e w3 ⟨P, rfl, hpm, hb3⟩
  have HM3 := Lib.hid (HM2.out.go hb3)
  have HPM := Lib.hid hpm
  have HB3 := Lib.hid (HB2.out.trans (hb3.mono HB2.out.size))
  have HL3 := Lib.hid (HL2.out.same (hb3.block _ HL2.out.lt))
  have HP3 := Lib.hid (HP2.out.same (hb3.block _ HP2.out.lt))
  have HX3 := Lib.hid (HX2.out.same (hb3.block _ HX2.out.lt))
  clear hpm hb3 HB2 HL2 HP2 HX2 HM2 x0 x1 x2 x3 xl
  go_upto_region 3 with fail
  refine world_gen (fun w4 => RqS w w4 L P X w3.heap.size) ?_ ?_
  · have hb : Below w3.heap.size w3 (w3.alloc (.cells P.cells 35)) := (Below.refl _ _).alloc (Nat.le_refl _) _
    exact ⟨HB3.out.trans (hb.mono HB3.out.size), HL3.out.same (hb.block _ HL3.out.lt), HP3.out.same (hb.block _ HP3.out.lt), HX3.out.same (hb.block _ HX3.out.lt), Blk.new _ _ _, HM3.out.go hb, HPM.out.go hb, hXg, HX3.out.lt⟩
  intro w4 hs4
  have HS := Lib.hid hs4
  clear hs4 HB3 HL3 HP3 HX3 HM3 HPM
  generalize w3.heap.size = Y at *
  have x0 := HS.out.x.cell 0
  have x1 := HS.out.x.cell 1
  have x2 := HS.out.x.cell 2
  have x3 := HS.out.x.cell 3
  have y0 := HS.out.y.cell 0
  have y1 := HS.out.y.cell 1
  have y2 := HS.out.y.cell 2
  have y3 := HS.out.y.cell 3
  have y4 := HS.out.y.cell 4
  have y5 := HS.out.y.cell 5
  have y6 := HS.out.y.cell 6
  have y7 := HS.out.y.cell 7
  have l0 := HS.out.l.cell 0
  have l1 := HS.out.l.cell 1
  have l2 := HS.out.l.cell 2
  have l3 := HS.out.l.cell 3
  have p0 := HS.out.p.cell 0
  have p1 := HS.out.p.cell 1
  have p2 := HS.out.p.cell 2
  have p3 := HS.out.p.cell 3
  have p4 := HS.out.p.cell 4
  have p5 := HS.out.p.cell 5
  have p6 := HS.out.p.cell 6
  have p7 := HS.out.p.cell 7
  have fl0 := HS.out.l.frozen 0
  have fl1 := HS.out.l.frozen 1
  have fl2 := HS.out.l.frozen 2
  have fl3 := HS.out.l.frozen 3
  have fp0 := HS.out.p.frozen 0
  have fp1 := HS.out.p.frozen 1
  have fp2 := HS.out.p.frozen 2
  have fp3 := HS.out.p.frozen 3
  have fp4 := HS.out.p.frozen 4
  have fp5 := HS.out.p.frozen 5
  have fp6 := HS.out.p.frozen 6
  have fp7 := HS.out.p.frozen 7
  have xl := HS.out.x.lt
  have yl := HS.out.y.lt
  have ll := HS.out.l.lt
  have pl := HS.out.p.lt
  have hg1 := HS.out.g.1
  have hg2 := HS.out.g.2
  simp at x0 x1 x2 x3 y0 y1 y2 y3 y4 y5 y6 y7 l0 l1 l2 l3 p0 p1 p2 p3 p4 p5 p6 p7
  have n1 : X ≠ w.heap.size := by omega
  have n2 : X ≠ w.heap.size + 1 := by omega
  have n3 : Y ≠ w.heap.size := by omega
  have n4 : Y ≠ w.heap.size + 1 := by omega
  have n5 : w.heap.size ≠ X := by omega
  have n6 : w.heap.size ≠ Y := by omega
  have n7 : w.heap.size + 1 ≠ X := by omega
  have n8 : w.heap.size + 1 ≠ Y := by omega
  clear hg1 hg2
  go_region
  go_wp2_with fail
  have hst := stL_ok w4 w.heap.size L HS.out.l
  have hlt := hst.1
  have hp4 : Blk (stL w4 w.heap.size L) (w.heap.size + 1) 35 pl0 := HS.out.p.same (hlt.block _ HS.out.p.lt (by omega))
  have hsp := stP_ok (stL w4 w.heap.size L) (w.heap.size + 1) P hp4
  have hpt := hsp.1
  have hlf : Blk (stP (stL w4 w.heap.size L) (w.heap.size + 1) P) w.heap.size 26 L.cs := hst.2.same (hpt.block _ hst.2.lt (by omega))
  have hbs := HS.out.b.size
  have hbf : Below w.heap.size w (stP (stL w4 w.heap.size L) (w.heap.size + 1) P) := hpt.below (hlt.below HS.out.b (Nat.le_refl _) hbs) (by omega) (Nat.le_trans hbs hlt.size)
  obtain ⟨⟨⟨na_st, nb_st⟩, ⟨na_se, nb_se⟩, ⟨na_li, nb_li⟩⟩, ⟨ma_sk, mb_sk⟩, ⟨ma_ro, mb_ro⟩, ⟨ma_sp, mb_sp⟩, ⟨ma_li, mb_li⟩, ⟨ma_ri, mb_ri⟩, ⟨ma_de, mb_de⟩⟩ := rq_ne HS
  change bodyPost _ _ _ _ _ (World.drew (stP (stL w4 w.heap.size L) (w.heap.size + 1) P))
  have hfin : Blk (World.drew (stP (stL w4 w.heap.size L) (w.heap.size + 1) P)) w.heap.size 26 L.cs ∧ Blk (World.drew (stP (stL w4 w.heap.size L) (w.heap.size + 1) P)) (w.heap.size + 1) 35 P.cells ∧ LayM (World.drew (stP (stL w4 w.heap.size L) (w.heap.size + 1) P)) L ∧ PlM (World.drew (stP (stL w4 w.heap.size L) (w.heap.size + 1) P)) P ∧ Below w.heap.size w (World.drew (stP (stL w4 w.heap.size L) (w.heap.size + 1) P)) := by
    have hdr : Below (stP (stL w4 w.heap.size L) (w.heap.size + 1) P).heap.size (stP (stL w4 w.heap.size L) (w.heap.size + 1) P) (World.drew (stP (stL w4 w.heap.size L) (w.heap.size + 1) P)) := (Below.refl _ _).drew
    have hlm : LayM (stP (stL w4 w.heap.size L) (w.heap.size + 1) P) L := ⟨(HS.out.lm.st.tw hlt na_st).tw hpt nb_st, (HS.out.lm.se.tw hlt na_se).tw hpt nb_se, (HS.out.lm.li.tw hlt na_li).tw hpt nb_li⟩
    have hpm : PlM (stP (stL w4 w.heap.size L) (w.heap.size + 1) P) P := ⟨(HS.out.pm.sk.tw hlt ma_sk).tw hpt mb_sk, (HS.out.pm.ro.tw hlt ma_ro).tw hpt mb_ro, (HS.out.pm.sp.tw hlt ma_sp).tw hpt mb_sp, (HS.out.pm.li.tw hlt ma_li).tw hpt mb_li, (HS.out.pm.ri.tw hlt ma_ri).tw hpt mb_ri, (HS.out.pm.de.tw hlt ma_de).tw hpt mb_de, HS.out.pm.c⟩
    exact ⟨hlf.same (hdr.block _ hlf.lt), hsp.2.same (hdr.block _ hsp.2.lt), hlm.go hdr, hpm.go hdr, hbf.drew⟩
  generalize World.drew (stP (stL w4 w.heap.size L) (w.heap.size + 1) P) = W at hfin ⊢
  obtain ⟨k1, k2, k3, k4, k5⟩ := hfin
  refine bodyPost_ret (results_cct rfl _ _ ⟨w.heap.size, 0, none⟩ ⟨w.heap.size + 1, 0, none⟩ _ _ rfl rfl (run_loadVar_row _ _ _ _ _ (0, 0) _ k1 Tryz.underlying26 rfl (by kernel_rfl)) (run_loadVar_row _ _ _ _ _ (0, 0) _ k2 Tryz.underlying35 rfl (by kernel_rfl))) rfl ?_
  exact ⟨L, P, rfl, k3, k4, k5⟩
end Go.Proofs.YtinjdcefagaaeaaGreatDoor
