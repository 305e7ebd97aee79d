import Derived.Test.YtinjdcefagaaeaaGreatDoorQBk
set_option linter.unusedVariables false
set_option linter.unusedSimpArgs false
namespace Go.Proofs.YtinjdcefagaaeaaGreatDoor
open Go.RowKit
/-! blocking: the table of occupations -/
theorem infoO : (Tryz.prog.info? 109).map (fun i => (i.zero, i.size, i.bytes)) = some (some (.agg #[.int .i64 0, .int .i64 0, .int .i64 0]), 3, 24) := by kernel_rfl
theorem own_blkN {w : World} {base g n sz : Nat} {e : TypeId} {cs : List Value} (h : Blk w g e cs.toArray) (hn : cs.length = n * sz) (hb : base ≤ g) (hm : n ≤ 1000) : w.ownsRow base e sz (.slice (some ⟨g, 0, none⟩) n n) n cs :=
  ⟨hn, .inr ⟨g, n, cs.toArray, rfl, hb, h, Nat.le_refl _, by simp only [maxLen]; omega, by simpa using hn, by rw [List.take_of_length_le (by simp [hn])]⟩⟩
set_option maxRecDepth 100000 in
set_option maxHeartbeats 1600000 in
theorem newtab_ok (L : LyA) (w : World) : Calls Tryz.prog 33 #[L.v] w fun e w' => ∃ g, e = .returned (.slice (some ⟨g, 0, none⟩) 3 3) ∧ Blk w' g 109 (List.replicate 9 (.int .i64 0)).toArray ∧ w.heap.size ≤ g ∧ Below w.heap.size w w' := by
  obtain ⟨i0, b1, b2, b3, b4⟩ := info_parts infoO
  have HI := Lib.hid (And.intro b1 (And.intro b2 (And.intro b3 b4)))
  clear b1 b2 b3 b4
  go_enter Tryz.func33, Tryz.ntmps33
  go_wp2_with (at_make; refine wpList_make_full _ rfl _ _ 110 rfl (w.heap.size) 109 i0 _ 3 Tryz.underlying110 HI.out.1 HI.out.2.1 HI.out.2.2.1 .i64 .i64 _ _ 3 rfl rfl rfl rfl ?m1 ?m2 ?m3 ?_; rotate_right; intro w3 ho3 hg3)
  case m1 => rw [HI.out.2.2.2]; omega
  case m2 => simp only [maxLen]; omega
  case m3 => simp
  have hmc : (madeCells (Value.agg #[.int .i64 0, .int .i64 0, .int .i64 0]).cells (3 * 3)).toList = List.replicate 9 (.int .i64 0) := by first | rfl | decide | kernel_rfl
  rw [hmc] at ho3
  have hxo := own_full ho3
  have hb3 : Below w.heap.size w w3 := Below.trans ((Below.refl w.heap.size w).alloc (Nat.le_refl _) (.cells L.cs 26)) ((bel_grow hg3).mono (by simp))
  go_ret
  exact ⟨_, rfl, by simpa using hxo, by simp, hb3⟩
/-- only block g may have turned; there may be new ones -/
structure Tw (g : Nat) (w w' : World) : Prop where
  os : w'.os = w.os
  tape : w'.tape = w.tape
  output : w'.output = w.output
  size : w.heap.size ≤ w'.heap.size
  block : ∀ k, k < w.heap.size → k ≠ g → w'.heap[k]? = w.heap[k]?
theorem Tw.of {g : Nat} {w w' : World} (h : Below w.heap.size w w') : Tw g w w' := ⟨h.os, h.tape, h.output, h.size, fun k hk _ => h.block k hk⟩
theorem Tw.set (g i : Nat) (w : World) (v : Value) : Tw g w (w.setCell ⟨g, i, none⟩ v) := ⟨rfl, rfl, rfl, by show _ ≤ (w.heap.modify _ _).size; rw [Array.size_modify]; exact Nat.le_refl _, fun k _ hk => Below.heap_setCell w ⟨g, i, none⟩ v k hk⟩
theorem Tw.tr {a b c : World} {g : Nat} (h : Tw g a b) (k : Tw g b c) : Tw g a c := ⟨k.os.trans h.os, k.tape.trans h.tape, k.output.trans h.output, Nat.le_trans h.size k.size, fun q hq hn => (k.block q (Nat.lt_of_lt_of_le hq h.size) hn).trans (h.block q hq hn)⟩
theorem Tw.below {B g : Nat} {a w w' : World} (h : Below B a w) (t : Tw g w w') (hg : B ≤ g) (hB : B ≤ w.heap.size) : Below B a w' :=
  ⟨t.os.trans h.os, t.tape.trans h.tape, t.output.trans h.output, Nat.le_trans h.size t.size, fun k hk => (t.block k (by omega) (by omega)).trans (h.block k hk)⟩
set_option maxRecDepth 100000 in
set_option maxHeartbeats 3200000 in
theorem tadd_ok (g r : Nat) (cs : Array Value) (f t : Int) (w : World) (h : Blk w g 109 cs) (hs : cs.size = 9) (hr : r < 3) (h1 : cs[r * 3 + 1]? = some (.int .i64 0)) (h2 : cs[r * 3 + 2]? = some (.int .i64 0)) :
    Calls Tryz.prog 34 #[.slice (some ⟨g, 0, none⟩) 3 3, .int .i64 r, .int .i64 f, .int .i64 t] w fun e w' => (∃ v, e = .returned v) ∧ Blk w' g 109 (((cs.setIfInBounds (r * 3) (.int .i64 r)).setIfInBounds (r * 3 + 1) (.int .i64 f)).setIfInBounds (r * 3 + 2) (.int .i64 t)) ∧ Tw g w w' := by
  have H := Lib.hid h
  have hr3 : (r : Int) < 3 := by omega
  have c0 : ∃ u, w.cell? ⟨g, r * 3, none⟩ = some u := by rw [h.cell]; exact ⟨_, Array.getElem?_eq_getElem (by omega)⟩
  obtain ⟨u0, c0⟩ := c0
  have c1 := (h.cell (r * 3 + 1)).trans h1
  have c2 := (h.cell (r * 3 + 2)).trans h2
  have f0 := h.frozen (r * 3)
  have f1 := h.frozen (r * 3 + 1)
  have f2 := h.frozen (r * 3 + 2)
  have gl := h.lt
  have H1 := Lib.hid h1
  have H2 := Lib.hid h2
  clear h h1 h2
  go_enter Tryz.func34, Tryz.ntmps34
  go_wp2_with fail
  refine wp_region_overL (by kernel_rfl) (by kernel_rfl) ?_
  repeat (go_big_quiet_step (fail))
  refine wpQuiet_nil ?_
  intro w2 hb2
  have HB2 := Lib.hid hb2
  have HX2 := Lib.hid (H.out.same (hb2.block _ gl))
  clear c1 c2 hb2 H c0 f0 f1 f2
  have c0 : ∃ u, w2.cell? ⟨g, r * 3, none⟩ = some u := by rw [HX2.out.cell]; exact ⟨_, Array.getElem?_eq_getElem (by omega)⟩
  obtain ⟨u1, c0⟩ := c0
  have c1 := (HX2.out.cell (r * 3 + 1)).trans H1.out
  have c2 := (HX2.out.cell (r * 3 + 2)).trans H2.out
  have f0 := HX2.out.frozen (r * 3)
  have f1 := HX2.out.frozen (r * 3 + 1)
  have f2 := HX2.out.frozen (r * 3 + 2)
  go_wp2_with fail
  go_end0
  exact ⟨⟨_, rfl⟩, ((HX2.out.set_ _ _).set_ _ _).set_ _ _, (Tw.of HB2.out).tr (((Tw.set g _ w2 _).tr (Tw.set g _ _ _)).tr (Tw.set g _ _ _))⟩
def ocL (f t : Nat → Int) (n : Nat) : List Value := (List.range n).flatMap fun (i : Nat) => [.int .i64 i, .int .i64 (f i), .int .i64 (t i)]
theorem oc_succ (f t : Nat → Int) (n : Nat) : ocL f t (n + 1) = ocL f t n ++ [.int .i64 n, .int .i64 (f n), .int .i64 (t n)] := by
  unfold ocL; rw [List.range_succ, List.flatMap_append]; rfl
theorem oc_get (f t : Nat → Int) (j : Nat) (hj : j < 3) : (ocL f t 3)[j * 3]? = some (.int .i64 j) ∧ (ocL f t 3)[j * 3 + 1]? = some (.int .i64 (f j)) ∧ (ocL f t 3)[j * 3 + 2]? = some (.int .i64 (t j)) := by
  match j, hj with
  | 0, _ => exact ⟨rfl, rfl, rfl⟩
  | 1, _ => exact ⟨rfl, rfl, rfl⟩
  | 2, _ => exact ⟨rfl, rfl, rfl⟩
def OlL (w : World) (f t : Nat → Int) (k : Nat) (v3 v : Value) (wr : World) : Prop := ∃ j : Nat, v = .int .i64 j ∧ j + k = 3 ∧ Below w.heap.size w wr ∧ wr.ownsRow w.heap.size 109 3 v3 j (ocL f t j)
set_option maxRecDepth 100000 in
set_option maxHeartbeats 3200000 in
theorem olist_ok (g : Nat) (f t : Nat → Int) (w : World) (h : Cs w g (ocL f t 3)) (hft : ∀ i, i < 3 → f i < t i) :
    Calls Tryz.prog 36 #[.slice (some ⟨g, 0, none⟩) 3 3] w fun e w' => ∃ v, e = .returned v ∧ w'.ownsRow w.heap.size 109 3 v 3 (ocL f t 3) ∧ Below w.heap.size w w' := by
  have H := Lib.hid h
  have HF := Lib.hid hft
  clear h hft
  obtain ⟨i0, b1, b2, b3, b4⟩ := info_parts infoO
  have HI := Lib.hid (And.intro b1 (And.intro b2 (And.intro b3 b4)))
  clear b1 b2 b3 b4
  go_enter Tryz.func36, Tryz.ntmps36
  go_wp2_with fail
  go_loopg [3, 8] 3 (fun k v3 v wr => OlL w f t k v3 v wr)
  case atStart => exact ⟨0, rfl, rfl, Below.refl _ _, World.ownsRow_nil _ _ _ _⟩
  case round =>
    obtain ⟨j, rfl, hj, hb, ho⟩ := hrel
    have HB := Lib.hid hb
    have HO := Lib.hid ho
    have Hj := Lib.hid hj
    clear hb ho hj
    by_cases hlt : j < 3
    · have hgc := H.out.go HB.out
      obtain ⟨g0, g1, g2⟩ := oc_get f t j hlt
      have d0 := hgc.c _ _ g0
      have d1 := hgc.c _ _ g1
      have d2 := hgc.c _ _ g2
      have dl := hgc.lt
      have hlt2 := HF.out j hlt
      have hsz := HB.out.size
      clear hgc g0 g1 g2
      obtain ⟨A3, c3, rfl, _, _⟩ := own_slice HO.out
      go_upto_region 6 with fail
      refine world_gen (fun w1 => Below w.heap.size w w1 ∧ w1.ownsRow w.heap.size 109 3 (.slice A3 j c3) j (ocL f t j) ∧ Blk w1 wr.heap.size 109 #[.int .i64 j, .int .i64 (f j), .int .i64 (t j)]) ⟨(by have hbelh := HB.out; have hbels := hbelh.size; exact (by repeat (first | exact Below.refl _ _ | (with_reducible refine Below.drew ?_) | (with_reducible refine below_drewN ?_ _) | (with_reducible refine Below.alloc ?_ (by first | omega | (simp; done) | (simp; omega)) _) | (with_reducible refine Below.setCell ?_ (by first | omega | (simp; done) | (simp; omega)) _) | (refine Below.trans ?_ (Below.mono (by with_reducible assumption) (by first | omega | (simp; done) | (simp; omega))))))), HO.out.alloc _, (by repeat (first | (refine Blk.new' _ _ _ _ ?_; first | rfl | (simp <;> omega)) | refine Blk.al ?_ _ | refine Blk.dr ?_ | refine Blk.drN ?_ _ | refine Blk.far ?_ (by first | omega | (simp; omega))))⟩ ?_
      rintro w1 ⟨hb1, ho1, hz1⟩
      have HB1 := Lib.hid hb1
      have HO1 := Lib.hid ho1
      have z0 := hz1.cell 0
      have z1 := hz1.cell 1
      have z2 := hz1.cell 2
      have hs1 := hb1.size
      simp at z0 z1 z2
      clear hb1 ho1 hz1 HB HO d0 d1 d2
      go_upto_region 7 with (at_builtin; refine wpList_append_own_at _ rfl _ _ 38 rfl w.heap.size 109 i0 _ 3 24 Tryz.underlying38 HI.out.1 HI.out.2.1 HI.out.2.2.1 HI.out.2.2.2 rfl (by omega) _ j _ rfl (World.ownsRow.alloc HO1.out _) ⟨w1.heap.size, 0, none⟩ 1 1 [.int .i64 j, .int .i64 (f j), .int .i64 (t j)] rfl rfl ?c0 ?c1 ?c2 ?c3 ?c4 ?_; rotate_right; intro v' w' hown' hg' _ hat')
      case c0 => exact news_new _ _ _
      case c1 => intro u hu; simp only [List.mem_cons, List.not_mem_nil, or_false] at hu; (rcases hu with rfl | rfl | rfl <;> rfl)
      case c2 => simp only [maxLen]; omega
      case c3 => omega
      case c4 => simp; omega
      have HO2 := Lib.hid (show w'.ownsRow w.heap.size 109 3 v' (j + 1) (ocL f t (j + 1)) by rw [oc_succ]; exact hown')
      have HB2 := Lib.hid (show Below w.heap.size w w' from (HB1.out.alloc hs1 (.cells #[.int .i64 j, .int .i64 (f j), .int .i64 (t j)] 109)).grown hg' (by simp; omega) (fun k hk => (own_block HO1.out k hk).1))
      clear hown' hg' hat' HB1 HO1 z0 z1 z2
      go_wp2_with fail
      go_roundg (3 - j - 1)
      case measure => have := Hj.out; omega
      case rel => exact ⟨j + 1, by first | rfl | go_num, by have := Hj.out; omega, HB2.out, HO2.out⟩
    · obtain rfl : j = 3 := by have := Hj.out; omega
      go_wp2_with fail
      go_ret
      exact ⟨_, rfl, HO.out, HB.out⟩
end Go.Proofs.YtinjdcefagaaeaaGreatDoor
namespace Go.Proofs.YtinjdcefagaaeaaGreatDoor
open Go.RowKit
/-! blocking.occupations -/
theorem own_cs {w : World} {base n sz : Nat} {e : TypeId} {v : Value} {xs : List Value} (h : w.ownsRow base e sz v n xs) (hn : 0 < n) : ∃ g c, v = .slice (some ⟨g, 0, none⟩) n c ∧ Cs w g xs ∧ base ≤ g ∧ n ≤ c := by
  rcases h.2 with ⟨h', h0⟩ | ⟨g', cap', cur, h', hb, hg, hnc, hcm, hcs, htake⟩
  · omega
  · subst h'
    exact ⟨g', cap', rfl, ⟨(own_block h g' rfl).2, fun i v hi => (h.cellAt i (by rw [← h.1]; exact (List.getElem?_eq_some_iff.1 hi).1)).trans hi⟩, hb, hnc⟩
theorem Cs.same {w w' : World} {b : Nat} {L : List Value} (h : Cs w b L) (hs : w'.heap[b]? = w.heap[b]?) (hz : w.heap.size ≤ w'.heap.size) : Cs w' b L :=
  ⟨Nat.lt_of_lt_of_le h.lt hz, fun i v hi => (World.cell?_of_block hs).trans (h.c i v hi)⟩
theorem Cs.grow {w w' : World} {b : Nat} {L : List Value} {row : Option Nat} (h : Cs w b L) (hg : w.grownBy w' row) (hne : row ≠ some b) : Cs w' b L := h.same (hg.block _ h.lt (fun e => hne e.symm)) hg.size
theorem Cs.tw {w w' : World} {b g : Nat} {L : List Value} (h : Cs w b L) (ht : Tw g w w') (hne : b ≠ g) : Cs w' b L := h.same (ht.block _ h.lt hne) ht.size
theorem FtS.tw {w wr w' : World} {L : LyA} {sp c g : Nat} (h : FtS w wr L sp c) (ht : Tw g wr w') (hg : w.heap.size + 3 ≤ g) : FtS w w' L sp c :=
  ⟨ht.below h.b (by omega) h.b.size, h.x.same (ht.block _ h.x.lt (by omega)), h.r.same (ht.block _ h.r.lt (by omega)), h.k.same (ht.block _ h.k.lt (by omega))⟩
abbrev enL : List Value := [.int .i64 0, .int .i64 0, .int .i64 20007]
abbrev leL : List Value := [.int .i64 14146, .int .i64 25868, .int .i64 40014]
def ocF (B : Int) : Nat → Int | 0 => -B | _ => -16
def ocT (Af : Int) : Nat → Int | 0 => 19 | 1 => 30 | _ => 41 + Af
abbrev spL (B Af : Int) : List Value := [.int .i64 0, .int .i64 (-B), .int .i64 19, .int .i64 0, .int .i64 (-16), .int .i64 30, .int .i64 0, .int .i64 (-16), .int .i64 (41 + Af)]
structure OcS (w wr : World) (L : LyA) (sp c ge gl : Nat) : Prop where
  s : FtS w wr L sp c
  e : Cs wr ge enL
  l : Cs wr gl leL
theorem OcS.go {w wr w' : World} {L : LyA} {sp c ge gl : Nat} (h : OcS w wr L sp c ge gl) (hb : Below wr.heap.size wr w') : OcS w w' L sp c ge gl := ⟨h.s.go hb, h.e.go hb, h.l.go hb⟩
theorem OcS.grow {w wr w' : World} {L : LyA} {sp c ge gl S : Nat} {row : Option Nat} (h : OcS w wr L sp c ge gl) (hg : wr.grownBy w' row) (hr : ∀ k, row = some k → S ≤ k) (h3 : w.heap.size + 3 ≤ S) (he : ge < S) (hl : gl < S) : OcS w w' L sp c ge gl :=
  ⟨h.s.grow hg (fun k hk => by have := hr k hk; omega), h.e.grow hg (fun e => by have := hr _ e; omega), h.l.grow hg (fun e => by have := hr _ e; omega)⟩
def Oc1 (w : World) (L : LyA) (sp c ge gl S : Nat) (B : Int) (k : Nat) (v18 v : Value) (wr : World) : Prop := OcS w wr L sp c ge gl ∧ S ≤ wr.heap.size ∧
  ((k = 1 ∧ v = .int .i64 1 ∧ wr.ownsRow S 109 3 v18 1 [.int .i64 0, .int .i64 (-B), .int .i64 19]) ∨ (k = 0 ∧ v = .int .i64 2 ∧ wr.ownsRow S 109 3 v18 2 [.int .i64 0, .int .i64 (-B), .int .i64 19, .int .i64 0, .int .i64 (-16), .int .i64 30]))
def tabC (B Af : Int) (j : Nat) : List Value := ocL (ocF B) (ocT Af) j ++ List.replicate (9 - 3 * j) (.int .i64 0)
theorem tab_step (B Af : Int) (j : Nat) (hj : j < 3) : ((((tabC B Af j).toArray.setIfInBounds (j * 3) (.int .i64 j)).setIfInBounds (j * 3 + 1) (.int .i64 (ocF B j))).setIfInBounds (j * 3 + 2) (.int .i64 (ocT Af j))) = (tabC B Af (j + 1)).toArray := by
  match j, hj with
  | 0, _ => rfl
  | 1, _ => rfl
  | 2, _ => rfl
theorem tab_zero (B Af : Int) (j : Nat) (hj : j < 3) : (tabC B Af j).toArray.size = 9 ∧ (tabC B Af j).toArray[j * 3 + 1]? = some (.int .i64 0) ∧ (tabC B Af j).toArray[j * 3 + 2]? = some (.int .i64 0) := by
  match j, hj with
  | 0, _ => exact ⟨rfl, rfl, rfl⟩
  | 1, _ => exact ⟨rfl, rfl, rfl⟩
  | 2, _ => exact ⟨rfl, rfl, rfl⟩
theorem sp_at {w : World} {g : Nat} {B Af : Int} (h : Cs w g (spL B Af)) (j : Nat) (hj : j < 3) : w.cell? ⟨g, j * 3 + 1, none⟩ = some (.int .i64 (ocF B j)) ∧ w.cell? ⟨g, j * 3 + 2, none⟩ = some (.int .i64 (ocT Af j)) := by
  match j, hj with
  | 0, _ => exact ⟨h.c 1 _ rfl, h.c 2 _ rfl⟩
  | 1, _ => exact ⟨h.c 4 _ rfl, h.c 5 _ rfl⟩
  | 2, _ => exact ⟨h.c 7 _ rfl, h.c 8 _ rfl⟩
structure OdS (w wr : World) (L : LyA) (sp c gs gt : Nat) (B Af : Int) (j : Nat) : Prop where
  s : FtS w wr L sp c
  p : Cs wr gs (spL B Af)
  t : Blk wr gt 109 (tabC B Af j).toArray
  n : gs ≠ gt
  g : w.heap.size + 3 ≤ gt
theorem OdS.go {w wr w' : World} {L : LyA} {sp c gs gt j : Nat} {B Af : Int} (h : OdS w wr L sp c gs gt B Af j) (hb : Below wr.heap.size wr w') : OdS w w' L sp c gs gt B Af j := ⟨h.s.go hb, h.p.go hb, h.t.same (hb.block _ h.t.lt), h.n, h.g⟩
def OdL (w : World) (L : LyA) (sp c gs gt cs : Nat) (B Af : Int) (k : Nat) (v18 v : Value) (wr : World) : Prop := ∃ j : Nat, v18 = .slice (some ⟨gs, 0, none⟩) 3 cs ∧ v = .int .i64 j ∧ j + k = 3 ∧ OdS w wr L sp c gs gt B Af j
set_option maxRecDepth 100000 in
set_option maxHeartbeats 12800000 in
theorem occ_ok (L : LyA) (sp c : Nat) (B Af : Int) (w : World) (h : LayM w L) (hr : Cs w sp stpL) (hc : 3 ≤ c) (hB0 : 0 ≤ B) (hB1 : B ≤ 65536) (hA0 : 0 ≤ Af) (hA1 : Af ≤ 65000) :
    Calls Tryz.prog 11 #[L.v, rtV sp c, stkV, .int .i64 B, .int .i64 Af] w fun e w' => ∃ v, e = .returned (.tuple #[v, .int .i64 41, .int .i64 0]) ∧ w'.ownsRow w.heap.size 109 3 v 3 (ocL (ocF B) (ocT Af) 3) ∧ Below w.heap.size w w' := by
  have H := Lib.hid h
  have HR := Lib.hid hr
  clear h hr
  obtain ⟨i0, b1, b2, b3, b4⟩ := info_parts infoO
  have HI := Lib.hid (And.intro b1 (And.intro b2 (And.intro b3 b4)))
  clear b1 b2 b3 b4
  go_enter Tryz.func11, Tryz.ntmps11
  go_upto_region 1 with fail
  refine world_gen (fun w0 => FtS w w0 L sp c) ⟨(by repeat (first | exact Below.refl _ _ | (with_reducible refine Below.drew ?_) | (with_reducible refine below_drewN ?_ _) | (with_reducible refine Below.alloc ?_ (by first | omega | (simp; done) | (simp; omega)) _) | (with_reducible refine Below.setCell ?_ (by first | omega | (simp; done) | (simp; omega)) _) | (refine Below.trans ?_ (Below.mono (by with_reducible assumption) (by first | omega | (simp; done) | (simp; omega)))))), (by repeat (first | (refine Blk.new' _ _ _ _ ?_; first | rfl | (simp <;> omega)) | refine Blk.al ?_ _ | refine Blk.dr ?_ | refine Blk.drN ?_ _ | refine Blk.far ?_ (by first | omega | (simp; omega)))), (by repeat (first | (refine Blk.new' _ _ _ _ ?_; first | rfl | (simp <;> omega)) | refine Blk.al ?_ _ | refine Blk.dr ?_ | refine Blk.drN ?_ _ | refine Blk.far ?_ (by first | omega | (simp; omega)))), (by repeat (first | (refine Blk.new' _ _ _ _ ?_; first | rfl | (simp <;> omega)) | refine Blk.al ?_ _ | refine Blk.dr ?_ | refine Blk.drN ?_ _ | refine Blk.far ?_ (by first | omega | (simp; omega))))⟩ ?_
  rintro w0 hs0
  have HS0 := Lib.hid hs0
  have x0 := hs0.x.cell 0
  have x1 := hs0.x.cell 1
  have x2 := hs0.x.cell 2
  have x3 := hs0.x.cell 3
  have r0 := hs0.r.cell 0
  have r1 := hs0.r.cell 1
  have k0 := hs0.k.cell 0
  have k1 := hs0.k.cell 1
  have k2 := hs0.k.cell 2
  have k3 := hs0.k.cell 3
  have k4 := hs0.k.cell 4
  simp [stkC] at x0 x1 x2 x3 r0 r1 k0 k1 k2 k3 k4
  clear hs0
  go_wp2_with fail
  refine (btimes_ok L sp c _ (H.out.go HS0.out.b) (HR.out.go HS0.out.b) hc).mono ?_
  rintro e w1 ⟨ve, vl, rfl, he1, hl1, hb1⟩
  have hs1 := HS0.out.go hb1
  obtain ⟨ge, ce, rfl, hce, _, _⟩ := own_cs he1 (by decide)
  obtain ⟨gl, cl, rfl, hcl, _, _⟩ := own_cs hl1 (by decide)
  have HS1 := Lib.hid (show OcS w w1 L sp c ge gl from ⟨hs1, hce, hcl⟩)
  clear hb1 HS0 x0 x1 x2 x3 r0 r1 k0 k1 k2 k3 k4 hs1 hce hcl he1 hl1
  have l0 : w1.cell? ⟨gl, 0, none⟩ = some (.int .i64 14146) := HS1.out.l.c 0 _ rfl
  have ll := HS1.out.l.lt
  have el := HS1.out.e.lt
  have sl := HS1.out.s.k.lt
  have hc15 : cdiv 14146 1000 = 15 := by decide
  go_upto_region 6 with (go_at_call 31; refine (up_ok 14146 _ (by omega) (by omega)).mono ?_; rintro e w2 ⟨rfl, rfl⟩; rw [hc15])
  have HO2 := Lib.hid (show (w2.alloc (.cells #[.int .i64 0, .int .i64 (-B), .int .i64 19] 109)).ownsRow w2.heap.size 109 3 (.slice (some ⟨w2.heap.size, 0, none⟩) 1 1) 1 [.int .i64 0, .int .i64 (-B), .int .i64 19] from own_blkN (Blk.new w2 109 #[.int .i64 0, .int .i64 (-B), .int .i64 19]) rfl (Nat.le_refl _) (by omega))
  have HS2 := Lib.hid (HS1.out.go (w' := w2.alloc (.cells #[.int .i64 0, .int .i64 (-B), .int .i64 19] 109)) ((Below.refl _ _).alloc (Nat.le_refl _) _))
  have hsz : w2.heap.size ≤ (w2.alloc (.cells #[.int .i64 0, .int .i64 (-B), .int .i64 19] 109)).heap.size := by simp
  have hs3 := HS1.out.s.k.lt
  have he3 := HS1.out.e.lt
  have hl3 := HS1.out.l.lt
  have h3S : w.heap.size + 3 ≤ w2.heap.size := hs3
  clear HS1 l0 ll el sl hc15 hs3
  generalize w2.alloc (.cells #[.int .i64 0, .int .i64 (-B), .int .i64 19] 109) = w3 at *
  generalize w2.heap.size = S at *
  go_wp2_with fail
  go_loopg [18, 19] 1 (fun k v18 v wr => Oc1 w L sp c ge gl S B k v18 v wr)
  case atStart => exact ⟨HS2.out, hsz, .inl ⟨rfl, rfl, HO2.out⟩⟩
  case round =>
    obtain ⟨hs, hszr, hor⟩ := hrel
    have HS := Lib.hid hs
    clear hs HS2 HO2 hsz
    rcases hor with ⟨rfl, rfl, ho⟩ | ⟨rfl, rfl, ho⟩
    · obtain ⟨A8, c8, rfl, _, _⟩ := own_slice ho
      have HO := Lib.hid ho
      clear ho
      have e0 : wr.cell? ⟨ge, 0, none⟩ = some (.int .i64 0) := HS.out.e.c 0 _ rfl
      have l1 : wr.cell? ⟨gl, 1, none⟩ = some (.int .i64 25868) := HS.out.l.c 1 _ rfl
      have ll := HS.out.l.lt
      have el := HS.out.e.lt
      have hc26 : cdiv 25868 1000 = 26 := by decide
      have hd0 : (0 : Int) / 1000 = 0 := by decide
      have hw00 : IntKind.i64.wrap 0 = 0 := by decide
      have hw10 : IntKind.wrap .i64 ((1 : Int) - 1) = 0 := by decide
      have hz00 : (0 : Int) ≤ 0 := by decide
      have hz03 : (0 : Int) < 3 := by decide
      go_upto_region 9 with fail
      go_region_held3 (fun w' => w'.cell? ⟨ge, 0, none⟩ = some (.int .i64 0) ∧ w'.cell? ⟨gl, 1, none⟩ = some (.int .i64 25868))
        (first | go_keep | exact ⟨e0, l1⟩ | exact ⟨((HS.out.e.go (((Below.refl _ _).alloc (Nat.le_refl _) (.cells #[.int .i64 0, .int .i64 (-16), .int .i64 30] 109)).drew)).grow (show (World.drew (wr.alloc (.cells #[.int .i64 0, .int .i64 (-16), .int .i64 30] 109))).grownBy wa (Value.slice A8 1 c8).ownBlock from hga) (fun e => by have := (own_block HO.out _ e).1; omega)).c 0 _ rfl, ((HS.out.l.go (((Below.refl _ _).alloc (Nat.le_refl _) (.cells #[.int .i64 0, .int .i64 (-16), .int .i64 30] 109)).drew)).grow (show (World.drew (wr.alloc (.cells #[.int .i64 0, .int .i64 (-16), .int .i64 30] 109))).grownBy wa (Value.slice A8 1 c8).ownBlock from hga) (fun e => by have := (own_block HO.out _ e).1; omega)).c 1 _ rfl⟩)
        (first | (go_at_call 32; refine (down_ok 0 _ (by omega) (by omega)).mono ?_; rintro e w6 ⟨rfl, hw6⟩; rw [hw6, hd0]) | (go_at_call 31; refine (up_ok 25868 _ (by omega) (by omega)).mono ?_; rintro e w6 ⟨rfl, hw6⟩; rw [hw6, hc26]) | (refine step_append_any (by rfl) _ _ _ (by rfl) S 109 _ _ 3 24 Tryz.underlying38 HI.out.1 HI.out.2.1 HI.out.2.2.1 HI.out.2.2.2 rfl (by omega) (.slice A8 1 c8) 1 ([.int .i64 0, .int .i64 (-B), .int .i64 19]) rfl (HO.out.alloc _) (some ⟨wr.heap.size, 0, none⟩) 1 1 (wr.heap.size + 1) [.int .i64 0, .int .i64 (-16), .int .i64 30] rfl (fun e => by cases e) (Rd.more (Rd.of_blk (cs := [.int .i64 0, .int .i64 (-16), .int .i64 30]) (n := 1) (sz := 3) (by repeat (first | (refine Blk.new' _ _ _ _ ?_; first | rfl | (simp <;> omega)) | refine Blk.al ?_ _ | refine Blk.dr ?_ | refine Blk.drN ?_ _ | refine Blk.far ?_ (by first | omega | (simp; omega)))) rfl) (by simp)) (by intro u hu; simp only [List.mem_cons, List.not_mem_nil, or_false] at hu; (rcases hu with rfl | rfl | rfl <;> rfl)) (by simp only [maxLen]; omega) (by omega) (by simp; omega) ?_; intro va wa hoa hga hta; obtain ⟨Aa, ca, rfl, _, _⟩ := own_slice hoa))
      have HOS := Lib.hid (OcS.grow (HS.out.go (((Below.refl _ _).alloc (Nat.le_refl _) (.cells #[.int .i64 0, .int .i64 (-16), .int .i64 30] 109)).drew)) (show (World.drew (wr.alloc (.cells #[.int .i64 0, .int .i64 (-16), .int .i64 30] 109))).grownBy wa (Value.slice A8 1 c8).ownBlock from hga) (fun k hk => (own_block HO.out k hk).1) h3S he3 hl3)
      have HO4 := Lib.hid hoa
      have hz4 : S ≤ wa.heap.size := by have := hga.size; simp at this; omega
      clear hoa hga hta HS HO e0 l1 ll el
      go_wp2_with fail
      go_roundg 0
      case measure => omega
      case rel => exact ⟨HOS.out, hz4, .inr ⟨rfl, rfl, HO4.out⟩⟩
    · obtain ⟨A8, c8, rfl, _, _⟩ := own_slice ho
      have HO := Lib.hid ho
      clear ho
      have e1 : wr.cell? ⟨ge, 1, none⟩ = some (.int .i64 0) := HS.out.e.c 1 _ rfl
      have el := HS.out.e.lt
      have hd0 : (0 : Int) / 1000 = 0 := by decide
      go_upto_region 11 with (first | (go_at_call 32; refine (down_ok 0 _ (by omega) (by omega)).mono ?_; rintro e w6 ⟨rfl, hw6⟩; rw [hw6, hd0]) | (at_builtin; refine wpList_append_own_at _ rfl _ _ 38 rfl S 109 i0 _ 3 24 Tryz.underlying38 HI.out.1 HI.out.2.1 HI.out.2.2.1 HI.out.2.2.2 rfl (by omega) _ 2 _ rfl (World.ownsRow.alloc HO.out _) ⟨wr.heap.size, 0, none⟩ 1 1 [.int .i64 0, .int .i64 (-16), .int .i64 (41 + Af)] rfl rfl ?c0 ?c1 ?c2 ?c3 ?c4 ?_; rotate_right; intro v' w' hown' hg' _ hat'))
      case c0 => exact news_new _ _ _
      case c1 => intro u hu; simp only [List.mem_cons, List.not_mem_nil, or_false] at hu; (rcases hu with rfl | rfl | rfl <;> rfl)
      case c2 => simp only [maxLen]; omega
      case c3 => omega
      case c4 => simp; omega
      have HOS := Lib.hid (OcS.grow (HS.out.go (w' := wr.alloc (.cells #[.int .i64 0, .int .i64 (-16), .int .i64 (41 + Af)] 109)) ((Below.refl _ _).alloc (Nat.le_refl _) _)) hg' (fun k hk => (own_block HO.out k hk).1) h3S he3 hl3)
      have HO4 := Lib.hid (show w'.ownsRow S 109 3 v' 3 (spL B Af) from hown')
      obtain ⟨gs, cs, rfl, hcs, hgs, hccs⟩ := own_cs HO4.out (by omega)
      have HCS := Lib.hid hcs
      clear hown' hg' hat' HS HO e1 el hcs
      have e2 : w'.cell? ⟨ge, 2, none⟩ = some (.int .i64 20007) := HOS.out.e.c 2 _ rfl
      have el := HOS.out.e.lt
      have hd20 : (20007 : Int) / 1000 = 20 := by decide
      go_upto_region 12 with (go_at_call 32; refine (down_ok 20007 _ (by omega) (by omega)).mono ?_; rintro e w6 ⟨rfl, hw6⟩; rw [hw6, hd20])
      refine world_gen (fun w7 => FtS w w7 L sp c ∧ Cs w7 gs (spL B Af)) ⟨HOS.out.s.go ((Below.refl _ _).alloc (Nat.le_refl _) _), HCS.out.go ((Below.refl _ _).alloc (Nat.le_refl _) _)⟩ ?_
      rintro w7 ⟨hs7, hp7⟩
      have HS7 := Lib.hid hs7
      have HP7 := Lib.hid hp7
      have x0 := hs7.x.cell 0
      have x1 := hs7.x.cell 1
      have x2 := hs7.x.cell 2
      have x3 := hs7.x.cell 3
      simp at x0 x1 x2 x3
      clear hs7 hp7 HOS HCS e2 el
      go_wp2_with fail
      refine (newtab_ok L _).mono ?_
      rintro e w8 ⟨gt, rfl, hx8, hg8, hb8⟩
      have HD8 := Lib.hid (show OdS w w8 L sp c gs gt B Af 0 from ⟨HS7.out.go hb8, HP7.out.go hb8, hx8, by have := HP7.out.lt; omega, by have := HS7.out.k.lt; omega⟩)
      clear hx8 hg8 hb8 HS7 HP7 x0 x1 x2 x3
      have r0 := HD8.out.s.r.cell 0
      have r1 := HD8.out.s.r.cell 1
      simp at r0 r1
      go_wp2_with fail
      clear r0 r1
      go_loopg [18, 99] 3 (fun k v18 v wr => OdL w L sp c gs gt cs B Af k v18 v wr)
      case atStart => exact ⟨0, rfl, rfl, rfl, HD8.out⟩
      case round =>
        obtain ⟨j, rfl, rfl, hj, hd⟩ := hrel
        have HD := Lib.hid hd
        have Hj := Lib.hid hj
        clear hd hj HD8
        by_cases hlt : j < 3
        · have hrc := HR.out.go HD.out.s.b
          obtain ⟨d0, d1⟩ := stp_at hrc j hlt
          have dl := hrc.lt
          have hj2 : (j : Int) ≤ 2 := by omega
          have hj3 : (j : Int) < 3 := by omega
          clear hrc
          go_upto_region 18 with fail
          refine world_gen (fun w9 => OdS w w9 L sp c gs gt B Af j ∧ Blk w9 wr.heap.size 113 #[.int .i64 j, .int .i64 0]) ⟨HD.out.go ((Below.refl _ _).alloc (Nat.le_refl _) _), (by repeat (first | (refine Blk.new' _ _ _ _ ?_; first | rfl | (simp <;> omega)) | refine Blk.al ?_ _ | refine Blk.dr ?_ | refine Blk.drN ?_ _ | refine Blk.far ?_ (by first | omega | (simp; omega))))⟩ ?_
          rintro w9 ⟨hd9, hz9⟩
          have HD9 := Lib.hid hd9
          have HZ9 := Lib.hid hz9
          have hzt : wr.heap.size ≠ gt := by have := HD.out.t.lt; omega
          obtain ⟨q1, q2⟩ := sp_at hd9.p j hlt
          have ql := hd9.p.lt
          have z0 := hz9.cell 0
          have zl := hz9.lt
          simp at z0
          have hcs3 : (j : Int) < 3 := hj3
          clear hd9 hz9 HD d0 d1
          refine wp_region_overT2 13 (by kernel_rfl) (by kernel_rfl) ?_
          simp only [List.take_succ_cons, List.take_zero, List.drop_succ_cons, List.drop_zero]
          repeat (go_big_quiet_step (fail))
          refine wpQuiet_nil ?_
          intro w10 hb10
          have HD10 := Lib.hid (HD9.out.go hb10)
          have HZ10 := Lib.hid (HZ9.out.same (hb10.block _ HZ9.out.lt))
          clear hb10 HD9 HZ9 q1 q2 z0 ql zl
          obtain ⟨t1, t2, t3⟩ := tab_zero B Af j hlt
          have HT := Lib.hid (And.intro t1 (And.intro t2 t3))
          clear t1 t2 t3
          go_wp2_with fail
          refine (tadd_ok gt j _ _ _ _ HD10.out.t HT.out.1 hlt HT.out.2.1 HT.out.2.2).mono ?_
          rintro e w11 ⟨⟨ev, rfl⟩, hx11, ht11⟩
          rw [tab_step B Af j hlt] at hx11
          have HD11 := Lib.hid (show OdS w w11 L sp c gs gt B Af (j + 1) from ⟨HD10.out.s.tw ht11 HD10.out.g, HD10.out.p.tw ht11 HD10.out.n, hx11, HD10.out.n, HD10.out.g⟩)
          have HZ11 := Lib.hid (HZ10.out.same (ht11.block _ HZ10.out.lt hzt))
          clear hx11 ht11 HD10 HZ10
          by_cases hj0 : j = 0
          · subst hj0
            go_wp2_with fail
            go_roundg 2
            case measure => have := Hj.out; omega
            case rel => exact ⟨1, rfl, by first | rfl | go_num, by have := Hj.out; omega, HD11.out⟩
          · obtain ⟨q, hq⟩ : ∃ q, j = q + 1 := ⟨j - 1, by omega⟩
            have HQ := Lib.hid hq
            have e1 : (j : Int) - 1 = (q : Int) := by omega
            have hj0i : ¬ ((j : Int) = 0) := by omega
            have hj0b : ((j : Int) == 0) = false := by simpa using hj0i
            have hzq : Blk w11 wr.heap.size 113 #[.int .i64 ((q : Int) + 1), .int .i64 0] := by rw [show (q : Int) + 1 = (j : Int) by omega]; exact HZ11.out
            have hq2 : q < 2 := by omega
            have hq0 : (0 : Int) ≤ (q : Int) := by omega
            have hq3 : (q : Int) < 3 := by omega
            have z0 := hzq.cell 0
            have z1 := hzq.cell 1
            have zl := hzq.lt
            have hrc := HR.out.go HD11.out.s.b
            obtain ⟨d0, d1⟩ := stp_at hrc q (by omega)
            have dl := hrc.lt
            have x0 := HD11.out.s.x.cell 0
            have x1 := HD11.out.s.x.cell 1
            have x2 := HD11.out.s.x.cell 2
            have x3 := HD11.out.s.x.cell 3
            have xl := HD11.out.s.x.lt
            have r0 := HD11.out.s.r.cell 0
            have rl := HD11.out.s.r.lt
            simp at z0 z1 x0 x1 x2 x3 r0
            have HLM := Lib.hid (H.out.go HD11.out.s.b)
            clear hzq hrc hq HZ11
            go_upto_region 20 with fail
            refine wp_region_overL (by kernel_rfl) (by kernel_rfl) ?_
            repeat (go_big_quiet_step ((go_at_call 35; exact callsOver (pbet_ok L q _ (HLM.out.go (over_below _ _)) hq2))))
            refine wpQuiet_nil ?_
            intro w12 hb12
            have HD12 := Lib.hid (HD11.out.go hb12)
            clear hb12 HD11 z0 z1 x0 x1 x2 x3 r0 d0 d1 HLM
            go_wp2_with fail
            go_roundg (3 - j - 1)
            case measure => have := Hj.out; omega
            case rel => exact ⟨j + 1, rfl, by first | rfl | go_num, by have := Hj.out; omega, HD12.out⟩
        · obtain rfl : j = 3 := by have := Hj.out; omega
          go_wp2_with fail
          refine (olist_ok gt (ocF B) (ocT Af) _ ⟨HD.out.t.lt, fun i v hi => (HD.out.t.cell i).trans (by
            have h1 := List.getElem?_append_left (l₂ := List.replicate (9 - 3 * 3) (Value.int .i64 0)) (List.getElem?_eq_some_iff.1 hi).1
            simpa [tabC] using hi)⟩ (fun i hi => by
            match i, hi with
            | 0, _ => show -B < 19; omega
            | 1, _ => show (-16 : Int) < 30; omega
            | 2, _ => show -16 < 41 + Af; omega)).mono ?_
          rintro e w9 ⟨v9, rfl, ho9, hb9⟩
          have HO9 := Lib.hid (own_base ho9 HD.out.s.b.size)
          have HB9 := Lib.hid (HD.out.s.go hb9).b
          clear ho9 hb9
          go_wp2_with fail
          go_ret3
          exact ⟨_, rfl, HO9.out, HB9.out⟩
end Go.Proofs.YtinjdcefagaaeaaGreatDoor
namespace Go.Proofs.YtinjdcefagaaeaaGreatDoor
open Go.RowKit
/-! blocking.Stairs, blocking.Held -/
set_option maxRecDepth 100000 in
set_option maxHeartbeats 3200000 in
theorem stairs_ok (L : LyA) (sp c : Nat) (w : World) (h : LayM w L) (hr : Cs w sp stpL) (hc : 3 ≤ c) :
    Calls Tryz.prog 5 #[L.v, rtV sp c, stkV] w fun e w' => ∃ v, e = .returned (.tuple #[v, .int .i64 41, .int .i64 0]) ∧ Below w.heap.size w w' := by
  have H := Lib.hid h
  have HR := Lib.hid hr
  clear h hr
  go_enter Tryz.func5, Tryz.ntmps5
  go_upto_region 1 with fail
  refine world_gen (fun w0 => FtS w w0 L sp c) ⟨(by repeat (first | exact Below.refl _ _ | (with_reducible refine Below.drew ?_) | (with_reducible refine below_drewN ?_ _) | (with_reducible refine Below.alloc ?_ (by first | omega | (simp; done) | (simp; omega)) _) | (with_reducible refine Below.setCell ?_ (by first | omega | (simp; done) | (simp; omega)) _) | (refine Below.trans ?_ (Below.mono (by with_reducible assumption) (by first | omega | (simp; done) | (simp; omega)))))), (by repeat (first | (refine Blk.new' _ _ _ _ ?_; first | rfl | (simp <;> omega)) | refine Blk.al ?_ _ | refine Blk.dr ?_ | refine Blk.drN ?_ _ | refine Blk.far ?_ (by first | omega | (simp; omega)))), (by repeat (first | (refine Blk.new' _ _ _ _ ?_; first | rfl | (simp <;> omega)) | refine Blk.al ?_ _ | refine Blk.dr ?_ | refine Blk.drN ?_ _ | refine Blk.far ?_ (by first | omega | (simp; omega)))), (by repeat (first | (refine Blk.new' _ _ _ _ ?_; first | rfl | (simp <;> omega)) | refine Blk.al ?_ _ | refine Blk.dr ?_ | refine Blk.drN ?_ _ | refine Blk.far ?_ (by first | omega | (simp; omega))))⟩ ?_
  rintro w0 hs0
  have HS0 := Lib.hid hs0
  have x0 := hs0.x.cell 0
  have x1 := hs0.x.cell 1
  have x2 := hs0.x.cell 2
  have x3 := hs0.x.cell 3
  have r0 := hs0.r.cell 0
  have r1 := hs0.r.cell 1
  have k0 := hs0.k.cell 0
  have k1 := hs0.k.cell 1
  have k2 := hs0.k.cell 2
  have k3 := hs0.k.cell 3
  have k4 := hs0.k.cell 4
  simp [stkC] at x0 x1 x2 x3 r0 r1 k0 k1 k2 k3 k4
  clear hs0
  go_wp2_with fail
  refine (occ_ok L sp c 0 0 _ (H.out.go HS0.out.b) (HR.out.go HS0.out.b) hc (by omega) (by omega) (by omega) (by omega)).mono ?_
  rintro e w1 ⟨v, rfl, _, hb1⟩
  have HB1 := Lib.hid (HS0.out.go hb1).b
  clear hb1
  go_wp2_with fail
  go_ret3
  exact ⟨_, rfl, HB1.out⟩
set_option maxRecDepth 100000 in
set_option maxHeartbeats 3200000 in
theorem held_ok (L : LyA) (sp c : Nat) (B Af : Int) (w : World) (h : LayM w L) (hr : Cs w sp stpL) (hc : 3 ≤ c) (hB0 : 0 ≤ B) (hB1 : B ≤ 65536) (hA0 : 0 ≤ Af) (hA1 : Af ≤ 65000) :
    Calls Tryz.prog 99 #[L.v, rtV sp c, stkV, .int .i64 B, .int .i64 Af] w fun e w' => ∃ v, e = .returned (.tuple #[v, .int .i64 41, .int .i64 0]) ∧ w'.ownsRow w.heap.size 109 3 v 3 (ocL (ocF B) (ocT Af) 3) ∧ Below w.heap.size w w' := by
  have H := Lib.hid h
  have HR := Lib.hid hr
  clear h hr
  go_enter Tryz.func99, Tryz.ntmps99
  go_upto_region 1 with fail
  refine world_gen (fun w0 => FtS w w0 L sp c) ⟨(by repeat (first | exact Below.refl _ _ | (with_reducible refine Below.drew ?_) | (with_reducible refine below_drewN ?_ _) | (with_reducible refine Below.alloc ?_ (by first | omega | (simp; done) | (simp; omega)) _) | (with_reducible refine Below.setCell ?_ (by first | omega | (simp; done) | (simp; omega)) _) | (refine Below.trans ?_ (Below.mono (by with_reducible assumption) (by first | omega | (simp; done) | (simp; omega)))))), (by repeat (first | (refine Blk.new' _ _ _ _ ?_; first | rfl | (simp <;> omega)) | refine Blk.al ?_ _ | refine Blk.dr ?_ | refine Blk.drN ?_ _ | refine Blk.far ?_ (by first | omega | (simp; omega)))), (by repeat (first | (refine Blk.new' _ _ _ _ ?_; first | rfl | (simp <;> omega)) | refine Blk.al ?_ _ | refine Blk.dr ?_ | refine Blk.drN ?_ _ | refine Blk.far ?_ (by first | omega | (simp; omega)))), (by repeat (first | (refine Blk.new' _ _ _ _ ?_; first | rfl | (simp <;> omega)) | refine Blk.al ?_ _ | refine Blk.dr ?_ | refine Blk.drN ?_ _ | refine Blk.far ?_ (by first | omega | (simp; omega))))⟩ ?_
  rintro w0 hs0
  have HS0 := Lib.hid hs0
  have x0 := hs0.x.cell 0
  have x1 := hs0.x.cell 1
  have x2 := hs0.x.cell 2
  have x3 := hs0.x.cell 3
  have r0 := hs0.r.cell 0
  have r1 := hs0.r.cell 1
  have k0 := hs0.k.cell 0
  have k1 := hs0.k.cell 1
  have k2 := hs0.k.cell 2
  have k3 := hs0.k.cell 3
  have k4 := hs0.k.cell 4
  simp [stkC] at x0 x1 x2 x3 r0 r1 k0 k1 k2 k3 k4
  clear hs0
  go_wp2_with fail
  refine (fits_ok L sp c _ (H.out.go HS0.out.b) (HR.out.go HS0.out.b) hc).mono ?_
  rintro e w1 ⟨rfl, hb1⟩
  have HS1 := Lib.hid (HS0.out.go hb1)
  clear hb1 HS0 x0 x1 x2 x3 r0 r1 k0 k1 k2 k3 k4
  have x0 := HS1.out.x.cell 0
  have x1 := HS1.out.x.cell 1
  have x2 := HS1.out.x.cell 2
  have x3 := HS1.out.x.cell 3
  have r0 := HS1.out.r.cell 0
  have r1 := HS1.out.r.cell 1
  have k0 := HS1.out.k.cell 0
  have k1 := HS1.out.k.cell 1
  have k2 := HS1.out.k.cell 2
  have k3 := HS1.out.k.cell 3
  have k4 := HS1.out.k.cell 4
  simp [stkC] at x0 x1 x2 x3 r0 r1 k0 k1 k2 k3 k4
  go_wp2_with fail
  refine (occ_ok L sp c B Af _ (H.out.go HS1.out.b) (HR.out.go HS1.out.b) hc hB0 hB1 hA0 hA1).mono ?_
  rintro e w2 ⟨v, rfl, ho2, hb2⟩
  have HB2 := Lib.hid (HS1.out.go hb2).b
  have HO2 := Lib.hid (own_base ho2 HS1.out.b.size)
  clear hb2 ho2
  go_wp2_with fail
  go_ret3
  exact ⟨_, rfl, HO2.out, HB2.out⟩
end Go.Proofs.YtinjdcefagaaeaaGreatDoor
