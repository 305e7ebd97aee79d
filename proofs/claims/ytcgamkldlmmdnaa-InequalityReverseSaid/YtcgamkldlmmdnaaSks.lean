import Derived.Test.YtcgamkldlmmdnaaTms2
namespace Go.Proofs.Ytcgamkldlmmdnaa
open Go.RowKit

theorem cell_bel {w w' : World} (hb : Below w.heap.size w w') {b o : Nat} {u : Value} (h : w.cell? ⟨b, o, none⟩ = some u) : w'.cell? ⟨b, o, none⟩ = some u := (hb.cell (World.block_lt_of_cell? _ _ h)).trans h
/-- the memory of slacks -/
structure SkS (w wr : World) (X : Nat) (xs : Array Value) (v : Value) (zs : List Int) : Prop where
  bel : Below w.heap.size w wr
  x : Blk wr X 26 xs
  own : wr.ownsRow (X + 1) 3 1 v zs.length (zs.map (Value.int .i64))
  hX : w.heap.size ≤ X
section
variable {w wr w1 w2 : World} {X : Nat} {xs : Array Value} {v v' : Value} {zs : List Int} {o : Obj} {s : Int}
theorem SkS.grow (h : SkS w wr X xs v zs) (hb : Below wr.heap.size wr w1) : SkS w w1 X xs v zs :=
  ⟨h.bel.trans (hb.mono h.bel.size), h.x.bel hb, own_grow h.own hb, h.hX⟩
theorem SkS.drew (h : SkS w wr X xs v zs) : SkS w wr.drew X xs v zs := h.grow (Below.refl _ _).drew
theorem SkS.app (h : SkS w wr X xs v zs) (ho : w2.ownsRow (X + 1) 3 1 v' (zs.length + 1) (zs.map (Value.int .i64) ++ [.int .i64 s])) (hg : (wr.alloc o).grownBy w2 v.ownBlock) : SkS w w2 X xs v' (zs ++ [s]) := by
  have hX := h.hX
  have hl := h.x.lt
  refine ⟨below_app (h.bel.alloc h.bel.size _) (World.ownsRow.alloc h.own _) (by omega) (by simp; omega) hg, ?_, by simpa using ho, hX⟩
  exact (h.x.al o).same (hg.block X (by simp; omega) (fun e => by have := (own_block h.own X e.symm).1; omega))
end
def SkL (w : World) (X : Nat) (xs : Array Value) (T : Int) (acts : List Act) (x : List Int) (k : Nat) (v5 v : Value) (wr : World) : Prop :=
  ∃ (j : Nat), v = .int .i64 j ∧ j + k = acts.length ∧ SkS w wr X xs v5 ((slkL T acts x).take j)
def SkOut (T : Int) (acts : List Act) (x : List Int) (w : World) (e : Ending) (w' : World) : Prop :=
  ∃ (A : Option Addr) (c : Nat), e = .returned (.slice A (slkL T acts x).length c) ∧ Rd w' w'.heap.size 1 A (slkL T acts x).length ((slkL T acts x).map (Value.int .i64)) ∧ Below w.heap.size w w'

set_option maxRecDepth 100000 in
set_option maxHeartbeats 6400000 in
theorem slacks_any (T : Int) (AE AA At : Option Addr) (ne ce ca ct : Nat) (acts : List Act) (x : List Int) (w : World) (hA : Rd w w.heap.size 6 AA acts.length (acts.flatMap Act.cells)) (hN : NetOk T ne acts) (hXr : Rd w w.heap.size 1 At x.length (x.map (Value.int .i64))) (hx : TmOk T ne x) :
    Calls Try.prog 17 #[.agg #[.int .i64 T, .slice AE ne ce, .slice AA acts.length ca], .slice At x.length ct] w (SkOut T acts x w) := by
  have HA := Lib.hid hA
  have HN := Lib.hid hN
  have HXr := Lib.hid hXr
  have HTm := Lib.hid hx
  have hna := hN.n
  have ht0 := hN.t0
  have ht1 := hN.t1
  have Hsl := Lib.hid (show (slkL T acts x).length = acts.length by simp [slkL])
  clear hA hN hXr hx
  obtain ⟨i0, a1, a2, a3, a4⟩ := info_parts infoInt
  have HI := Lib.hid (And.intro a1 (And.intro a2 (And.intro a3 a4)))
  clear a1 a2 a3 a4
  go_enter Try.func17, Try.ntmps17
  go_upto_region 1 with fail
  refine world_gen (fun w1 => Below w.heap.size w w1 ∧ Blk w1 w.heap.size 26 #[.int .i64 T, .slice AE ne ce, .slice AA acts.length ca]) ⟨(Below.refl _ _).alloc (Nat.le_refl _) _, Blk.new _ _ _⟩ ?_
  rintro w0 ⟨hb0, hx0⟩
  obtain ⟨X, hX⟩ : ∃ X, X = w.heap.size := ⟨_, rfl⟩
  rw [← hX] at ⊢
  rw [show Blk w0 w.heap.size = Blk w0 X by rw [hX]] at hx0
  have hXw : w.heap.size ≤ X := by omega
  clear hX
  have HS0 := Lib.hid (show SkS w w0 X #[.int .i64 T, .slice AE ne ce, .slice AA acts.length ca] (.slice none 0 0) [] from ⟨hb0, hx0, World.ownsRow_nil _ _ _ _, hXw⟩)
  have x2 := hx0.cell 2
  simp at x2
  clear hb0 hx0
  go_wp2_with fail
  clear x2
  go_loopg [5, 6, 10] acts.length (fun k v5 _ v wr => SkL w X #[.int .i64 T, .slice AE ne ce, .slice AA acts.length ca] T acts x k v5 v wr)
  case atStart => exact ⟨0, rfl, by omega, HS0.out⟩
  case round =>
    obtain ⟨j, rfl, hj, hsk⟩ := hrel
    clear HS0
    have Hj := Lib.hid hj
    have HS := Lib.hid hsk
    clear hj hsk
    by_cases hlt : j < acts.length
    · have hlt2 : j < (slkL T acts x).length := by rw [Hsl.out]; exact hlt
      have htl : ((slkL T acts x).take j).length = j := by simp; omega
      have HT := Lib.hid (List.take_succ_eq_append_getElem hlt2)
      rw [show (slkL T acts x)[j] = slk1 T x acts[j] by simp [slkL]] at HT
      obtain ⟨ba, oa, rfl, hba, d0, d1, d2, d3, d4, d5⟩ := rdAct (HA.out.grow HS.out.bel) rfl j hlt
      have HAk := Lib.hid (HN.out.a acts[j] (List.getElem_mem hlt))
      have hm0 := HAk.out.m0
      have hm1 := HAk.out.mm
      have hm2 := HAk.out.m1
      have hsb := slk1_bd (x := x) ht0 acts[j]
      generalize acts[j] = aa at *
      obtain ⟨kd, fr, tt, mn, mx, wt⟩ := aa
      simp only at d0 d1 d2 d3 d4 d5 hm0 hm1 hm2
      generalize hsv : slk1 T x ⟨kd, fr, tt, mn, mx, wt⟩ = sv at *
      have Hsv := Lib.hid hsv
      clear hsv
      have x0 := HS.out.x.cell 0
      have x1 := HS.out.x.cell 1
      have x2 := HS.out.x.cell 2
      simp at x0 x1 x2
      generalize hzs : (slkL T acts x).take j = zs at *
      have Hzs := Lib.hid hzs
      have hzl : zs.length ≤ 512 := by omega
      have Htl := Lib.hid htl
      clear hzs htl
      obtain ⟨A5, c5, rfl, hc5, hm5⟩ := own_slice HS.out.own
      have HOb := Lib.hid (own_block HS.out.own)
      have hxl := HS.out.x.lt
      have e1 : IntKind.i64.wrap (mn + sv - mn) = sv := by rw [IntWalk.i64_in _ (by omega)]; omega
      go_upto_region 5 with fail
      go_region_held3 (fun w' => w'.cell? ⟨X, 0, none⟩ = some (.int .i64 T) ∧ w'.cell? ⟨X, 1, none⟩ = some (.slice AE ne ce) ∧ w'.cell? ⟨X, 2, none⟩ = some (.slice (some ⟨ba, oa, none⟩) acts.length ca) ∧ w'.cell? ⟨ba, oa + j * 6, none⟩ = some (.int .i64 kd) ∧ w'.cell? ⟨ba, oa + j * 6 + 1, none⟩ = some (.int .i64 fr) ∧ w'.cell? ⟨ba, oa + j * 6 + 2, none⟩ = some (.int .i64 tt) ∧ w'.cell? ⟨ba, oa + j * 6 + 3, none⟩ = some (.int .i64 mn) ∧ w'.cell? ⟨ba, oa + j * 6 + 4, none⟩ = some (.int .i64 mx) ∧ w'.cell? ⟨ba, oa + j * 6 + 5, none⟩ = some (.int .i64 wt))
        (first | go_keep | (go_split_ands; (repeat (refine And.intro (cell_bel hb5 (by assumption)) ?_)); exact cell_bel hb5 (by assumption)) | (go_split_ands; (repeat (refine And.intro (cell_app hgrow (by assumption) (fun e => by have := (HOb.out _ e).1; omega)) ?_)); exact cell_app hgrow (by assumption) (fun e => by have := (HOb.out _ e).1; omega)))
        (first | (go_at_call 37; refine (lasts_any T AE _ At ne ce _ ca ct x ⟨kd, fr, tt, mn, mx, wt⟩ _ ((HXr.out.grow HS.out.bel.drew).more HS.out.bel.drew.size) HTm.out HAk.out ht0 ht1).mono ?_; rintro e w5 ⟨rfl, hb5⟩; rw [Hsv.out]) | (refine step_append_lies _ (by rfl) _ _ _ (by rfl) (X + 1) 3 i0 _ 1 8 Try.underlying22 HI.out.1 HI.out.2.1 HI.out.2.2.1 HI.out.2.2.2 rfl (by omega) _ zs.length _ (by rfl) (World.ownsRow.alloc (HS.out.drew.grow hb5).own _) ⟨w5.heap.size, 0, none⟩ 1 1 [.int .i64 sv] (by rfl) (by rfl) (World.news_of_block (cs := #[.int .i64 sv]) (t := 3) (fr := (0, 0)) (heap_alloc_new _ _)) (by simp [Value.oneCell']) (by omega) (by simp only [maxLen]; omega) (by omega) (by simp; have := (HS.out.drew.grow hb5).x.lt; omega) (w5.heap.size + 1) (by simp) ?_; intro gg gcap w1 hown1 hgrow hat hgl))
      have HS6 := Lib.hid ((HS.out.drew.grow hb5).app hown1 hgrow)
      clear hown1 hgrow hat hgl hb5 x0 x1 x2 d0 d1 d2 d3 d4 d5 e1 HS
      rw [← HT.out] at HS6
      go_wp2_with fail
      go_roundg (acts.length - j - 1)
      case measure => have := Hj.out; omega
      case rel => exact ⟨j + 1, by first | rfl | go_num, by omega, HS6.out⟩
    · obtain rfl : j = acts.length := by have := Hj.out; omega
      rw [List.take_of_length_le (by rw [Hsl.out]; exact Nat.le_refl _)] at HS
      obtain ⟨A5, c5, rfl, _, _⟩ := own_slice HS.out.own
      have x2 := HS.out.x.cell 2
      simp at x2
      go_wp2_with fail
      go_ret
      exact ⟨A5, c5, rfl, Rd.of_own HS.out.own, HS.out.bel⟩
end Go.Proofs.Ytcgamkldlmmdnaa
