import Derived.Test.YtffgnfefejimnaaYd2
import Derived.Deep.RegionLaw
namespace Go.Proofs.Ytffgnfefejimnaa
open Go.RowKit
def freeY (T : List Tk) (s : Yst) : List Int := (List.range T.length).map fun t => (trk T t).ln - sumU (rowY s t)
theorem freeY_beg (T : List Tk) : freeY T (begY T) = T.map (·.ln) := by
  apply List.ext_getElem
  · simp [freeY]
  · intro i h1 h2
    simp [freeY] at h1
    simp [freeY, trk, rowY, begY, h1, sumU]
/-- a yard without units -/
def NyOut (AT : Option Addr) (cT : Nat) (T : List Tk) (w : World) (e : Ending) (w' : World) : Prop :=
  ∃ (Y bO bF cF : Nat) (vs : List Value), e = .returned (.pointer (some ⟨Y, 0, none⟩)) ∧ YMem w.heap.size Y bO bF cF AT cT T.length (begY T).on (freeY T (begY T)) 0 vs w' ∧ Below w.heap.size w w'
def NyL (w : World) (Y bO : Nat) (AT : Option Addr) (cT : Nat) (T : List Tk) (k : Nat) (v : Value) (wr : World) : Prop :=
  ∃ (j : Nat) (fA : Option Addr) (fc : Nat), v = .int .i64 j ∧ j + k = T.length ∧
    Blk wr Y 75 #[.slice AT T.length cT, .slice (some ⟨bO, 0, none⟩) T.length T.length, .slice fA j fc, .int .i64 0] ∧
    wr.ownsRow w.heap.size 76 1 (.slice (some ⟨bO, 0, none⟩) T.length T.length) T.length (List.replicate T.length (.slice none 0 0)) ∧
    wr.ownsRow w.heap.size 3 1 (.slice fA j fc) j (((T.map (·.ln)).take j).map (Value.int .i64)) ∧ Below w.heap.size w wr

set_option maxRecDepth 100000 in
set_option maxHeartbeats 3200000 in
theorem newyard_any (AT : Option Addr) (cT : Nat) (T : List Tk) (w : World) (hT : TRd w AT T) (h1 : 1 ≤ T.length) (h8 : T.length ≤ 8) :
    Calls Try.prog 27 #[.slice AT T.length cT] w (NyOut AT cT T w) := by
  have HT := Lib.hid hT
  clear hT
  obtain ⟨i0, a1, a2, a3, a4⟩ := info_parts infoInt
  have HI := Lib.hid (And.intro a1 (And.intro a2 (And.intro a3 a4)))
  clear a1 a2 a3 a4
  obtain ⟨q0, b1, b2, b3, b4⟩ := info_parts infoRow
  go_enter Try.func27, Try.ntmps27
  go_wp2_with (at_make; refine wpList_make_full _ rfl _ _ 73 rfl w.heap.size 76 q0 _ 1 Try.underlying73 b1 b2 b3 .i64 .i64 _ _ T.length rfl rfl rfl rfl ?m1 ?m2 ?m3 ?_; rotate_right; intro w2 hown2 hg2)
  case m1 => rw [b4]; omega
  case m2 => simp only [maxLen]; omega
  case m3 => omega
  rw [show (Value.slice none 0 0).cells = #[(fun v : Value => v) (.slice none 0 0)] from rfl, madeCells_one (fun v : Value => v) (.slice none 0 0)] at hown2
  have HB2 := Lib.hid (show Below w.heap.size w w2 from (Below.refl _ _).grown hg2 (Nat.le_refl _) (fun k hk => by cases hk))
  have hbs := HB2.out.size
  have HO2 := Lib.hid (show w2.ownsRow w.heap.size 76 1 (.slice (some ⟨w.heap.size, 0, none⟩) T.length T.length) T.length (List.replicate T.length (.slice none 0 0)) by simpa using hown2)
  clear hown2 hg2 b1 b2 b3 b4
  go_loopg [14] T.length (fun k v wr => NyL w w2.heap.size w.heap.size AT cT T k v wr)
  case atStart => exact ⟨0, none, 0, rfl, by omega, Blk.new w2 _ _, own_grow HO2.out ((Below.refl _ _).alloc (Nat.le_refl _) _), by simpa using World.ownsRow_nil _ _ _ _, HB2.out.alloc hbs _⟩
  case round =>
    obtain ⟨j, fA, fc, rfl, hj, hy, ho, hf, hb⟩ := hrel
    have Hj := Lib.hid hj
    have HY := Lib.hid hy
    have HO := Lib.hid ho
    have HF := Lib.hid hf
    have HB := Lib.hid hb
    clear hj hy ho hf hb HO2 HB2
    have hyl := HY.out.lt
    by_cases hlt : j < T.length
    · obtain ⟨bb, off, rfl, hbb, d0, d1⟩ := rdTk (HT.out.r.grow HB.out) rfl j hlt
      have hbb' : bb < wr.heap.size := World.block_lt_of_cell? _ _ d0
      have hsz := HB.out.size
      have HNe : Hid (∀ g, (Value.slice fA j fc).ownBlock = some g → w.heap.size ≤ g ∧ g < wr.heap.size ∧ g ≠ w2.heap.size ∧ g ≠ w.heap.size) := fun g e => by
        obtain ⟨c, hc⟩ := own_blk HF.out e
        obtain ⟨c2, hc2⟩ := own_at HO.out
        exact ⟨(own_block HF.out g e).1, (own_block HF.out g e).2, ne_ty hc HY.out (by decide), ne_ty hc hc2 (by decide)⟩
      have HTk := Lib.hid (show ((T.map (·.ln)).take j).map (Value.int .i64) ++ [.int .i64 T[j].ln] = ((T.map (·.ln)).take (j + 1)).map (Value.int .i64) by
        rw [List.take_succ_eq_append_getElem (by simpa using hlt)]; simp)
      generalize T[j] = tj at *
      obtain ⟨ln, th⟩ := tj
      simp only at d0 d1
      have x0 := HY.out.cell 0
      have x1 := HY.out.cell 1
      have x2 := HY.out.cell 2
      have x3 := HY.out.cell 3
      simp at x0 x1 x2 x3
      have f2 := HY.out.frozen 2
      go_upto_region 5 with fail
      go_region_law (first | (refine step_append_lies _ (by rfl) _ _ _ (by rfl) w.heap.size 3 i0 _ 1 8 Try.underlying22 HI.out.1 HI.out.2.1 HI.out.2.2.1 HI.out.2.2.2 rfl (by omega) _ j _ (by rfl) ((World.ownsRow.alloc (HF.out.alloc _) _).drew) ⟨wr.heap.size + 1, 0, none⟩ 1 1 [.int .i64 ln] (by rfl) (by rfl) (World.news_of_block (cs := #[.int .i64 ln]) (t := 3) (fr := (0, 0)) (hnew _ _ _ (by simp))) (by simp [Value.oneCell']) (by omega) (by simp only [maxLen]; omega) (by omega) (by simp; omega) (wr.heap.size + 2) (by simp) ?_; intro gg gcap w1 hown1 hgrow hat hgl; have hbk := (HY.out.bel (by repeat (first | exact Below.refl _ _ | (with_reducible refine Below.drew ?_) | (with_reducible refine below_drewN ?_ _) | (with_reducible refine Below.alloc ?_ (by first | omega | (simp; done) | (simp; omega)) _) | (with_reducible refine Below.setCell ?_ (by first | omega | (simp; done) | (simp; omega)) _) | (refine Below.trans ?_ (Below.mono (by with_reducible assumption) (by first | omega | (simp; done) | (simp; omega))))))).grown hgrow (fun e => by have := HNe.out _ e; omega); have y2 := hbk.cell 2; have g2 := hbk.frozen 2; have hkl := hbk.lt; have y2 : w1.cell? ⟨w2.heap.size, 2, none⟩ = some (.slice fA j fc) := by simpa using y2))
      all_goals
        have HB1 := Lib.hid (below_held (HB.out.alloc hsz _) (HF.out.alloc _) (Nat.le_refl _) (by simp; omega) hgrow)
        have HY1 := Lib.hid (show Blk (w1.setCell ⟨w2.heap.size, 2, none⟩ (.slice (some ⟨gg, 0, none⟩) (j + 1) gcap)) w2.heap.size 75 #[.slice (some ⟨bb, off, none⟩) T.length cT, .slice (some ⟨w.heap.size, 0, none⟩) T.length T.length, .slice (some ⟨gg, 0, none⟩) (j + 1) gcap, .int .i64 0] by simpa using hbk.set_ 2 (.slice (some ⟨gg, 0, none⟩) (j + 1) gcap))
        have HO1 := Lib.hid (own_far (p := ⟨w2.heap.size, 2, none⟩) (u := .slice (some ⟨gg, 0, none⟩) (j + 1) gcap) ((own_grow HO.out (w' := (((wr.alloc (.cells #[.int .i64 ln, .bool th] 43)).alloc (.cells #[.int .i64 ln] 3)).drew)) (by repeat (first | exact Below.refl _ _ | (with_reducible refine Below.drew ?_) | (with_reducible refine below_drewN ?_ _) | (with_reducible refine Below.alloc ?_ (by first | omega | (simp; done) | (simp; omega)) _) | (with_reducible refine Below.setCell ?_ (by first | omega | (simp; done) | (simp; omega)) _) | (refine Below.trans ?_ (Below.mono (by with_reducible assumption) (by first | omega | (simp; done) | (simp; omega))))))).kept hgrow (.inr (fun e => by have := HNe.out w.heap.size (e.symm.trans rfl); omega))) (by obtain ⟨c2, hc2⟩ := own_at HO.out; simpa [Value.ownBlock] using ne_ty hc2 HY.out (by decide)))
        have HF1 := Lib.hid (own_far (p := ⟨w2.heap.size, 2, none⟩) (u := .slice (some ⟨gg, 0, none⟩) (j + 1) gcap) hown1 (by obtain ⟨c2, hc2⟩ := own_at hown1; simpa [Value.ownBlock] using ne_ty hc2 hbk (by decide)))
        have HB3 := Lib.hid (Below.setCell HB1.out (show w.heap.size ≤ (⟨w2.heap.size, 2, none⟩ : Addr).block from hbs) (.slice (some ⟨gg, 0, none⟩) (j + 1) gcap))
        clear HB1 hbk hown1 hgrow hat hgl y2 g2 hkl HY HO HF HB HNe d0 d1 x0 x1 x2 x3 f2
        go_wp2_with fail
        go_roundg (T.length - j - 1)
        case measure => have := Hj.out; omega
        case rel => exact ⟨j + 1, some ⟨gg, 0, none⟩, gcap, by first | rfl | go_num, by omega, HY1.out, HO1.out, by rw [← HTk.out]; exact HF1.out, HB3.out⟩
    · obtain rfl : j = T.length := by have := Hj.out; omega
      go_wp2_with fail
      go_ret
      obtain ⟨bF, rfl⟩ : ∃ bF, fA = some ⟨bF, 0, none⟩ := by
        rcases HF.out.2 with ⟨_, h0⟩ | ⟨g, cap, cur, hv, _⟩
        · omega
        · injection hv with hv; exact ⟨g, hv⟩
      refine ⟨w2.heap.size, w.heap.size, bF, fc, List.replicate T.length (.slice none 0 0), rfl, ⟨HY.out, hbs, HO.out, ?_, by simp [begY], fun t v r hv hr => ?_, fun i j v v' _ hi _ => ?_⟩, HB.out⟩
      · rw [freeY_beg, ← List.take_length (l := T.map (·.ln)), List.length_map]; exact HF.out
      · obtain rfl := (List.mem_replicate.1 (List.mem_of_getElem? hv)).2
        obtain rfl := (List.mem_replicate.1 (List.mem_of_getElem? hr)).2
        exact World.ownsRow_nil _ _ _ _
      · obtain rfl := (List.mem_replicate.1 (List.mem_of_getElem? hi)).2
        exact .inl rfl
end Go.Proofs.Ytffgnfefejimnaa
