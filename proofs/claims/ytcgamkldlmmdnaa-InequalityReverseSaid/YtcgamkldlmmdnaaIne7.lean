import Derived.Test.YtcgamkldlmmdnaaIne6
namespace Go.Proofs.Ytcgamkldlmmdnaa
open Go.RowKit
attribute [local go_sem ↓] run_max_keep run_min_keep

set_option maxRecDepth 100000 in
set_option maxHeartbeats 3200000 in
theorem resid_any (T : Int) (AE AA Ar As : Option Addr) (ne ce ca cr cs : Nat) (acts : List Act) (arcs signs : List Int) (w : World) (hN : NCyc w AA Ar As ne acts arcs signs) :
    Calls Try.prog 28 #[.agg #[.int .i64 T, .slice AE ne ce, .slice AA acts.length ca], .agg #[.slice Ar arcs.length cr, .slice As signs.length cs]] w fun e w' => e = .returned (.int .i64 (resV T ne acts arcs signs)) ∧ Below w.heap.size w w' := by
  have HN := Lib.hid hN
  clear hN
  have HC0 := Lib.hid (show CBx w ((w.alloc (.cells #[.int .i64 T, .slice AE ne ce, .slice AA acts.length ca] 26)).alloc (.cells #[.slice Ar arcs.length cr, .slice As signs.length cs] 32)) w.heap.size (w.heap.size + 1) #[.int .i64 T, .slice AE ne ce, .slice AA acts.length ca] #[.slice Ar arcs.length cr, .slice As signs.length cs] from
    ⟨(Blk.new _ _ _).al _, by have := Blk.new (w.alloc (.cells #[.int .i64 T, .slice AE ne ce, .slice AA acts.length ca] 26)) 32 #[.slice Ar arcs.length cr, .slice As signs.length cs]; simpa using this, (by repeat (first | exact Below.refl _ _ | (with_reducible refine Below.drew ?_) | (with_reducible refine below_drewN ?_ _) | (with_reducible refine Below.alloc ?_ (by first | omega | (simp; done) | (simp; omega)) _) | (with_reducible refine Below.setCell ?_ (by first | omega | (simp; done) | (simp; omega)) _) | (refine Below.trans ?_ (Below.mono (by with_reducible assumption) (by first | omega | (simp; done) | (simp; omega))))))⟩)
  go_enter Try.func28, Try.ntmps28
  go_upto_region 1 with fail
  refine world_gen (fun w' => CBx w w' w.heap.size (w.heap.size + 1) #[.int .i64 T, .slice AE ne ce, .slice AA acts.length ca] #[.slice Ar arcs.length cr, .slice As signs.length cs]) HC0.out ?_
  intro w0 hc0
  have HC := Lib.hid hc0
  clear hc0 HC0
  obtain ⟨X, hX⟩ : ∃ X, X = w.heap.size := ⟨_, rfl⟩
  obtain ⟨Y, hY⟩ : ∃ Y, Y = w.heap.size + 1 := ⟨_, rfl⟩
  rw [← hY, ← hX] at ⊢
  rw [← hY, ← hX] at HC
  have hXY : w.heap.size ≤ X ∧ w.heap.size ≤ Y ∧ X ≠ Y ∧ Y ≤ w.heap.size + 1 ∧ X < Y := by omega
  obtain ⟨hXw, hYw, hne, hYw1, hXltY⟩ := hXY
  clear hX hY
  have x0 := HC.out.x.cell 0
  have x1 := HC.out.x.cell 1
  have x2 := HC.out.x.cell 2
  have y0 := HC.out.y.cell 0
  have y1 := HC.out.y.cell 1
  simp at x0 x1 x2 y0 y1
  go_wp2_with fail
  refine ((HN.out.grow HC.out.bel).chk T AE ce ca cr cs).mono ?_
  rintro e w1 ⟨rfl, hb1⟩
  have HC1 := Lib.hid (HC.out.grow hb1)
  clear HC hb1 x0 x1 x2 y0 y1
  have HC := HC1
  clear HC1
  cases hk : cycB T ne acts arcs signs
  case false =>
    have HO := Lib.hid (show resV T ne acts arcs signs = 0 by unfold resV; rw [hk]; rfl)
    go_wp2_with fail
    go_ret
    exact ⟨by rw [HO.out]; rfl, HC.out.bel⟩
  have hk' := cycB_iff.1 hk
  have HK := Lib.hid hk'
  have hbd := hk'.bd
  have ht0 := hk'.net.t0
  have ht1 := hk'.net.t1
  have HO := Lib.hid (show resV T ne acts arcs signs = (-(bsS acts arcs signs)) % T by unfold resV; rw [hk, if_pos rfl])
  clear hk' hk
  have x0 := HC.out.x.cell 0
  have x1 := HC.out.x.cell 1
  have x2 := HC.out.x.cell 2
  have y0 := HC.out.y.cell 0
  have y1 := HC.out.y.cell 1
  simp at x0 x1 x2 y0 y1
  go_wp2_with fail
  refine (sums_any T AE AA Ar As ne ce ca cr cs acts arcs signs _ (HN.out.grow HC.out.bel) HK.out.sum).mono ?_
  rintro e w2 ⟨rfl, hb2⟩
  have HC1 := Lib.hid (HC.out.grow hb2)
  clear HC hb2 x0 x1 x2 y0 y1
  have HC := HC1
  clear HC1
  rw [show sumN (bsT acts arcs signs) arcs.length = bsS acts arcs signs from rfl, show sumN (fwT acts arcs signs) arcs.length = fwS acts arcs signs from rfl, show sumN (bwT acts arcs signs) arcs.length = bwS acts arcs signs from rfl]
  generalize bsS acts arcs signs = vb at *
  generalize fwS acts arcs signs = vf at *
  generalize bwS acts arcs signs = vw at *
  obtain ⟨hb0, hb1, hf0, hf1, hw0, hw1⟩ := hbd
  have x0 := HC.out.x.cell 0
  have x1 := HC.out.x.cell 1
  have x2 := HC.out.x.cell 2
  have y0 := HC.out.y.cell 0
  have y1 := HC.out.y.cell 1
  simp at x0 x1 x2 y0 y1
  go_wp2_with (go_at_call 47; refine (mod_any _ _ _ (by omega) (by omega)).mono ?_; rintro e w' ⟨rfl, rfl⟩)
  go_ret
  exact ⟨by rw [HO.out]; rfl, HC.out.bel⟩

theorem mul_bd2 (x y A B : Int) (hx0 : 0 ≤ x) (hx1 : x ≤ A) (hy0 : 0 ≤ y) (hy1 : y ≤ B) : 0 ≤ x * y ∧ x * y ≤ A * B :=
  ⟨Int.mul_nonneg hx0 hy0, Int.mul_le_mul hx1 hy1 hy0 (by omega)⟩

set_option maxRecDepth 100000 in
set_option maxHeartbeats 3200000 in
theorem right_any (T : Int) (AE AA Ar As : Option Addr) (ne ce ca cr cs : Nat) (acts : List Act) (arcs signs : List Int) (w : World) (hN : NCyc w AA Ar As ne acts arcs signs) :
    Calls Try.prog 19 #[.agg #[.int .i64 T, .slice AE ne ce, .slice AA acts.length ca], .agg #[.slice Ar arcs.length cr, .slice As signs.length cs]] w fun e w' => e = .returned (.int .i64 (rightV T ne acts arcs signs)) ∧ Below w.heap.size w w' := by
  have HN := Lib.hid hN
  clear hN
  have HC0 := Lib.hid (show CBx w ((w.alloc (.cells #[.int .i64 T, .slice AE ne ce, .slice AA acts.length ca] 26)).alloc (.cells #[.slice Ar arcs.length cr, .slice As signs.length cs] 32)) w.heap.size (w.heap.size + 1) #[.int .i64 T, .slice AE ne ce, .slice AA acts.length ca] #[.slice Ar arcs.length cr, .slice As signs.length cs] from
    ⟨(Blk.new _ _ _).al _, by have := Blk.new (w.alloc (.cells #[.int .i64 T, .slice AE ne ce, .slice AA acts.length ca] 26)) 32 #[.slice Ar arcs.length cr, .slice As signs.length cs]; simpa using this, (by repeat (first | exact Below.refl _ _ | (with_reducible refine Below.drew ?_) | (with_reducible refine below_drewN ?_ _) | (with_reducible refine Below.alloc ?_ (by first | omega | (simp; done) | (simp; omega)) _) | (with_reducible refine Below.setCell ?_ (by first | omega | (simp; done) | (simp; omega)) _) | (refine Below.trans ?_ (Below.mono (by with_reducible assumption) (by first | omega | (simp; done) | (simp; omega))))))⟩)
  go_enter Try.func19, Try.ntmps19
  go_upto_region 1 with fail
  refine world_gen (fun w' => CBx w w' w.heap.size (w.heap.size + 1) #[.int .i64 T, .slice AE ne ce, .slice AA acts.length ca] #[.slice Ar arcs.length cr, .slice As signs.length cs]) HC0.out ?_
  intro w0 hc0
  have HC := Lib.hid hc0
  clear hc0 HC0
  obtain ⟨X, hX⟩ : ∃ X, X = w.heap.size := ⟨_, rfl⟩
  obtain ⟨Y, hY⟩ : ∃ Y, Y = w.heap.size + 1 := ⟨_, rfl⟩
  rw [← hY, ← hX] at ⊢
  rw [← hY, ← hX] at HC
  have hXY : w.heap.size ≤ X ∧ w.heap.size ≤ Y ∧ X ≠ Y ∧ Y ≤ w.heap.size + 1 ∧ X < Y := by omega
  obtain ⟨hXw, hYw, hne, hYw1, hXltY⟩ := hXY
  clear hX hY
  have x0 := HC.out.x.cell 0
  have x1 := HC.out.x.cell 1
  have x2 := HC.out.x.cell 2
  have y0 := HC.out.y.cell 0
  have y1 := HC.out.y.cell 1
  simp at x0 x1 x2 y0 y1
  go_wp2_with fail
  refine ((HN.out.grow HC.out.bel).chk T AE ce ca cr cs).mono ?_
  rintro e w1 ⟨rfl, hb1⟩
  have HC1 := Lib.hid (HC.out.grow hb1)
  clear HC hb1 x0 x1 x2 y0 y1
  have HC := HC1
  clear HC1
  cases hk : cycB T ne acts arcs signs
  case false =>
    have HO := Lib.hid (show rightV T ne acts arcs signs = 0 by unfold rightV resV; rw [hk]; simp)
    go_wp2_with fail
    go_ret
    exact ⟨by rw [HO.out]; rfl, HC.out.bel⟩
  have hk' := cycB_iff.1 hk
  have hrb := res_bd hk'
  have ht0 := hk'.net.t0
  have ht1 := hk'.net.t1
  clear hk' hk
  have x0 := HC.out.x.cell 0
  have x1 := HC.out.x.cell 1
  have x2 := HC.out.x.cell 2
  have y0 := HC.out.y.cell 0
  have y1 := HC.out.y.cell 1
  simp at x0 x1 x2 y0 y1
  go_wp2_with fail
  refine (resid_any T AE AA Ar As ne ce ca cr cs acts arcs signs _ (HN.out.grow HC.out.bel)).mono ?_
  rintro e w2 ⟨rfl, hb2⟩
  have HC1 := Lib.hid (HC.out.grow hb2)
  clear HC hb2 x0 x1 x2 y0 y1
  have HC := HC1
  clear HC1
  have HO : Hid (rightV T ne acts arcs signs = resV T ne acts arcs signs * (T - resV T ne acts arcs signs)) := rfl
  generalize resV T ne acts arcs signs = r at *
  obtain ⟨hr0, hr1⟩ := hrb
  have hm := mul_bd2 r (T - r) 7200 7200 hr0 (by omega) (by omega) (by omega)
  obtain ⟨hm0, hm1⟩ := hm
  have x0 := HC.out.x.cell 0
  have x1 := HC.out.x.cell 1
  have x2 := HC.out.x.cell 2
  have y0 := HC.out.y.cell 0
  have y1 := HC.out.y.cell 1
  simp at x0 x1 x2 y0 y1
  go_wp2_with fail
  go_ret
  exact ⟨by rw [HO.out]; rfl, HC.out.bel⟩

def LfOut (T : Int) (ne : Nat) (acts : List Act) (arcs signs sl : List Int) (w : World) (e : Ending) (w' : World) : Prop :=
  e = .returned (.tuple #[.int .i64 (leftV T ne acts arcs signs sl), .int .i64 (leftE T ne acts arcs signs sl)]) ∧ Below w.heap.size w w'
def Lf1 (w : World) (sl : List Int) (X Y : Nat) (xs ys : Array Value) (k : Nat) (v : Value) (wr : World) : Prop :=
  ∃ j : Nat, v = .int .i64 j ∧ j + k = sl.length ∧ (∀ i (h : i < sl.length), i < j → 0 ≤ sl[i] ∧ sl[i] ≤ 7200) ∧ CBx w wr X Y xs ys
def Lf2 (w : World) (arcs signs sl : List Int) (X Y : Nat) (xs ys : Array Value) (k : Nat) (v10 v11 v : Value) (wr : World) : Prop :=
  ∃ j : Nat, v = .int .i64 j ∧ j + k = arcs.length ∧ v10 = .int .i64 (sumN (slF arcs signs sl) j) ∧ v11 = .int .i64 (sumN (slB arcs signs sl) j) ∧ CBx w wr X Y xs ys
section
variable {T : Int} {ne : Nat} {acts : List Act} {arcs signs sl : List Int}
theorem leftE_arg (h : cycB T ne acts arcs signs = false) : leftE T ne acts arcs signs sl = 1 ∧ leftV T ne acts arcs signs sl = 0 := by
  have : leftE T ne acts arcs signs sl = 1 := by unfold leftE; rw [h]; rfl
  exact ⟨this, by unfold leftV; rw [this]; rfl⟩
theorem leftE_rng (h : cycB T ne acts arcs signs = true) (hs : ¬ slOk acts sl) : leftE T ne acts arcs signs sl = 4 ∧ leftV T ne acts arcs signs sl = 0 := by
  have : leftE T ne acts arcs signs sl = 4 := by unfold leftE; rw [if_pos h, if_neg hs]
  exact ⟨this, by unfold leftV; rw [this]; rfl⟩
theorem leftE_ok (h : cycB T ne acts arcs signs = true) (hs : slOk acts sl) : leftE T ne acts arcs signs sl = 0 ∧ leftV T ne acts arcs signs sl = leftR T ne acts arcs signs sl := by
  have : leftE T ne acts arcs signs sl = 0 := by unfold leftE; rw [if_pos h, if_pos hs]
  exact ⟨this, by unfold leftV; rw [this, if_pos rfl]⟩
theorem slOk.get (h : slOk acts sl) (a : Int) (h0 : 0 ≤ a) (h1 : a < acts.length) : 0 ≤ gi sl a ∧ gi sl a ≤ 7200 := by
  obtain ⟨a, rfl⟩ := Int.eq_ofNat_of_zero_le h0
  rw [gi_nat sl a (by rw [h.1]; omega)]
  exact h.2 _ (List.getElem_mem _)
theorem sl_bd (hk : CycOk T ne acts arcs signs) (h : slOk acts sl) (k : Nat) (hkl : k ≤ arcs.length) : 0 ≤ sumN (slF arcs signs sl) k ∧ sumN (slF arcs signs sl) k ≤ 3686400 ∧ 0 ≤ sumN (slB arcs signs sl) k ∧ sumN (slB arcs signs sl) k ≤ 3686400 := by
  have hn := hk.sum.n
  have h1 := sumN_bd (slF arcs signs sl) 0 7200 k (fun i hi => by
    have := h.get _ (hk.arc i (by omega)).a0 (hk.arc i (by omega)).a1
    unfold slF; split <;> omega)
  have h2 := sumN_bd (slB arcs signs sl) 0 7200 k (fun i hi => by
    have := h.get _ (hk.arc i (by omega)).a0 (hk.arc i (by omega)).a1
    unfold slB; split <;> omega)
  omega
end

set_option maxRecDepth 100000 in
set_option maxHeartbeats 3200000 in
theorem left_any (T : Int) (AE AA Ar As Al : Option Addr) (ne ce ca cr cs cl : Nat) (acts : List Act) (arcs signs sl : List Int) (w : World) (hN : NCyc w AA Ar As ne acts arcs signs) (hL : Rd w w.heap.size 1 Al sl.length (sl.map (Value.int .i64))) (hll : sl.length ≤ 4611686018427387904) :
    Calls Try.prog 16 #[.agg #[.int .i64 T, .slice AE ne ce, .slice AA acts.length ca], .agg #[.slice Ar arcs.length cr, .slice As signs.length cs], .slice Al sl.length cl] w (LfOut T ne acts arcs signs sl w) := by
  have HN := Lib.hid hN
  have HSl := Lib.hid hL
  have hlA := hN.hl
  clear hN hL
  have HC0 := Lib.hid (show CBx w ((w.alloc (.cells #[.int .i64 T, .slice AE ne ce, .slice AA acts.length ca] 26)).alloc (.cells #[.slice Ar arcs.length cr, .slice As signs.length cs] 32)) w.heap.size (w.heap.size + 1) #[.int .i64 T, .slice AE ne ce, .slice AA acts.length ca] #[.slice Ar arcs.length cr, .slice As signs.length cs] from
    ⟨(Blk.new _ _ _).al _, by have := Blk.new (w.alloc (.cells #[.int .i64 T, .slice AE ne ce, .slice AA acts.length ca] 26)) 32 #[.slice Ar arcs.length cr, .slice As signs.length cs]; simpa using this, (by repeat (first | exact Below.refl _ _ | (with_reducible refine Below.drew ?_) | (with_reducible refine below_drewN ?_ _) | (with_reducible refine Below.alloc ?_ (by first | omega | (simp; done) | (simp; omega)) _) | (with_reducible refine Below.setCell ?_ (by first | omega | (simp; done) | (simp; omega)) _) | (refine Below.trans ?_ (Below.mono (by with_reducible assumption) (by first | omega | (simp; done) | (simp; omega))))))⟩)
  go_enter Try.func16, Try.ntmps16
  go_upto_region 1 with fail
  refine world_gen (fun w' => CBx w w' w.heap.size (w.heap.size + 1) #[.int .i64 T, .slice AE ne ce, .slice AA acts.length ca] #[.slice Ar arcs.length cr, .slice As signs.length cs]) HC0.out ?_
  intro w0 hc0
  have HC := Lib.hid hc0
  clear hc0 HC0
  obtain ⟨X, hX⟩ : ∃ X, X = w.heap.size := ⟨_, rfl⟩
  obtain ⟨Y, hY⟩ : ∃ Y, Y = w.heap.size + 1 := ⟨_, rfl⟩
  rw [← hY, ← hX] at ⊢
  rw [← hY, ← hX] at HC
  have hXY : w.heap.size ≤ X ∧ w.heap.size ≤ Y ∧ X ≠ Y ∧ Y ≤ w.heap.size + 1 ∧ X < Y := by omega
  obtain ⟨hXw, hYw, hne, hYw1, hXltY⟩ := hXY
  clear hX hY
  have x0 := HC.out.x.cell 0
  have x1 := HC.out.x.cell 1
  have x2 := HC.out.x.cell 2
  have y0 := HC.out.y.cell 0
  have y1 := HC.out.y.cell 1
  simp at x0 x1 x2 y0 y1
  go_wp2_with fail
  refine ((HN.out.grow HC.out.bel).chk T AE ce ca cr cs).mono ?_
  rintro e w1 ⟨rfl, hb1⟩
  have HC1 := Lib.hid (HC.out.grow hb1)
  clear HC hb1 x0 x1 x2 y0 y1
  have HC := HC1
  clear HC1
  cases hk : cycB T ne acts arcs signs
  case false =>
    have HO := Lib.hid (leftE_arg (sl := sl) hk)
    go_wp2_with fail
    go_ret2
    exact ⟨by rw [HO.out.1, HO.out.2]; rfl, HC.out.bel⟩
  have hk' := cycB_iff.1 hk
  have HK := Lib.hid hk'
  have HKB := Lib.hid hk
  have hrb := res_bd hk'
  have ht0 := hk'.net.t0
  have ht1 := hk'.net.t1
  have hn5 := hk'.sum.n
  clear hk' hk
  have x0 := HC.out.x.cell 0
  have x1 := HC.out.x.cell 1
  have x2 := HC.out.x.cell 2
  have y0 := HC.out.y.cell 0
  have y1 := HC.out.y.cell 1
  simp at x0 x1 x2 y0 y1
  by_cases hle : sl.length = acts.length
  case neg =>
    have hle' : ((sl.length : Int) != (acts.length : Int)) = true := by simp; omega
    have HO := Lib.hid (leftE_rng (sl := sl) HKB.out (fun h => hle h.1))
    go_wp2_with fail
    go_ret2
    exact ⟨by rw [HO.out.1, HO.out.2]; rfl, HC.out.bel⟩
  have hle' : ((sl.length : Int) != (acts.length : Int)) = false := by simp [hle]
  have Hle := Lib.hid hle
  clear hle
  go_wp2_with fail
  clear x0 x1 x2 y0 y1 hle'
  go_loopg [9, 27] sl.length (fun k _ v wr => Lf1 w sl X Y #[.int .i64 T, .slice AE ne ce, .slice AA acts.length ca] #[.slice Ar arcs.length cr, .slice As signs.length cs] k v wr)
  case atStart => exact ⟨0, rfl, by omega, fun i h hi => by omega, HC.out⟩
  case round =>
    obtain ⟨j, rfl, hj, hok, hcb⟩ := hrel
    clear HC
    have Hj := Lib.hid hj
    have Hok := Lib.hid hok
    have HC := Lib.hid hcb
    clear hj hok hcb
    by_cases hlt : j < sl.length
    · obtain ⟨bl, ol, rfl, hbl, l0⟩ := rd1 (HSl.out.grow HC.out.bel) j hlt
      have Hno := Lib.hid (show ¬ (0 ≤ sl[j] ∧ sl[j] ≤ 7200) → leftE T ne acts arcs signs sl = 4 ∧ leftV T ne acts arcs signs sl = 0 from fun h => leftE_rng HKB.out (fun hs => h (hs.2 _ (List.getElem_mem hlt))))
      have Hnx := Lib.hid (show (0 ≤ sl[j] ∧ sl[j] ≤ 7200) → ∀ i (h : i < sl.length), i < j + 1 → 0 ≤ sl[i] ∧ sl[i] ≤ 7200 from fun h1 i hi hij => by
        rcases Nat.lt_or_ge i j with h2 | h2
        · exact Hok.out i hi h2
        · obtain rfl : i = j := by omega
          exact h1)
      generalize sl[j] = sv at *
      by_cases g1 : sv < 0
      · have HO := Lib.hid (Hno.out (by omega))
        go_wp2_with fail
        go_ret2
        exact ⟨by rw [HO.out.1, HO.out.2]; rfl, HC.out.bel⟩
      by_cases g2 : 7200 < sv
      · have HO := Lib.hid (Hno.out (by omega))
        go_wp2_with fail
        go_ret2
        exact ⟨by rw [HO.out.1, HO.out.2]; rfl, HC.out.bel⟩
      go_wp2_with fail
      go_roundg (sl.length - j - 1)
      case measure => have := Hj.out; omega
      case rel => exact ⟨j + 1, by first | rfl | go_num, by omega, Hnx.out (by omega), HC.out⟩
    · have HSO := Lib.hid (show slOk acts sl from ⟨Hle.out, fun s hs => by
        obtain ⟨i, hi, rfl⟩ := List.getElem_of_mem hs
        exact Hok.out i hi (by omega)⟩)
      clear Hok Hj
      have y0 := HC.out.y.cell 0
      simp at y0
      go_wp2_with fail
      clear y0 hlt
      go_loopg [10, 11, 12, 13, 41] arcs.length (fun k v10 v11 _ _ v wr => Lf2 w arcs signs sl X Y #[.int .i64 T, .slice AE ne ce, .slice AA acts.length ca] #[.slice Ar arcs.length cr, .slice As signs.length cs] k v10 v11 v wr)
      case atStart => exact ⟨0, rfl, by omega, rfl, rfl, HC.out⟩
      case round =>
        obtain ⟨j, rfl, hj, rfl, rfl, hcb⟩ := hrel
        clear HC
        have Hj := Lib.hid hj
        have HC := Lib.hid hcb
        clear hj hcb
        by_cases hlt : j < arcs.length
        · have hlts : j < signs.length := by have := HK.out.len; omega
          obtain ⟨br, orr, rfl, hbr, r0⟩ := rd1 (HN.out.r.grow HC.out.bel) j hlt
          obtain ⟨bs, os, rfl, hbs, s0⟩ := rd1 (HN.out.s.grow HC.out.bel) j hlts
          rw [← gi_nat arcs j hlt] at r0
          rw [← gi_nat signs j hlts] at s0
          have hac := HK.out.arc j hlt
          have ha0 := hac.a0
          have ha1 := hac.a1
          have hsb := HSO.out.get _ ha0 ha1
          have hbd := sl_bd HK.out HSO.out j (by omega)
          have HF : Hid (sumN (slF arcs signs sl) (j + 1) = sumN (slF arcs signs sl) j + if gi signs j = 1 then gi sl (gi arcs j) else 0) := rfl
          have HB : Hid (sumN (slB arcs signs sl) (j + 1) = sumN (slB arcs signs sl) j + if gi signs j = 1 then 0 else gi sl (gi arcs j)) := rfl
          clear hac
          generalize sumN (slF arcs signs sl) j = vf at *
          generalize sumN (slB arcs signs sl) j = vb at *
          generalize gi arcs j = ar at *
          generalize gi signs j = sg at *
          obtain ⟨a, rfl⟩ := Int.eq_ofNat_of_zero_le ha0
          have hal : a < sl.length := by rw [Hle.out]; omega
          obtain ⟨bl, ol, rfl, hbl, l0⟩ := rd1 (HSl.out.grow HC.out.bel) a hal
          rw [gi_nat sl a hal] at hsb HF HB
          generalize sl[a] = sv at *
          obtain ⟨hs0, hs1⟩ := hsb
          obtain ⟨hf0, hf1, hv0, hv1⟩ := hbd
          have y1 := HC.out.y.cell 1
          simp at y1
          by_cases g1 : sg = 1
          · have g1' : (sg == 1) = true := by simpa using g1
            rw [if_pos g1] at HF HB
            rw [Int.add_zero] at HB
            clear g1
            go_wp2_with fail
            go_roundg (arcs.length - j - 1)
            case measure => have := Hj.out; omega
            case rel => exact ⟨j + 1, by first | rfl | go_num, by omega, by rw [HF.out], by rw [HB.out], HC.out⟩
          · have g1' : (sg == 1) = false := by simpa using g1
            rw [if_neg g1] at HF HB
            rw [Int.add_zero] at HF
            clear g1
            go_wp2_with fail
            go_roundg (arcs.length - j - 1)
            case measure => have := Hj.out; omega
            case rel => exact ⟨j + 1, by first | rfl | go_num, by omega, by rw [HF.out], by rw [HB.out], HC.out⟩
        · obtain rfl : j = arcs.length := by have := Hj.out; omega
          clear Hj
          have hbd := sl_bd HK.out HSO.out arcs.length (Nat.le_refl _)
          have HO := Lib.hid (leftE_ok (arcs := arcs) HKB.out HSO.out)
          have HR : Hid (leftR T ne acts arcs signs sl = (T - resV T ne acts arcs signs) * sumN (slF arcs signs sl) arcs.length + resV T ne acts arcs signs * sumN (slB arcs signs sl) arcs.length) := rfl
          generalize sumN (slF arcs signs sl) arcs.length = vf at *
          generalize sumN (slB arcs signs sl) arcs.length = vb at *
          have x0 := HC.out.x.cell 0
          have x1 := HC.out.x.cell 1
          have x2 := HC.out.x.cell 2
          have y0 := HC.out.y.cell 0
          have y1 := HC.out.y.cell 1
          simp at x0 x1 x2 y0 y1
          go_wp2_with fail
          refine (resid_any T AE AA Ar As ne ce ca cr cs acts arcs signs _ (HN.out.grow HC.out.bel)).mono ?_
          rintro e w2 ⟨rfl, hb2⟩
          have HC1 := Lib.hid (HC.out.grow hb2)
          clear HC hb2 x0 x1 x2 y0 y1
          have HC := HC1
          clear HC1
          generalize resV T ne acts arcs signs = r at *
          obtain ⟨hr0, hr1⟩ := hrb
          obtain ⟨hf0, hf1, hv0, hv1⟩ := hbd
          have hm1 := mul_bd2 (T - r) vf 7200 3686400 (by omega) (by omega) hf0 hf1
          have hm2 := mul_bd2 r vb 7200 3686400 (by omega) (by omega) hv0 hv1
          obtain ⟨hm10, hm11⟩ := hm1
          obtain ⟨hm20, hm21⟩ := hm2
          have x0 := HC.out.x.cell 0
          have x1 := HC.out.x.cell 1
          have x2 := HC.out.x.cell 2
          have y0 := HC.out.y.cell 0
          have y1 := HC.out.y.cell 1
          simp at x0 x1 x2 y0 y1
          go_wp2_with fail
          go_ret2
          exact ⟨by rw [HO.out.1, HO.out.2, HR.out]; rfl, HC.out.bel⟩
end Go.Proofs.Ytcgamkldlmmdnaa
