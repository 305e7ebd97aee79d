import Derived.Test.YtbmbdenjlbelaaaRf
import Derived.Test.YtbmbdenjlbelaaaBunM
namespace Go.Proofs.Ytbmbdenjlbelaaa
open Go.RowKit
attribute [local go_sem ↓] run_max_keep run_min_keep

/-- the reference's search for the nearest multiple, behind k rounds -/
def gapN (T b lo : Int) : Nat → Int
  | 0 => dst (lo * T) b
  | k + 1 => min (gapN T b lo k) (dst ((lo + k) * T) b)
theorem gapN_le (T b lo : Int) : ∀ (k i : Nat), i < k → gapN T b lo k ≤ dst ((lo + i) * T) b
  | k + 1, i, h => by
    unfold gapN
    rcases Nat.lt_or_ge i k with h1 | h1
    · have := gapN_le T b lo k i h1; omega
    · obtain rfl : i = k := by omega
      omega
theorem gapN_at (T b lo : Int) : ∀ (k : Nat), ∃ i : Nat, (i = 0 ∨ i < k) ∧ gapN T b lo k = dst ((lo + i) * T) b
  | 0 => ⟨0, .inl rfl, by simp [gapN]⟩
  | k + 1 => by
    obtain ⟨i, hi, e⟩ := gapN_at T b lo k
    unfold gapN
    by_cases h : gapN T b lo k ≤ dst ((lo + k) * T) b
    · exact ⟨i, by omega, by rw [Int.min_eq_left h]; exact e⟩
    · exact ⟨k, by omega, by rw [Int.min_eq_right (by omega)]⟩
theorem gapN_all (T b lo hi : Int) (ht : 1 ≤ T) (h : lo ≤ hi) : gapN T b lo (hi - lo + 1).toNat = gapF T b lo hi := by
  obtain ⟨i, hi1, e⟩ := gapN_at T b lo (hi - lo + 1).toNat
  obtain ⟨z, z0, z1, e2⟩ := gapF_at T b lo hi h
  have h1 := gapF_le T b lo hi (lo + i) ht (by omega) (by omega)
  have h2 := gapN_le T b lo (hi - lo + 1).toNat (z - lo).toNat (by omega)
  rw [show lo + ((z - lo).toNat : Int) = z by omega] at h2
  omega
theorem dst_abs (a b : Int) : max (a - b) (-(a - b)) = dst a b := by unfold dst; omega
theorem gapN_bd (T b lo : Int) (k : Nat) : 0 ≤ gapN T b lo k := by
  obtain ⟨i, _, e⟩ := gapN_at T b lo k
  rw [e]; exact dst_nn _ _
theorem gapN_hi (T b lo : Int) (k : Nat) : gapN T b lo k ≤ dst (lo * T) b := by
  induction k with
  | zero => simp [gapN]
  | succ k ih => unfold gapN; omega

set_option maxHeartbeats 400000 in
theorem rabs_any (a : Int) (w : World) (h0 : -4000000000000000000 ≤ a) (h1 : a ≤ 4000000000000000000) : Calls Try.prog 48 #[.int .i64 a] w fun e w' => e = .returned (.int .i64 (max a (-a))) ∧ w = w' := by
  go_enter Try.func48, Try.ntmps48
  go_wp2
  go_ret
  exact ⟨rfl, rfl⟩
def GpR (w : World) (X Y : Nat) (xs ys : Array Value) (T b lo hi : Int) (k : Nat) (v12 v13 : Value) (wr : World) : Prop :=
  ∃ j : Nat, v13 = .int .i64 (lo + j) ∧ j + k = (hi - lo + 1).toNat ∧ v12 = .int .i64 (gapN T b lo j) ∧ CBx w wr X Y xs ys

set_option maxRecDepth 100000 in
set_option maxHeartbeats 3200000 in
theorem rgap_any (T : Int) (AE AA Ar As : Option Addr) (ne ce ca cr cs : Nat) (acts : List Act) (arcs signs : List Int) (w : World) (hN : NCyc w AA Ar As ne acts arcs signs) (hcr : arcs.length ≤ cr) :
    Calls Try.prog 31 #[.agg #[.int .i64 T, .slice AE ne ce, .slice AA acts.length ca], .agg #[.slice Ar arcs.length cr, .slice As signs.length cs]] w (GapOut T ne acts arcs signs w) := by
  have HN := Lib.hid hN
  clear hN
  have HC0 := Lib.hid (show CBx w ((w.alloc (.cells #[.int .i64 T, .slice AE ne ce, .slice AA acts.length ca] 26)).alloc (.cells #[.slice Ar arcs.length cr, .slice As signs.length cs] 45)) w.heap.size (w.heap.size + 1) #[.int .i64 T, .slice AE ne ce, .slice AA acts.length ca] #[.slice Ar arcs.length cr, .slice As signs.length cs] from
    ⟨(Blk.new _ _ _).al _, by have := Blk.new (w.alloc (.cells #[.int .i64 T, .slice AE ne ce, .slice AA acts.length ca] 26)) 45 #[.slice Ar arcs.length cr, .slice As signs.length cs]; simpa using this, (by repeat (first | exact Below.refl _ _ | (with_reducible refine Below.drew ?_) | (with_reducible refine below_drewN ?_ _) | (with_reducible refine Below.alloc ?_ (by first | omega | (simp; done) | (simp; omega)) _) | (with_reducible refine Below.setCell ?_ (by first | omega | (simp; done) | (simp; omega)) _) | (refine Below.trans ?_ (Below.mono (by with_reducible assumption) (by first | omega | (simp; done) | (simp; omega))))))⟩)
  go_enter Try.func31, Try.ntmps31
  go_upto_region 1 with fail
  refine world_gen (fun w' => CBx w w' w.heap.size (w.heap.size + 1) #[.int .i64 T, .slice AE ne ce, .slice AA acts.length ca] #[.slice Ar arcs.length cr, .slice As signs.length cs]) HC0.out ?_
  intro w0 hc0
  have HC := Lib.hid hc0
  clear hc0 HC0
  obtain ⟨X, hX⟩ : ∃ X, X = w.heap.size := ⟨_, rfl⟩
  obtain ⟨Y, hY⟩ : ∃ Y, Y = w.heap.size + 1 := ⟨_, rfl⟩
  rw [← hY, ← hX] at ⊢
  rw [← hY, ← hX] at HC
  have hXY : w.heap.size ≤ X ∧ w.heap.size ≤ Y ∧ X ≠ Y ∧ Y ≤ w.heap.size + 1 ∧ X < Y := by omega
  obtain ⟨hXw, hYw, hne, hYw1, hXltY⟩ := hXY
  clear hX hY
  have x0 := HC.out.x.cell 0
  have x1 := HC.out.x.cell 1
  have x2 := HC.out.x.cell 2
  have y0 := HC.out.y.cell 0
  have y1 := HC.out.y.cell 1
  simp at x0 x1 x2 y0 y1
  go_wp2_with fail
  refine (rwind_any T AE AA Ar As ne ce ca cr cs acts arcs signs _ (HN.out.grow HC.out.bel) hcr).mono ?_
  rintro e w1 ⟨rfl, hb1⟩
  have HC1 := Lib.hid (HC.out.grow hb1)
  clear HC hb1 x0 x1 x2 y0 y1
  have HC := HC1
  clear HC1
  cases hk : okW T ne acts arcs signs
  case false =>
    have HO := Lib.hid hk
    clear hk
    go_wp2_with fail
    go_ret2
    exact ⟨by unfold gapV; rw [HO.out]; rfl, HC.out.bel⟩
  have HO := Lib.hid hk
  have hk1 : cycB T ne acts arcs signs = true ∧ loW T acts arcs signs ≤ hiW T acts arcs signs := by unfold okW at hk; simp at hk; exact hk
  have hk' := cycB_iff.1 hk1.1
  have hlh2 := hk1.2
  have HK := Lib.hid hk'
  have hbd := hk'.bd
  have hlh := hk'.lohi
  have ht0 := hk'.net.t0
  have ht1 := hk'.net.t1
  have HL := Lib.hid (show winL T ne acts arcs signs = loW T acts arcs signs ∧ winH T ne acts arcs signs = hiW T acts arcs signs by unfold winL winH; rw [hk, if_pos rfl, if_pos rfl]; exact ⟨rfl, rfl⟩)
  clear hk hk1 hk'
  rw [HL.out.1, HL.out.2]
  have x0 := HC.out.x.cell 0
  have x1 := HC.out.x.cell 1
  have x2 := HC.out.x.cell 2
  have y0 := HC.out.y.cell 0
  have y1 := HC.out.y.cell 1
  simp at x0 x1 x2 y0 y1
  go_wp2_with fail
  refine (rsums_any T AE AA Ar As ne ce ca cr cs acts arcs signs _ (HN.out.grow HC.out.bel) HK.out.sum).mono ?_
  rintro e w2 ⟨rfl, hb2⟩
  have HC1 := Lib.hid (HC.out.grow hb2)
  clear HC hb2 x0 x1 x2 y0 y1
  have HC := HC1
  clear HC1
  rw [show sumN (bsT acts arcs signs) arcs.length = bsS acts arcs signs from rfl, show sumN (fwT acts arcs signs) arcs.length = fwS acts arcs signs from rfl, show sumN (bwT acts arcs signs) arcs.length = bwS acts arcs signs from rfl]
  have HG := Lib.hid (show gapV T ne acts arcs signs = gapF T (bsS acts arcs signs) (loW T acts arcs signs) (hiW T acts arcs signs) by unfold gapV; rw [HO.out, if_pos rfl])
  generalize bsS acts arcs signs = vb at *
  generalize fwS acts arcs signs = vf at *
  generalize bwS acts arcs signs = vw at *
  generalize loW T acts arcs signs = lo at *
  generalize hiW T acts arcs signs = hi at *
  obtain ⟨hb0, hb1, hf0, hf1, hw0, hw1⟩ := hbd
  obtain ⟨hl0, hl1, hh0, hh1⟩ := hlh
  have hm1 := mul_bd lo T 200000000 (by omega) ht1 (by omega) hl0 hl1
  have hg0 : 0 ≤ dst (lo * T) vb ∧ dst (lo * T) vb ≤ 2000000000000 := by unfold dst; omega
  obtain ⟨hm10, hm11⟩ := hm1
  have x0 := HC.out.x.cell 0
  have x1 := HC.out.x.cell 1
  have x2 := HC.out.x.cell 2
  have y0 := HC.out.y.cell 0
  have y1 := HC.out.y.cell 1
  simp at x0 x1 x2 y0 y1
  go_upto_region 6 with (go_at_call 48; refine (rabs_any _ _ (by omega) (by omega)).mono ?_; rintro e w' ⟨rfl, rfl⟩; rw [dst_abs])
  clear x0 x1 x2 y0 y1 hm10 hm11
  go_wp2_with fail
  go_loopg [12, 13] (hi - lo + 1).toNat (fun k v12 v13 wr => GpR w X Y #[.int .i64 T, .slice AE ne ce, .slice AA acts.length ca] #[.slice Ar arcs.length cr, .slice As signs.length cs] T vb lo hi k v12 v13 wr)
  case atStart => exact ⟨0, by simp, by omega, rfl, HC.out⟩
  case round =>
    obtain ⟨j, rfl, hj, rfl, hcb⟩ := hrel
    clear HC
    have Hj := Lib.hid hj
    have HC := Lib.hid hcb
    clear hj hcb
    have hgn := gapN_bd T vb lo j
    have hgh := gapN_hi T vb lo j
    have hgu : gapN T vb lo j ≤ 2000000000000 := by omega
    clear hgh
    by_cases hlt : lo + (j : Int) ≤ hi
    · have hm2 := mul_bd (lo + j) T 200000000 (by omega) ht1 (by omega) (by omega) (by omega)
      have HS : Hid (gapN T vb lo (j + 1) = min (gapN T vb lo j) (dst ((lo + j) * T) vb)) := rfl
      obtain ⟨hm20, hm21⟩ := hm2
      have hdd : 0 ≤ dst ((lo + j) * T) vb ∧ dst ((lo + j) * T) vb ≤ 2000000000000 := by unfold dst; omega
      generalize gapN T vb lo j = gv at *
      have x0 := HC.out.x.cell 0
      simp at x0
      go_wp2_with (go_at_call 48; refine (rabs_any _ _ (by omega) (by omega)).mono ?_; rintro e w' ⟨rfl, rfl⟩; rw [dst_abs])
      go_roundg ((hi - lo + 1).toNat - j - 1)
      case measure => have := Hj.out; omega
      case rel => exact ⟨j + 1, by first | rfl | go_num | (exact congrArg (Value.int .i64) (by omega)), by omega, by rw [HS.out], HC.out⟩
    · have HE := Lib.hid (show gapN T vb lo j = gapF T vb lo hi by rw [← gapN_all T vb lo hi (by omega) hlh2, show (hi - lo + 1).toNat = j by have := Hj.out; omega])
      go_wp2_with fail
      go_ret2
      exact ⟨by rw [HO.out, HG.out, ← HE.out]; rfl, HC.out.bel⟩

/-- the reference's sum of the left side -/
def lfT (T r : Int) (arcs signs sl : List Int) (i : Nat) : Int := if gi signs i = 1 then (T - r) * gi sl (gi arcs i) else r * gi sl (gi arcs i)
theorem lfT_sum (T r : Int) (arcs signs sl : List Int) (n : Nat) : sumN (lfT T r arcs signs sl) n = (T - r) * sumN (slF arcs signs sl) n + r * sumN (slB arcs signs sl) n := by
  rw [← sumN_mul, ← sumN_mul, ← sumN_add]
  apply sumN_congr
  intro i _
  unfold lfT slF slB
  split <;> simp
theorem lfT_bd {T : Int} {ne : Nat} {acts : List Act} {arcs signs sl : List Int} {r : Int} (hk : CycOk T ne acts arcs signs) (hs : slOk acts sl) (hr0 : 0 ≤ r) (hr1 : r < T) (i : Nat) (hi : i < arcs.length) : 0 ≤ lfT T r arcs signs sl i ∧ lfT T r arcs signs sl i ≤ 51840000 := by
  have ht := hk.net.t1
  have h1 := hs.get _ (hk.arc i hi).a0 (hk.arc i hi).a1
  unfold lfT
  split
  · exact mul_bd2 _ _ 7200 7200 (by omega) (by omega) h1.1 h1.2
  · exact mul_bd2 _ _ 7200 7200 (by omega) (by omega) h1.1 h1.2
theorem lfN_bd {T : Int} {ne : Nat} {acts : List Act} {arcs signs sl : List Int} {r : Int} (hk : CycOk T ne acts arcs signs) (hs : slOk acts sl) (hr0 : 0 ≤ r) (hr1 : r < T) (k : Nat) (hkl : k ≤ arcs.length) : 0 ≤ sumN (lfT T r arcs signs sl) k ∧ sumN (lfT T r arcs signs sl) k ≤ 30000000000 := by
  have := sumN_bd (lfT T r arcs signs sl) 0 51840000 k (fun i hi => lfT_bd hk hs hr0 hr1 i (by omega))
  have := hk.sum.n
  omega
def RL2 (w : World) (arcs signs sl : List Int) (T r : Int) (X Y : Nat) (xs ys : Array Value) (k : Nat) (v10 v : Value) (wr : World) : Prop :=
  ∃ j : Nat, v = .int .i64 j ∧ j + k = arcs.length ∧ v10 = .int .i64 (sumN (lfT T r arcs signs sl) j) ∧ CBx w wr X Y xs ys
set_option maxHeartbeats 400000 in
theorem rin_any (n lo hi : Int) (w : World) : Calls Try.prog 60 #[.int .i64 n, .int .i64 lo, .int .i64 hi] w fun e w' => e = .returned (.bool (inB n lo hi)) ∧ w = w' := by
  by_cases h0 : lo ≤ n
  · go_enter Try.func60, Try.ntmps60
    go_wp2
    all_goals
      go_ret
      refine ⟨ret_bool ?_, rfl⟩
      simp_all [inB]
  · have h0' : decide (lo ≤ n) = false := by simpa using h0
    go_enter Try.func60, Try.ntmps60
    go_wp2
    all_goals
      go_ret
      refine ⟨ret_bool ?_, rfl⟩
      simp_all [inB]
      try omega
end Go.Proofs.Ytbmbdenjlbelaaa
