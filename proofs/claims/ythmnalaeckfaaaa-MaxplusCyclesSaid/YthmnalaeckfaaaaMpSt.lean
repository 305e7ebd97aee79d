import Derived.Test.YthmnalaeckfaaaaMpWk
import Derived.Test.YthmnalaeckfaaaaMp27
namespace Go.Proofs.Ythmnalaeckfaaaa
/-- the mean is not positive: no closed walk weighs more than 0 -/
theorem mean_le {n : Nat} {a : List (List Int)} {T : Int} (h : (grAll n a n).den ≠ 0 → (meanG (grAll n a n)).1 ≤ T * (meanG (grAll n a n)).2.1) {k i : Nat} (hk : 1 ≤ k) (hkn : k ≤ n) (hi : i < n) (hw : Wk n a k i ≠ -1125899906842624) : Wk n a k i ≤ T * k := by
  have hI := grAll_inv n a n
  have h0 : (grAll n a n).den ≠ 0 := fun e => hw (hI.z e k i ⟨hk, hkn, hi⟩)
  obtain ⟨g, hg, e1, e2, hp, _, _⟩ := meanG_low hI.d h0
  have h1 := h h0
  have h2 := hI.le h0 k i ⟨hk, hkn, hi⟩ hw
  have h3 : (grAll n a n).num ≤ T * (grAll n a n).den := by
    rw [e1, e2, ← Int.mul_assoc]
    exact Int.mul_le_mul_of_nonneg_right h1 (by omega)
  have hd : 0 < (grAll n a n).den := by have := hI.d; omega
  have h4 : Wk n a k i * (grAll n a n).den ≤ (T * k) * (grAll n a n).den := by
    have h5 := Int.mul_le_mul_of_nonneg_right h3 (show (0 : Int) ≤ (k : Int) by omega)
    have e : T * (grAll n a n).den * (k : Int) = (T * k) * (grAll n a n).den := by rw [Int.mul_assoc, Int.mul_comm (grAll n a n).den, ← Int.mul_assoc]
    omega
  exact Int.le_of_mul_le_mul_right h4 hd
def tlE (n : Nat) (a : List (List Int)) (i j : Nat) : Nat → Int
  | 0 => gm (powM n a 1) i j
  | m + 1 => max (tlE n a i j m) (gm (powM n a (m + 2)) i j)
theorem st_tl (n : Nat) (a : List (List Int)) (i j : Nat) : ∀ m, stE n a i j (m + 1) = max (gm (idM n) i j) (tlE n a i j m)
  | 0 => rfl
  | m + 1 => by
    have e1 : stE n a i j (m + 1 + 1) = max (stE n a i j (m + 1)) (gm (powM n a (m + 2)) i j) := rfl
    have e2 : tlE n a i j (m + 1) = max (tlE n a i j m) (gm (powM n a (m + 2)) i j) := rfl
    rw [e1, e2, st_tl n a i j m, Int.max_assoc]
theorem st_ent {n : Nat} {B : Int} (hB : 0 ≤ B) {a : List (List Int)} (hb : Go.Proofs.Ythmnalaeckfaaaa.Bd B a n) {i j : Nat} (hi : i < n) (hj : j < n) : ∀ m : Nat, Ent (B * m) (stE n a i j m) ∧ -1125899906842624 ≤ stE n a i j m ∨ 1125899906842624 < B * m
  | 0 => by
    left
    have h := gm_id hi hj
    unfold stE
    rw [h]
    unfold Ent
    split <;> simp
  | m + 1 => by
    have e : B * ((m + 1 : Nat) : Int) = B * (m : Nat) + B := by rw [Int.natCast_add, Int.mul_add]; simp
    rcases st_ent hB hb hi hj m with ⟨h1, h2⟩ | h1
    · have h3 := pow_bdB hB hb (m + 1) i j hi hj
      by_cases hx : 1125899906842624 < B * ((m + 1 : Nat) : Int)
      · exact .inr hx
      · left
        have hnn : 0 ≤ B * (m : Nat) := Int.mul_nonneg hB (by omega)
        unfold Ent at *
        unfold stE
        omega
    · right; omega
theorem mx_max (f g : Nat → Int) : ∀ n, mx (fun k => max (f k) (g k)) n = max (mx f n) (mx g n)
  | 0 => by simp [mx]
  | n + 1 => by
    unfold mx
    rw [mx_max f g n]
    omega
/-- the powers up to m, multiplied once more -/
theorem st_prod {n : Nat} {B : Int} (hB : 0 ≤ B) {a : List (List Int)} (hb : Go.Proofs.Ythmnalaeckfaaaa.Bd B a n) {i j : Nat} (hi : i < n) (hj : j < n) : ∀ m : Nat, B * ((m + 1 : Nat) : Int) < 1125899906842624 → gm (prodM n (stM n a m) a) i j = tlE n a i j m
  | 0, _ => by
    have e3 : tlE n a i j 0 = mx (fun v => plusF (gm (idM n) i v) (gm a v j)) n := prod_gm hi hj
    rw [e3, prod_gm hi hj]
    refine mx_congr n fun v hv => ?_
    rw [show gm (stM n a 0) i v = gm (idM n) i v from gm_tab hi hv]
  | m + 1, hm => by
    have e : B * ((m + 1 + 1 : Nat) : Int) = B * ((m + 1 : Nat) : Int) + B := by rw [Int.natCast_add, Int.mul_add]; simp
    have e' : B * ((m + 1 : Nat) : Int) = B * (m : Nat) + B := by rw [Int.natCast_add, Int.mul_add]; simp
    have hnn : 0 ≤ B * (m : Nat) := Int.mul_nonneg hB (by omega)
    have ih := st_prod hB hb hi hj m (by omega)
    have e2 : tlE n a i j (m + 1) = max (tlE n a i j m) (gm (powM n a (m + 2)) i j) := rfl
    have e3 : gm (powM n a (m + 2)) i j = mx (fun v => plusF (gm (powM n a (m + 1)) i v) (gm a v j)) n := prod_gm hi hj
    rw [e2, ← ih, e3, prod_gm hi hj, prod_gm hi hj, ← mx_max]
    refine mx_congr n fun v hv => ?_
    have g1 : gm (stM n a (m + 1)) i v = stE n a i v (m + 1) := gm_tab hi hv
    have g2 : gm (stM n a m) i v = stE n a i v m := gm_tab hi hv
    rw [g1, g2]
    show plusF (max (stE n a i v m) (gm (powM n a (m + 1)) i v)) (gm a v j) = _
    rcases st_ent hB hb hi hv m with ⟨h1, _⟩ | h1
    · exact plus_max (A := B * ((m + 1 : Nat) : Int)) (C := B) (by unfold Ent at *; omega) (pow_bdB hB hb (m + 1) i v hi hv) (hb v j hv hj) (by omega) (by omega) hB
    · omega
/-- without positive closed walks the power n adds nothing -/
theorem pow_top {n : Nat} {B : Int} (hB : 0 ≤ B) {a : List (List Int)} (hb : Go.Proofs.Ythmnalaeckfaaaa.Bd B a n) (hs : B * (n : Nat) < 1125899906842624) (hw : ∀ k i, 1 ≤ k → k ≤ n → i < n → Wk n a k i ≠ -1125899906842624 → Wk n a k i ≤ 0) {i j : Nat} (hi : i < n) (hj : j < n) (hne : gm (powM n a n) i j ≠ -1125899906842624) : ∃ k, k < n ∧ gm (powM n a n) i j ≤ gm (powM n a k) i j := by
  obtain ⟨f, f0, fn, hp, hsw⟩ := pow_path hi hj hne
  obtain ⟨p, q, hpq, hq, e⟩ := pigeon n f hp.lt
  have hBk : ∀ k : Nat, k ≤ n → B * (k : Nat) < 1125899906842624 := fun k hk => by
    have := Int.mul_le_mul_of_nonneg_left (show ((k : Nat) : Int) ≤ (n : Nat) by omega) hB
    omega
  obtain ⟨c1, c2⟩ := closed_le hB hb (p := p) (m := q - p) hp (by omega) (by rw [e]; congr 1; omega) (hBk _ (by omega))
  have c3 := hw (q - p) (f p) (by omega) (by omega) (hp.lt p (by omega)) c1
  obtain ⟨d1, d2⟩ := hp.skip (Nat.le_of_lt hpq) hq e
  have d3 := pow_ge hB hb d1 (hBk _ (by omega))
  have l0 : (if 0 ≤ p then f 0 else f (0 + (q - p))) = i := by rw [if_pos (Nat.zero_le _), f0]
  have l1 : (if n - (q - p) ≤ p then f (n - (q - p)) else f (n - (q - p) + (q - p))) = j := by
    by_cases h : n - (q - p) ≤ p
    · have h1 : n - (q - p) = p := by omega
      have h2 : q = n := by omega
      rw [if_pos h, h1, e, h2, fn]
    · rw [if_neg h, show n - (q - p) + (q - p) = n by omega, fn]
  rw [l0, l1] at d3
  exact ⟨n - (q - p), by omega, by omega⟩
theorem st_ge (n : Nat) (a : List (List Int)) (i j : Nat) : ∀ m k, k ≤ m → gm (powM n a k) i j ≤ stE n a i j m
  | 0, k, h => by obtain rfl : k = 0 := by omega
                  exact Int.le_refl _
  | m + 1, k, h => by
    unfold stE
    by_cases e : k = m + 1
    · subst e; omega
    · have := st_ge n a i j m k (by omega); omega
theorem star_law {n : Nat} {B : Int} (hB : 0 ≤ B) {a : List (List Int)} (hn : 1 ≤ n) (hb : Go.Proofs.Ythmnalaeckfaaaa.Bd B a n) (hs : B * ((n + 1 : Nat) : Int) < 1125899906842624) (hw : ∀ k i, 1 ≤ k → k ≤ n → i < n → Wk n a k i ≠ -1125899906842624 → Wk n a k i ≤ 0) {i j : Nat} (hi : i < n) (hj : j < n) :
    gm (stM n a (n - 1)) i j = if i = j then max (gm (prodM n (stM n a (n - 1)) a) i j) 0 else gm (prodM n (stM n a (n - 1)) a) i j := by
  obtain ⟨m, rfl⟩ : ∃ m, n = m + 1 := ⟨n - 1, by omega⟩
  simp only [Nat.add_sub_cancel]
  have e : B * ((m + 1 + 1 : Nat) : Int) = B * ((m + 1 : Nat) : Int) + B := by rw [Int.natCast_add, Int.mul_add]; simp
  have g1 : gm (stM (m + 1) a m) i j = stE (m + 1) a i j m := gm_tab hi hj
  rw [st_prod hB hb hi hj m (by omega), g1]
  have h1 := st_tl (m + 1) a i j m
  have h2 : stE (m + 1) a i j (m + 1) = max (stE (m + 1) a i j m) (gm (powM (m + 1) a (m + 1)) i j) := rfl
  have h3 : gm (powM (m + 1) a (m + 1)) i j ≤ stE (m + 1) a i j m := by
    by_cases hne : gm (powM (m + 1) a (m + 1)) i j = -1125899906842624
    · rw [hne]
      rcases st_ent hB hb hi hj m with ⟨_, h⟩ | h
      · exact h
      · have := Int.mul_le_mul_of_nonneg_left (show ((m : Nat) : Int) ≤ ((m + 1 : Nat) : Int) by omega) hB
        omega
    · obtain ⟨k, hk, hle⟩ := pow_top hB hb (by omega) hw hi hj hne
      have := st_ge (m + 1) a i j m k (by omega)
      omega
  have h4 := gm_id hi hj
  have h5 : -1125899906842624 ≤ tlE (m + 1) a i j m := by
    have h6 : -1125899906842624 ≤ gm (powM (m + 1) a (m + 1)) i j := by
      have := pow_bdB hB hb (m + 1) i j hi hj
      omega
    cases m with
    | zero => exact h6
    | succ m =>
      have e7 : tlE (m + 1 + 1) a i j (m + 1) = max (tlE (m + 1 + 1) a i j m) (gm (powM (m + 1 + 1) a (m + 1 + 1)) i j) := rfl
      rw [e7]; omega
  rw [h4] at h1
  split at h1
  · rename_i e2; rw [if_pos e2]; omega
  · rename_i e2; rw [if_neg e2]; omega
end Go.Proofs.Ythmnalaeckfaaaa
