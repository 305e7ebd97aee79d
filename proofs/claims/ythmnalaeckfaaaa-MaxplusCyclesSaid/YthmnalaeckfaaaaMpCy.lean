import Derived.Test.YthmnalaeckfaaaaMpSt
namespace Go.Proofs.Ythmnalaeckfaaaa
/-! Cycles: each node once. -/
/-- (nu, de) is no better than (nu', de'); de = 0 stands for 'none' -/
def Lef (nu de nu' de' : Int) : Prop := de = 0 ∨ (de' ≠ 0 ∧ nu * de' ≤ nu' * de)
theorem Lef.refl (nu de : Int) : Lef nu de nu de := by
  by_cases h : de = 0
  · exact .inl h
  · exact .inr ⟨h, Int.le_refl _⟩
theorem Lef.trans {a b c d e f : Int} (h1 : Lef a b c d) (h2 : Lef c d e f) (hb : 0 ≤ b) (hd : 0 ≤ d) (hf : 0 ≤ f) : Lef a b e f := by
  rcases h1 with h1 | ⟨h1, h3⟩
  · exact .inl h1
  · rcases h2 with h2 | ⟨h2, h4⟩
    · exact absurd h2 h1
    · right
      refine ⟨h2, ?_⟩
      have e1 : a * d * f ≤ c * b * f := Int.mul_le_mul_of_nonneg_right h3 hf
      have e2 : c * f * b ≤ e * d * b := Int.mul_le_mul_of_nonneg_right h4 hb
      have e3 : (a * f) * d ≤ (e * b) * d := by
        have a1 : (a * f) * d = a * d * f := by rw [Int.mul_assoc, Int.mul_comm f d, ← Int.mul_assoc]
        have a2 : (e * b) * d = e * d * b := by rw [Int.mul_assoc, Int.mul_comm b d, ← Int.mul_assoc]
        have a3 : c * b * f = c * f * b := by rw [Int.mul_assoc, Int.mul_comm b f, ← Int.mul_assoc]
        rw [a1, a2]
        omega
      exact Int.le_of_mul_le_mul_right e3 (by omega)
/-- a way on from 'at' over nodes that were not seen, back to 'from' -/
def Ext (n : Nat) (a : List (List Int)) (fr : Nat) : List Bool → Nat → List Nat → Int → Prop
  | _, u, [], w => gm a fr u ≠ -1125899906842624 ∧ w = gm a fr u
  | S, u, j :: js, w => fr < j ∧ j < n ∧ S.getD j false = false ∧ gm a j u ≠ -1125899906842624 ∧ ∃ w', Ext n a fr (S.set j true) j js w' ∧ w = gm a j u + w'
def backL (g : Nat → Nat) : Nat → List Nat
  | 0 => []
  | 1 => []
  | m + 2 => g (m + 1) :: backL g (m + 1)
theorem backL_len (g : Nat → Nat) : ∀ m, (backL g (m + 1)).length = m
  | 0 => rfl
  | m + 1 => by show (backL g (m + 1)).length + 1 = m + 1; rw [backL_len g m]
theorem ext_back {n : Nat} {a : List (List Int)} {g : Nat → Nat} {k : Nat} (hp : Pth n a g k) (hmin : ∀ t, 1 ≤ t → t < k → g 0 < g t) (hdis : ∀ s t, s < t → t < k → g s ≠ g t) : ∀ (m : Nat) (S : List Bool), m + 1 ≤ k → (∀ t, 1 ≤ t → t < m + 1 → S.getD (g t) false = false) → Ext n a (g 0) S (g (m + 1)) (backL g (m + 1)) (sw a g 0 (m + 1))
  | 0, S, hm, _ => by
    have h := hp.arc 0 (by omega)
    refine ⟨h, ?_⟩
    show (0 : Int) + gm a (g (0 + 0)) (g (0 + 0 + 1)) = _
    simp
  | m + 1, S, hm, hS => by
    have h := hp.arc (m + 1) (by omega)
    refine ⟨hmin (m + 1) (by omega) (by omega), hp.lt _ (by omega), hS (m + 1) (by omega) (by omega), h, sw a g 0 (m + 1), ext_back hp hmin hdis m _ (by omega) (fun t h1 h2 => ?_), ?_⟩
    · have hne := hdis t (m + 1) (by omega) (by omega)
      have h3 := hS t h1 (by omega)
      simp only [List.getD_eq_getElem?_getD] at h3 ⊢
      rw [List.getElem?_set_ne (by omega)]
      exact h3
    · show sw a g 0 (m + 1) + gm a (g (0 + (m + 1))) (g (0 + (m + 1) + 1)) = _
      rw [Nat.zero_add, Int.add_comm]
theorem rep_false (n t : Nat) : (List.replicate n false).getD t false = false := by
  simp only [List.getD_eq_getElem?_getD, List.getElem?_replicate]
  by_cases h : t < n
  · rw [if_pos h]; rfl
  · rw [if_neg h]; rfl
theorem sw_one (a : List (List Int)) (f : Nat → Nat) (p : Nat) : sw a f p 0 = 0 := rfl
/-- the closed walk, begun at another of its nodes -/
theorem Pth.turn {n : Nat} {a : List (List Int)} {f : Nat → Nat} {k t0 : Nat} (h : Pth n a f k) (e : f 0 = f k) (ht : t0 < k) : Pth n a (fun s => if t0 + s ≤ k then f (t0 + s) else f (t0 + s - k)) k ∧ sw a (fun s => if t0 + s ≤ k then f (t0 + s) else f (t0 + s - k)) 0 k = sw a f 0 k := by
  have hat : ∀ s, k ≤ t0 + s → (if t0 + s ≤ k then f (t0 + s) else f (t0 + s - k)) = f (t0 + s - k) := fun s hs => by
    by_cases h1 : t0 + s ≤ k
    · have : t0 + s = k := by omega
      rw [if_pos h1, this, Nat.sub_self, e]
    · rw [if_neg h1]
  refine ⟨⟨fun t ht => ?_, fun t ht => ?_⟩, ?_⟩
  · try simp only
    split
    · exact h.lt _ (by omega)
    · exact h.lt _ (by omega)
  · try simp only
    by_cases h1 : t0 + (t + 1) ≤ k
    · rw [if_pos h1, if_pos (by omega)]
      exact h.arc (t0 + t) (by omega)
    · rw [hat t (by omega), hat (t + 1) (by omega)]
      have := h.arc (t0 + t - k) (by omega)
      rwa [show t0 + t - k + 1 = t0 + (t + 1) - k by omega] at this
  · obtain ⟨m, hm⟩ : ∃ m, k = t0 + m := ⟨k - t0, by omega⟩
    have e1 : sw a (fun s => if t0 + s ≤ k then f (t0 + s) else f (t0 + s - k)) 0 k = sw a (fun s => if t0 + s ≤ k then f (t0 + s) else f (t0 + s - k)) 0 m + sw a (fun s => if t0 + s ≤ k then f (t0 + s) else f (t0 + s - k)) (0 + m) t0 := by
      rw [← sw_add]; congr 1; omega
    have e2 : sw a f 0 k = sw a f 0 t0 + sw a f (0 + t0) m := by rw [← sw_add, ← hm]
    have e3 : sw a (fun s => if t0 + s ≤ k then f (t0 + s) else f (t0 + s - k)) 0 m = sw a f (0 + t0) m := sw_congr fun t ht => by
      try simp only
      rw [if_pos (by omega)]; congr 1; omega
    have e4 : sw a (fun s => if t0 + s ≤ k then f (t0 + s) else f (t0 + s - k)) (0 + m) t0 = sw a f 0 t0 := sw_congr fun t ht => by
      try simp only
      rw [hat (0 + m + t) (by omega)]; congr 1; omega
    rw [e1, e2, e3, e4]
    omega
theorem min_at (f : Nat → Nat) : ∀ k, 0 < k → ∃ t, t < k ∧ ∀ s, s < k → f t ≤ f s
  | 1, _ => ⟨0, by omega, fun s hs => by obtain rfl : s = 0 := by omega
                                         exact Nat.le_refl _⟩
  | k + 2, _ => by
    obtain ⟨t, ht, hm⟩ := min_at f (k + 1) (by omega)
    by_cases h : f t ≤ f (k + 1)
    · exact ⟨t, by omega, fun s hs => by
        by_cases e : s = k + 1
        · subst e; exact h
        · exact hm s (by omega)⟩
    · exact ⟨k + 1, by omega, fun s hs => by
        by_cases e : s = k + 1
        · subst e; exact Nat.le_refl _
        · have := hm s (by omega); omega⟩
/-- each closed walk has a cycle that is at least as good -/
theorem cyc_of {n : Nat} {a : List (List Int)} : ∀ (b k : Nat) (f : Nat → Nat), k ≤ b → 1 ≤ k → Pth n a f k → f 0 = f k → ∃ fr js w, fr < n ∧ Ext n a fr (List.replicate n false) fr js w ∧ sw a f 0 k * ((js.length : Int) + 1) ≤ w * k
  | 0, k, f, hb, hk, _, _ => absurd hk (by omega)
  | b + 1, k, f, hb, hk, hp, e => by
    by_cases hd : ∃ p q, p < q ∧ q < k ∧ f p = f q
    · obtain ⟨p, q, hpq, hq, epq⟩ := hd
      obtain ⟨s1, s2⟩ := hp.skip (Nat.le_of_lt hpq) (by omega) epq
      have hsub := hp.sub p (q - p) (by omega)
      have hswsub := sw_sub a f p (q - p)
      by_cases hbest : sw a f 0 k * ((q - p : Nat) : Int) ≤ sw a f p (q - p) * (k : Int)
      · obtain ⟨fr, js, w, h1, h2, h3⟩ := cyc_of b (q - p) _ (by omega) (by omega) hsub (by simp only [Nat.add_zero]; rw [epq]; congr 1; omega)
        rw [hswsub] at h3
        refine ⟨fr, js, w, h1, h2, ?_⟩
        have c1 : (sw a f 0 k * ((js.length : Int) + 1)) * ((q - p : Nat) : Int) ≤ (w * k) * ((q - p : Nat) : Int) := by
          have d1 := Int.mul_le_mul_of_nonneg_right hbest (show (0 : Int) ≤ (js.length : Int) + 1 by omega)
          have d2 := Int.mul_le_mul_of_nonneg_right h3 (show (0 : Int) ≤ (k : Int) by omega)
          have g1 : (sw a f 0 k * ((js.length : Int) + 1)) * ((q - p : Nat) : Int) = sw a f 0 k * ((q - p : Nat) : Int) * ((js.length : Int) + 1) := by rw [Int.mul_assoc, Int.mul_comm ((js.length : Int) + 1), ← Int.mul_assoc]
          have g2 : (w * k) * ((q - p : Nat) : Int) = w * ((q - p : Nat) : Int) * k := by rw [Int.mul_assoc, Int.mul_comm (k : Int), ← Int.mul_assoc]
          have g3 : sw a f p (q - p) * (k : Int) * ((js.length : Int) + 1) = sw a f p (q - p) * ((js.length : Int) + 1) * k := by rw [Int.mul_assoc, Int.mul_comm (k : Int), ← Int.mul_assoc]
          rw [g1, g2]
          omega
        exact Int.le_of_mul_le_mul_right c1 (by omega)
      · have l0 : (if 0 ≤ p then f 0 else f (0 + (q - p))) = f 0 := if_pos (Nat.zero_le _)
        have l1 : (if k - (q - p) ≤ p then f (k - (q - p)) else f (k - (q - p) + (q - p))) = f k := by
          rw [if_neg (by omega)]; congr 1; omega
        obtain ⟨fr, js, w, h1, h2, h3⟩ := cyc_of b (k - (q - p)) _ (by omega) (by omega) s1 (l0.trans (e.trans l1.symm))
        rw [s2] at h3
        refine ⟨fr, js, w, h1, h2, ?_⟩
        have ek : ((k - (q - p) : Nat) : Int) = (k : Int) - ((q - p : Nat) : Int) := by omega
        rw [ek] at h3
        generalize ((q - p : Nat) : Int) = r at *
        have hr0 : 0 < (k : Int) - r := by omega
        generalize sw a f 0 k = s at *
        generalize sw a f p (q - p) = u at *
        have hlt : s * ((k : Int) - r) < (s - u) * k := by
          have a1 : s * ((k : Int) - r) = s * k - s * r := Int.mul_sub _ _ _
          have a2 : (s - u) * (k : Int) = s * k - u * k := Int.sub_mul _ _ _
          omega
        have c1 : (s * ((js.length : Int) + 1)) * ((k : Int) - r) ≤ (w * k) * ((k : Int) - r) := by
          have d1 := Int.mul_le_mul_of_nonneg_right (Int.le_of_lt hlt) (show (0 : Int) ≤ (js.length : Int) + 1 by omega)
          have d2 := Int.mul_le_mul_of_nonneg_right h3 (show (0 : Int) ≤ (k : Int) by omega)
          have g1 : (s * ((js.length : Int) + 1)) * ((k : Int) - r) = s * ((k : Int) - r) * ((js.length : Int) + 1) := by rw [Int.mul_assoc, Int.mul_comm ((js.length : Int) + 1), ← Int.mul_assoc]
          have g2 : (w * k) * ((k : Int) - r) = w * ((k : Int) - r) * k := by rw [Int.mul_assoc, Int.mul_comm (k : Int), ← Int.mul_assoc]
          have g3 : (s - u) * (k : Int) * ((js.length : Int) + 1) = (s - u) * ((js.length : Int) + 1) * k := by rw [Int.mul_assoc, Int.mul_comm (k : Int), ← Int.mul_assoc]
          rw [g1, g2]
          omega
        exact Int.le_of_mul_le_mul_right c1 hr0
    · have hdis : ∀ p q, p < q → q < k → f p ≠ f q := fun p q h1 h2 h3 => hd ⟨p, q, h1, h2, h3⟩
      have hdis2 : ∀ p q, p < k → q < k → p ≠ q → f p ≠ f q := fun p q h1 h2 h3 h4 => by
        rcases Nat.lt_or_gt_of_ne h3 with h | h
        · exact hdis p q h h2 h4
        · exact hdis q p h h1 h4.symm
      obtain ⟨t0, ht0, hmin⟩ := min_at f k (by omega)
      obtain ⟨g1, g2⟩ := hp.turn e ht0
      have hg : ∀ s, s < k → ∃ t, t < k ∧ (if t0 + s ≤ k then f (t0 + s) else f (t0 + s - k)) = f t ∧ ((t0 + s < k ∧ t = t0 + s) ∨ (k ≤ t0 + s ∧ t = t0 + s - k)) := fun s hs => by
        by_cases h1 : t0 + s < k
        · exact ⟨t0 + s, h1, by rw [if_pos (by omega)], .inl ⟨h1, rfl⟩⟩
        · refine ⟨t0 + s - k, by omega, ?_, .inr ⟨by omega, rfl⟩⟩
          by_cases h2 : t0 + s = k
          · rw [if_pos (by omega), h2, Nat.sub_self, e]
          · rw [if_neg (by omega)]
      obtain ⟨m, rfl⟩ : ∃ m, k = m + 1 := ⟨k - 1, by omega⟩
      have hext := ext_back g1 (fun t h1 h2 => by
        obtain ⟨u, hu, eu, hu2⟩ := hg t h2
        obtain ⟨v, hv, ev, hv2⟩ := hg 0 (by omega)
        have hne : v ≠ u := by omega
        have hv0 : v = t0 := by omega
        try simp only
        rw [eu, ev, hv0]
        have h3 := hmin u hu
        have h4 := hdis2 t0 u ht0 hu (by omega)
        omega) (fun s t h1 h2 => by
        obtain ⟨u, hu, eu, hu2⟩ := hg t h2
        obtain ⟨v, hv, ev, hv2⟩ := hg s (by omega)
        try simp only
        rw [eu, ev]
        exact hdis2 v u hv hu (by omega)) m (List.replicate n false) (Nat.le_refl _) (fun t _ _ => rep_false n _)
      have e0 : (if t0 + 0 ≤ m + 1 then f (t0 + 0) else f (t0 + 0 - (m + 1))) = f t0 := by rw [if_pos (by omega), Nat.add_zero]
      have e1 : (if t0 + (m + 1) ≤ m + 1 then f (t0 + (m + 1)) else f (t0 + (m + 1) - (m + 1))) = f t0 := by
        by_cases h : t0 + (m + 1) ≤ m + 1
        · have : t0 = 0 := by omega
          subst this
          rw [if_pos h, Nat.zero_add, e]
        · rw [if_neg h]; congr 1; omega
      simp only [e0, e1] at hext
      rw [g2] at hext
      exact ⟨f t0, _, _, hp.lt t0 (by omega), hext, by rw [backL_len]; push_cast; exact Int.le_refl _⟩
end Go.Proofs.Ythmnalaeckfaaaa
