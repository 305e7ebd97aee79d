import Derived.Test.YthmnalaeckfaaaaMpGr
namespace Go.Proofs.Ythmnalaeckfaaaa
/-! Walks in the graph of a matrix: f 0, f 1, .. -/
def sw (a : List (List Int)) (f : Nat → Nat) (p : Nat) : Nat → Int
  | 0 => 0
  | k + 1 => sw a f p k + gm a (f (p + k)) (f (p + k + 1))
structure Pth (n : Nat) (a : List (List Int)) (f : Nat → Nat) (k : Nat) : Prop where
  lt : ∀ t, t ≤ k → f t < n
  arc : ∀ t, t < k → gm a (f t) (f (t + 1)) ≠ -1125899906842624
theorem sw_congr {a : List (List Int)} {f g : Nat → Nat} {p q : Nat} : ∀ {k : Nat}, (∀ t, t ≤ k → f (p + t) = g (q + t)) → sw a f p k = sw a g q k
  | 0, _ => rfl
  | k + 1, h => by
    unfold sw
    rw [sw_congr (k := k) (fun t ht => h t (by omega)), h k (by omega)]
    have := h (k + 1) (by omega)
    rw [← Nat.add_assoc, ← Nat.add_assoc] at this
    rw [this]
theorem sw_add (a : List (List Int)) (f : Nat → Nat) (p k : Nat) : ∀ m, sw a f p (k + m) = sw a f p k + sw a f (p + k) m
  | 0 => by simp [sw]
  | m + 1 => by
    have e1 : sw a f p (k + (m + 1)) = sw a f p (k + m) + gm a (f (p + (k + m))) (f (p + (k + m) + 1)) := rfl
    have e2 : sw a f (p + k) (m + 1) = sw a f (p + k) m + gm a (f (p + k + m)) (f (p + k + m + 1)) := rfl
    rw [e1, e2, sw_add a f p k m, Nat.add_assoc p k m, Int.add_assoc]
theorem Pth.sub {n : Nat} {a : List (List Int)} {f : Nat → Nat} {k : Nat} (h : Pth n a f k) (p m : Nat) (hm : p + m ≤ k) : Pth n a (fun t => f (p + t)) m := ⟨fun t ht => h.lt _ (by omega), fun t ht => h.arc (p + t) (by omega)⟩
theorem Pth.less {n : Nat} {a : List (List Int)} {f : Nat → Nat} {k m : Nat} (h : Pth n a f k) (hm : m ≤ k) : Pth n a f m := ⟨fun t ht => h.lt _ (by omega), fun t ht => h.arc t (by omega)⟩
theorem sw_sub (a : List (List Int)) (f : Nat → Nat) (p m : Nat) : sw a (fun t => f (p + t)) 0 m = sw a f p m := sw_congr (fun t _ => by simp)
/-- the powers are the greatest weights of walks: at least -/
theorem pow_ge {n : Nat} {B : Int} {a : List (List Int)} (hB : 0 ≤ B) (hb : Go.Proofs.Ythmnalaeckfaaaa.Bd B a n) {f : Nat → Nat} : ∀ {k : Nat}, Pth n a f k → B * (k : Nat) < 1125899906842624 → gm (powM n a k) (f 0) (f k) ≠ -1125899906842624 ∧ sw a f 0 k ≤ gm (powM n a k) (f 0) (f k)
  | 0, h, _ => by
    have := h.lt 0 (by omega)
    show gm (idM n) (f 0) (f 0) ≠ -1125899906842624 ∧ (0 : Int) ≤ gm (idM n) (f 0) (f 0)
    rw [gm_id this this, if_pos rfl]
    exact ⟨by omega, Int.le_refl _⟩
  | k + 1, h, hk => by
    have e : B * ((k + 1 : Nat) : Int) = B * (k : Nat) + B := by rw [Int.natCast_add, Int.mul_add]; simp
    obtain ⟨i1, i2⟩ := pow_ge hB hb (h.less (m := k) (by omega)) (by omega)
    have l0 := h.lt 0 (by omega)
    have lk := h.lt k (by omega)
    have lk1 := h.lt (k + 1) (by omega)
    have ha := h.arc k (by omega)
    have b1 := pow_bdB hB hb k _ _ l0 lk
    have b2 := hb _ _ lk lk1
    show gm (prodM n (powM n a k) a) (f 0) (f (k + 1)) ≠ -1125899906842624 ∧ sw a f 0 (k + 1) ≤ gm (prodM n (powM n a k) a) (f 0) (f (k + 1))
    rw [prod_gm l0 lk1]
    have hm := mx_ge (fun v => plusF (gm (powM n a k) (f 0) v) (gm a v (f (k + 1)))) n (f k) lk
    have hp : plusF (gm (powM n a k) (f 0) (f k)) (gm a (f k) (f (k + 1))) = gm (powM n a k) (f 0) (f k) + gm a (f k) (f (k + 1)) := by
      unfold plusF
      rw [if_neg (fun h => h.elim i1 ha)]
    have hm : gm (powM n a k) (f 0) (f k) + gm a (f k) (f (k + 1)) ≤ mx (fun v => plusF (gm (powM n a k) (f 0) v) (gm a v (f (k + 1)))) n := by rw [← hp]; exact hm
    have es : sw a f 0 (k + 1) = sw a f 0 k + gm a (f k) (f (k + 1)) := by
      show sw a f 0 k + gm a (f (0 + k)) (f (0 + k + 1)) = _
      rw [Nat.zero_add]
    rw [es]
    have c1 := b1.resolve_left i1
    have c2 := b2.resolve_left ha
    exact ⟨by omega, by omega⟩
/-- and attained -/
theorem pow_path {n : Nat} {a : List (List Int)} {i : Nat} (hi : i < n) : ∀ {k : Nat} {j : Nat}, j < n → gm (powM n a k) i j ≠ -1125899906842624 → ∃ f, f 0 = i ∧ f k = j ∧ Pth n a f k ∧ sw a f 0 k = gm (powM n a k) i j
  | 0, j, hj, h => by
    have e : gm (powM n a 0) i j = if i = j then 0 else -1125899906842624 := gm_id hi hj
    rw [e] at h ⊢
    by_cases hij : i = j
    · subst hij
      rw [if_pos rfl]
      exact ⟨fun _ => i, rfl, rfl, ⟨fun _ _ => hi, fun t ht => absurd ht (by omega)⟩, rfl⟩
    · rw [if_neg hij] at h; exact absurd rfl h
  | k + 1, j, hj, h => by
    have e : gm (powM n a (k + 1)) i j = mx (fun v => plusF (gm (powM n a k) i v) (gm a v j)) n := prod_gm hi hj
    rw [e] at h ⊢
    rcases mx_cases (fun v => plusF (gm (powM n a k) i v) (gm a v j)) n with h1 | ⟨v, hv, ev⟩
    · exact absurd h1 h
    · rw [ev] at h ⊢
      have hn : ¬ (gm (powM n a k) i v = -1125899906842624 ∨ gm a v j = -1125899906842624) := fun hh => h (by unfold plusF; rw [if_pos hh])
      obtain ⟨f, f0, fk, hp, hs⟩ := pow_path hi hv (fun hh => hn (.inl hh))
      refine ⟨fun t => if t ≤ k then f t else j, by simp [f0], by simp only [if_neg (show ¬ k + 1 ≤ k by omega)], ⟨fun t ht => ?_, fun t ht => ?_⟩, ?_⟩
      · by_cases h2 : t ≤ k
        · simp only [if_pos h2]; exact hp.lt t h2
        · simp only [if_neg h2]; exact hj
      · by_cases h2 : t + 1 ≤ k
        · simp only [if_pos h2, if_pos (show t ≤ k by omega)]; exact hp.arc t (by omega)
        · have : t = k := by omega
          subst this
          simp only [Nat.le_refl, if_true, if_neg h2, fk]
          exact fun hh => hn (.inr hh)
      · unfold sw
        rw [sw_congr (g := f) (q := 0) (fun t ht => by simp only [Nat.zero_add, if_pos ht]), hs]
        simp only [Nat.zero_add, Nat.le_refl, if_true, if_neg (show ¬ k + 1 ≤ k by omega), fk]
        unfold plusF
        rw [if_neg hn]
/-- among n + 1 nodes two are equal -/
theorem pigeon : ∀ (n : Nat) (f : Nat → Nat), (∀ t, t ≤ n → f t < n) → ∃ p q, p < q ∧ q ≤ n ∧ f p = f q
  | 0, f, h => absurd (h 0 (by omega)) (by omega)
  | n + 1, f, h => by
    by_cases hc : ∃ t, t ≤ n ∧ f t = f (n + 1)
    · obtain ⟨t, ht, e⟩ := hc
      exact ⟨t, n + 1, by omega, by omega, e⟩
    · have hne : ∀ t, t ≤ n → f t ≠ f (n + 1) := fun t ht e => hc ⟨t, ht, e⟩
      have hb := h (n + 1) (by omega)
      obtain ⟨p, q, hpq, hq, e⟩ := pigeon n (fun t => if f t = n then f (n + 1) else f t) (fun t ht => by
        have h1 := h t (by omega)
        have h2 := hne t ht
        try simp only
        split <;> omega)
      try simp only at e
      have n1 := hne p (by omega)
      have n2 := hne q (by omega)
      refine ⟨p, q, hpq, by omega, ?_⟩
      by_cases e1 : f p = n
      · by_cases e2 : f q = n
        · omega
        · rw [if_pos e1, if_neg e2] at e; exact absurd e.symm n2
      · by_cases e2 : f q = n
        · rw [if_neg e1, if_pos e2] at e; exact absurd e n1
        · rw [if_neg e1, if_neg e2] at e; exact e
/-- the walk without its nodes p + 1 .. q -/
theorem Pth.skip {n : Nat} {a : List (List Int)} {f : Nat → Nat} {k p q : Nat} (h : Pth n a f k) (hpq : p ≤ q) (hq : q ≤ k) (e : f p = f q) : Pth n a (fun t => if t ≤ p then f t else f (t + (q - p))) (k - (q - p)) ∧ sw a (fun t => if t ≤ p then f t else f (t + (q - p))) 0 (k - (q - p)) = sw a f 0 k - sw a f p (q - p) := by
  have hat : ∀ t, p ≤ t → (if t ≤ p then f t else f (t + (q - p))) = f (t + (q - p)) := fun t ht => by
    by_cases h1 : t ≤ p
    · have : t = p := by omega
      subst this
      rw [if_pos h1, e]; congr 1; omega
    · rw [if_neg h1]
  refine ⟨⟨fun t ht => ?_, fun t ht => ?_⟩, ?_⟩
  · try simp only
    split
    · exact h.lt t (by omega)
    · exact h.lt _ (by omega)
  · try simp only
    by_cases h1 : t + 1 ≤ p
    · rw [if_pos h1, if_pos (by omega)]; exact h.arc t (by omega)
    · rw [hat t (by omega), if_neg h1]
      have := h.arc (t + (q - p)) (by omega)
      rwa [show t + 1 + (q - p) = t + (q - p) + 1 by omega]
  · obtain ⟨m, hm⟩ : ∃ m, k = q + m := ⟨k - q, by omega⟩
    subst hm
    rw [show q + m - (q - p) = p + m by omega, sw_add, Nat.zero_add]
    rw [sw_congr (f := fun t => if t ≤ p then f t else f (t + (q - p))) (g := f) (p := 0) (q := 0) (k := p) (fun t ht => by simp only [Nat.zero_add, if_pos ht])]
    rw [sw_congr (f := fun t => if t ≤ p then f t else f (t + (q - p))) (g := f) (p := p) (q := q) (k := m) (fun t _ => by
      try simp only
      rw [hat (p + t) (by omega)]; congr 1; omega)]
    have e2 : q + m = p + (q - p) + m := by omega
    rw [e2, sw_add, sw_add, Nat.zero_add, Nat.zero_add, show p + (q - p) = q by omega]
    omega
/-- a closed part of a walk weighs at most as the power says -/
theorem closed_le {n : Nat} {B : Int} {a : List (List Int)} (hB : 0 ≤ B) (hb : Go.Proofs.Ythmnalaeckfaaaa.Bd B a n) {f : Nat → Nat} {k p m : Nat} (h : Pth n a f k) (hk : p + m ≤ k) (e : f p = f (p + m)) (hs : B * (m : Nat) < 1125899906842624) : Wk n a m (f p) ≠ -1125899906842624 ∧ sw a f p m ≤ Wk n a m (f p) := by
  have h1 := pow_ge hB hb (h.sub p m hk) hs
  simp only [Nat.add_zero, ← e] at h1
  rw [sw_sub] at h1
  exact h1
end Go.Proofs.Ythmnalaeckfaaaa
