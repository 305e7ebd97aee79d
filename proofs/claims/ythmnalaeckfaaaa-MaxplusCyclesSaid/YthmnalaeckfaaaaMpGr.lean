import Derived.Test.YthmnalaeckfaaaaMp25
namespace Go.Proofs.Ythmnalaeckfaaaa
def Wk (n : Nat) (a : List (List Int)) (k i : Nat) : Int := gm (powM n a k) i i
/-- what is known of the mean so far: P k i are the closed walks that were seen -/
structure GrI (n : Nat) (a : List (List Int)) (P : Nat → Nat → Prop) (s : Gr) : Prop where
  pos : ∀ k i, P k i → 1 ≤ k ∧ i < n
  z : s.den = 0 → ∀ k i, P k i → Wk n a k i = -1125899906842624
  d : 0 ≤ s.den
  at_ : s.den ≠ 0 → ∃ k i, P k i ∧ Wk n a k i ≠ -1125899906842624 ∧ s.num = Wk n a k i ∧ s.den = k
  le : s.den ≠ 0 → ∀ k i, P k i → Wk n a k i ≠ -1125899906842624 → Wk n a k i * s.den ≤ s.num * k
  l : s.nodes.length = n
  nd : ∀ i, i < n → (s.nodes.getD i false = true ↔ s.den ≠ 0 ∧ ∃ k, P k i ∧ Wk n a k i ≠ -1125899906842624 ∧ Wk n a k i * s.den = s.num * k)
theorem cross_lt {W d num k k0 wt : Int} (hd : 0 < d) (hk : 1 ≤ k) (hk0 : 1 ≤ k0) (h1 : W * d ≤ num * k) (h2 : num * k0 < wt * d) : W * k0 < wt * k := by
  have e1 : W * d * k0 ≤ num * k * k0 := Int.mul_le_mul_of_nonneg_right h1 (by omega)
  have e2 : num * k0 * k < wt * d * k := Int.mul_lt_mul_of_pos_right h2 (by omega)
  have e3 : (W * k0) * d < (wt * k) * d := by
    have a1 : (W * k0) * d = W * d * k0 := by rw [Int.mul_assoc, Int.mul_comm k0 d, ← Int.mul_assoc]
    have a2 : (wt * k) * d = wt * d * k := by rw [Int.mul_assoc, Int.mul_comm k d, ← Int.mul_assoc]
    have a3 : num * k * k0 = num * k0 * k := by rw [Int.mul_assoc, Int.mul_comm k k0, ← Int.mul_assoc]
    rw [a1, a2]
    omega
  exact Int.lt_of_mul_lt_mul_right e3 (by omega)
theorem GrI.step {n : Nat} {a : List (List Int)} {P : Nat → Nat → Prop} {s : Gr} (h : GrI n a P s) {k0 i0 : Nat} (hk0 : 1 ≤ k0) (hi0 : i0 < n) : GrI n a (fun k i => P k i ∨ (k = k0 ∧ i = i0)) (grStep n k0 i0 (Wk n a k0 i0) s) := by
  have hpos : ∀ k i, (P k i ∨ (k = k0 ∧ i = i0)) → 1 ≤ k ∧ i < n := fun k i hp => by
    rcases hp with hp | ⟨rfl, rfl⟩
    · exact h.pos k i hp
    · exact ⟨hk0, hi0⟩
  unfold grStep
  by_cases hw : Wk n a k0 i0 = -1125899906842624
  · rw [if_pos hw]
    refine ⟨hpos, fun hd k i hp => ?_, h.d, fun hd => ?_, fun hd k i hp hn => ?_, h.l, fun i hi => ?_⟩
    · rcases hp with hp | ⟨rfl, rfl⟩
      · exact h.z hd k i hp
      · exact hw
    · obtain ⟨k, i, hp, h1⟩ := h.at_ hd
      exact ⟨k, i, .inl hp, h1⟩
    · rcases hp with hp | ⟨rfl, rfl⟩
      · exact h.le hd k i hp hn
      · exact absurd hw hn
    · rw [h.nd i hi]
      constructor
      · rintro ⟨hd, k, hp, h1⟩; exact ⟨hd, k, .inl hp, h1⟩
      · rintro ⟨hd, k, hp, h1, h2⟩
        rcases hp with hp | ⟨rfl, rfl⟩
        · exact ⟨hd, k, hp, h1, h2⟩
        · exact absurd hw h1
  rw [if_neg hw]
  unfold grUp
  by_cases hup : s.den = 0 ∨ s.num * (k0 : Int) < Wk n a k0 i0 * s.den
  · rw [if_pos hup]
    unfold grMk
    simp only
    rw [if_pos trivial]
    have hlt : ∀ k i, P k i → Wk n a k i ≠ -1125899906842624 → Wk n a k i * k0 < Wk n a k0 i0 * k := fun k i hp hn => by
      have hd : s.den ≠ 0 := fun e => hn (h.z e k i hp)
      have h1 := (h.pos k i hp).1
      have h2 := h.d
      exact cross_lt (d := s.den) (num := s.num) (by omega) (by omega) (by omega) (h.le hd k i hp hn) (hup.resolve_left hd)
    refine ⟨hpos, fun hd => ?_, by simp only; omega, fun hd => ?_, fun hd k i hp hn => ?_, by simp, fun i hi => ?_⟩
    · simp only at hd; omega
    · exact ⟨k0, i0, .inr ⟨rfl, rfl⟩, hw, rfl, rfl⟩
    · rcases hp with hp | ⟨rfl, rfl⟩
      · exact Int.le_of_lt (hlt k i hp hn)
      · exact Int.le_refl _
    · by_cases e : i = i0
      · subst e
        simp only [List.getD_eq_getElem?_getD]
        rw [List.getElem?_set_self (by simp; exact hi)]
        simp only [Option.getD_some, true_iff]
        exact ⟨by omega, k0, .inr ⟨rfl, trivial⟩, hw, rfl⟩
      · simp only [List.getD_eq_getElem?_getD]
        rw [List.getElem?_set_ne (by omega)]
        simp only [List.getElem?_replicate, if_pos hi, Option.getD_some]
        constructor
        · intro h1; cases h1
        · rintro ⟨_, k, hp, h1, h2⟩
          rcases hp with hp | ⟨_, e2⟩
          · have := hlt k i hp h1; omega
          · exact absurd e2 e
  · rw [if_neg hup]
    have hd : s.den ≠ 0 := fun e => hup (.inl e)
    have hle : Wk n a k0 i0 * s.den ≤ s.num * k0 := by
      have : ¬ s.num * (k0 : Int) < Wk n a k0 i0 * s.den := fun e => hup (.inr e)
      omega
    unfold grMk
    by_cases heq : Wk n a k0 i0 * s.den = s.num * k0
    · rw [if_pos heq]
      refine ⟨hpos, fun e => absurd e hd, h.d, fun _ => ?_, fun _ k i hp hn => ?_, by simp [h.l], fun i hi => ?_⟩
      · obtain ⟨k, i, hp, h1⟩ := h.at_ hd
        exact ⟨k, i, .inl hp, h1⟩
      · rcases hp with hp | ⟨rfl, rfl⟩
        · exact h.le hd k i hp hn
        · exact hle
      · by_cases e : i = i0
        · subst e
          simp only [List.getD_eq_getElem?_getD]
          rw [List.getElem?_set_self (by rw [h.l]; exact hi)]
          simp only [Option.getD_some, true_iff]
          exact ⟨hd, k0, .inr ⟨rfl, trivial⟩, hw, heq⟩
        · have h0 := h.nd i hi
          simp only [List.getD_eq_getElem?_getD] at h0 ⊢
          rw [List.getElem?_set_ne (by omega), h0]
          constructor
          · rintro ⟨_, k, hp, h1⟩; exact ⟨hd, k, .inl hp, h1⟩
          · rintro ⟨_, k, hp, h1, h2⟩
            rcases hp with hp | ⟨_, e2⟩
            · exact ⟨hd, k, hp, h1, h2⟩
            · exact absurd e2 e
    · rw [if_neg heq]
      refine ⟨hpos, fun e => absurd e hd, h.d, fun _ => ?_, fun _ k i hp hn => ?_, h.l, fun i hi => ?_⟩
      · obtain ⟨k, i, hp, h1⟩ := h.at_ hd
        exact ⟨k, i, .inl hp, h1⟩
      · rcases hp with hp | ⟨rfl, rfl⟩
        · exact h.le hd k i hp hn
        · exact hle
      · rw [h.nd i hi]
        constructor
        · rintro ⟨_, k, hp, h1⟩; exact ⟨hd, k, .inl hp, h1⟩
        · rintro ⟨_, k, hp, h1, h2⟩
          rcases hp with hp | ⟨rfl, rfl⟩
          · exact ⟨hd, k, hp, h1, h2⟩
          · exact absurd h2 heq
theorem GrI.congr {n : Nat} {a : List (List Int)} {P Q : Nat → Nat → Prop} {s : Gr} (h : GrI n a P s) (e : ∀ k i, P k i ↔ Q k i) : GrI n a Q s := by
  have : P = Q := by funext k i; exact propext (e k i)
  rw [← this]; exact h
theorem GrI.row {n : Nat} {a : List (List Int)} {K : Nat} {s : Gr} (h : GrI n a (fun k i => 1 ≤ k ∧ k ≤ K ∧ i < n) s) : ∀ I, I ≤ n → GrI n a (fun k i => (1 ≤ k ∧ k ≤ K ∧ i < n) ∨ (k = K + 1 ∧ i < I)) (grRow n (K + 1) (powM n a (K + 1)) s I)
  | 0, _ => h.congr fun k i => by constructor; exact .inl; rintro (h | h); exact h; omega
  | I + 1, hI => ((GrI.row h I (by omega)).step (k0 := K + 1) (i0 := I) (by omega) (by omega)).congr fun k i => by omega
theorem grAll_inv (n : Nat) (a : List (List Int)) : ∀ K, GrI n a (fun k i => 1 ≤ k ∧ k ≤ K ∧ i < n) (grAll n a K)
  | 0 => ⟨fun k i h => ⟨h.1, h.2.2⟩, fun _ k i h => absurd h (by omega), by simp [grAll], fun h => absurd rfl h, fun h => absurd rfl h, by simp [grAll], fun i hi => by
      simp only [grAll, List.getD_eq_getElem?_getD, List.getElem?_replicate, if_pos hi, Option.getD_some]
      constructor
      · intro h; cases h
      · rintro ⟨h, _⟩; exact absurd rfl h⟩
  | K + 1 => ((grAll_inv n a K).row n (Nat.le_refl _)).congr fun k i => by omega
/-- the mean in lowest terms -/
theorem meanG_low {s : Gr} (hd : 0 ≤ s.den) (h0 : s.den ≠ 0) : ∃ g : Int, 0 < g ∧ s.num = (meanG s).1 * g ∧ s.den = (meanG s).2.1 * g ∧ 0 < (meanG s).2.1 ∧ (meanG s).2.2 = true ∧ Nat.gcd (meanG s).1.natAbs (meanG s).2.1.natAbs = 1 := by
  obtain ⟨num, den, nodes⟩ := s
  simp only at hd h0
  obtain ⟨d, rfl⟩ := Int.eq_ofNat_of_zero_le hd
  have hd0 : 0 < d := by omega
  have hg : 0 < Nat.gcd num.natAbs d := Nat.gcd_pos_of_pos_right _ hd0
  unfold meanG
  simp only
  rw [if_neg h0]
  simp only [Int.toNat_natCast]
  have h1 : ((Nat.gcd num.natAbs d : Nat) : Int) ∣ num := by
    have := Nat.gcd_dvd_left num.natAbs d
    exact Int.ofNat_dvd_left.2 this
  have h2 : ((Nat.gcd num.natAbs d : Nat) : Int) ∣ (d : Int) := Int.natCast_dvd_natCast.2 (Nat.gcd_dvd_right _ _)
  have e1 := Int.tdiv_mul_cancel h1
  have e2 := Int.tdiv_mul_cancel h2
  have p : 0 < (d : Int).tdiv ↑(num.natAbs.gcd d) := by
    rcases Int.lt_or_le 0 ((d : Int).tdiv ↑(num.natAbs.gcd d)) with h | h
    · exact h
    · have := Int.mul_le_mul_of_nonneg_right h (show (0 : Int) ≤ ↑(num.natAbs.gcd d) by omega)
      omega
  refine ⟨(Nat.gcd num.natAbs d : Nat), by omega, e1.symm, e2.symm, p, trivial, ?_⟩
  have a1 : (num.tdiv ↑(num.natAbs.gcd d)).natAbs = num.natAbs / (num.natAbs.gcd d) := by rw [Int.natAbs_tdiv]; rfl
  have a2 : ((d : Int).tdiv ↑(num.natAbs.gcd d)).natAbs = d / (num.natAbs.gcd d) := by rw [Int.natAbs_tdiv]; rfl
  rw [a1, a2]
  exact Nat.coprime_div_gcd_div_gcd hg
/-- a node is critical if it lies on a closed walk with the mean num / den -/
def onB (n : Nat) (a : List (List Int)) (num den : Int) (i : Nat) : Nat → Bool
  | 0 => false
  | k + 1 => onB n a num den i k || (Wk n a (k + 1) i != -1125899906842624 && Wk n a (k + 1) i * den == num * ((k : Int) + 1))
theorem onB_iff (n : Nat) (a : List (List Int)) (num den : Int) (i : Nat) : ∀ K, onB n a num den i K = true ↔ ∃ k, 1 ≤ k ∧ k ≤ K ∧ Wk n a k i ≠ -1125899906842624 ∧ Wk n a k i * den = num * k
  | 0 => by
    constructor
    · intro h; cases h
    · rintro ⟨k, h1, h2, _⟩; omega
  | K + 1 => by
    unfold onB
    rw [Bool.or_eq_true, Bool.and_eq_true, onB_iff n a num den i K, bne_iff_ne, beq_iff_eq]
    constructor
    · rintro (⟨k, h1, h2, h3⟩ | ⟨h1, h2⟩)
      · exact ⟨k, h1, by omega, h3⟩
      · exact ⟨K + 1, by omega, by omega, h1, by rw [h2]; push_cast; rfl⟩
    · rintro ⟨k, h1, h2, h3, h4⟩
      by_cases e : k = K + 1
      · subst e; right; exact ⟨h3, by rw [h4]; push_cast; rfl⟩
      · left; exact ⟨k, h1, by omega, h3, h4⟩
theorem crit_same {n : Nat} {a : List (List Int)} (h0 : (grAll n a n).den ≠ 0) {i : Nat} (hi : i < n) : onB n a (meanG (grAll n a n)).1 (meanG (grAll n a n)).2.1 i n = (grAll n a n).nodes.getD i false := by
  have hI := grAll_inv n a n
  obtain ⟨g, hg, e1, e2, _, _, _⟩ := meanG_low hI.d h0
  rw [Bool.eq_iff_iff, onB_iff, hI.nd i hi]
  have key : ∀ W k : Int, W * (meanG (grAll n a n)).2.1 = (meanG (grAll n a n)).1 * k ↔ W * (grAll n a n).den = (grAll n a n).num * k := fun W k => by
    have a1 : W * (grAll n a n).den = W * (meanG (grAll n a n)).2.1 * g := by rw [Int.mul_assoc, ← e2]
    have a2 : (grAll n a n).num * k = (meanG (grAll n a n)).1 * k * g := by rw [Int.mul_assoc, Int.mul_comm k g, ← Int.mul_assoc, ← e1]
    rw [a1, a2]
    constructor
    · intro h; rw [h]
    · intro h; exact Int.eq_of_mul_eq_mul_right (by omega) h
  constructor
  · rintro ⟨k, h1, h2, h3, h4⟩; exact ⟨h0, k, ⟨h1, h2, hi⟩, h3, (key _ _).1 h4⟩
  · rintro ⟨_, k, ⟨h1, h2, _⟩, h3, h4⟩; exact ⟨k, h1, h2, h3, (key _ _).2 h4⟩
end Go.Proofs.Ythmnalaeckfaaaa
