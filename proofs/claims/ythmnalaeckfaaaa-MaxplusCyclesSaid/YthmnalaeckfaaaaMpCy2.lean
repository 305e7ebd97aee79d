import Derived.Test.YthmnalaeckfaaaaMpCy
import Derived.Test.YthmnalaeckfaaaaMpDl
namespace Go.Proofs.Ythmnalaeckfaaaa
/-- none so far, or a closed walk -/
def Gen (n : Nat) (a : List (List Int)) (nu de : Int) : Prop := (nu = 0 ∧ de = 0) ∨ ∃ k i : Nat, de = k ∧ 1 ≤ k ∧ k ≤ n ∧ i < n ∧ Wk n a k i ≠ -1125899906842624 ∧ nu ≤ Wk n a k i ∧ -10 * (k : Int) ≤ nu ∧ nu ≤ 29 * (k : Int)
theorem Gen.d {n : Nat} {a : List (List Int)} {nu de : Int} (h : Gen n a nu de) : 0 ≤ de ∧ de ≤ n ∧ -10 * (n : Int) ≤ nu ∧ nu ≤ 29 * (n : Int) := by
  rcases h with ⟨rfl, rfl⟩ | ⟨k, i, rfl, h1, h2, _, _, _, h3, h4⟩
  · omega
  · omega
/-- a walk back from u to fr -/
def Back (n : Nat) (a : List (List Int)) (fr u : Nat) (sum : Int) (m : Nat) : Prop := ∃ f, Pth n a f m ∧ f 0 = u ∧ f m = fr ∧ sw a f 0 m = sum
theorem Back.nil {n : Nat} {a : List (List Int)} {fr : Nat} (h : fr < n) : Back n a fr fr 0 0 := ⟨fun _ => fr, ⟨fun _ _ => h, fun t ht => absurd ht (by omega)⟩, rfl, rfl, rfl⟩
theorem Back.cons {n : Nat} {a : List (List Int)} {fr u j : Nat} {sum : Int} {m : Nat} (h : Back n a fr u sum m) (hj : j < n) (hw : gm a j u ≠ -1125899906842624) : Back n a fr j (sum + gm a j u) (m + 1) := by
  obtain ⟨f, hf, f0, fm, hs⟩ := h
  refine ⟨fun t => match t with | 0 => j | t + 1 => f t, ⟨fun t ht => ?_, fun t ht => ?_⟩, rfl, fm, ?_⟩
  · cases t with
    | zero => exact hj
    | succ t => exact hf.lt t (by omega)
  · cases t with
    | zero => show gm a j (f 0) ≠ _; rw [f0]; exact hw
    | succ t => exact hf.arc t (by omega)
  · rw [Nat.add_comm m 1, sw_add]
    have e3 : sw a (fun t => match t with | 0 => j | t + 1 => f t) 0 1 = gm a j u := by
      show (0 : Int) + gm a j (f 0) = _
      rw [f0, Int.zero_add]
    have e4 : sw a (fun t => match t with | 0 => j | t + 1 => f t) (0 + 1) m = sw a f 0 m := sw_congr fun t _ => by
      rw [Nat.zero_add, Nat.zero_add, Nat.add_comm 1 t]
    rw [e3, e4, hs, Int.add_comm]
theorem Back.bd {n : Nat} {a : List (List Int)} {fr u : Nat} {sum : Int} {m : Nat} (h : Back n a fr u sum m) (hE : ∀ i j, i < n → j < n → gm a i j ≠ -1125899906842624 → -10 ≤ gm a i j ∧ gm a i j ≤ 29) : -10 * (m : Int) ≤ sum ∧ sum ≤ 29 * (m : Int) := by
  obtain ⟨f, hf, _, _, rfl⟩ := h
  exact ⟨sw_lo (fun i j hi hj hn => (hE i j hi hj hn).1) hf 0 m (by omega), sw_hi (fun i j hi hj hn => (hE i j hi hj hn).2) hf 0 m (by omega)⟩
/-- closed: a value that is taken -/
theorem Back.gen {n : Nat} {a : List (List Int)} {fr : Nat} {sum : Int} {m : Nat} (h : Back n a fr fr sum m) (hb : Go.Proofs.Ythmnalaeckfaaaa.Bd 29 a n) (hE : ∀ i j, i < n → j < n → gm a i j ≠ -1125899906842624 → -10 ≤ gm a i j ∧ gm a i j ≤ 29) (hm : 1 ≤ m ∧ m ≤ n) (hn : n ≤ 12) : Gen n a sum m := by
  have hbd := h.bd hE
  obtain ⟨f, hf, f0, fm, hs⟩ := h
  have h1 := pow_ge (B := 29) (by omega) hb hf (by omega)
  rw [f0, fm, hs] at h1
  exact .inr ⟨m, fr, rfl, hm.1, hm.2, by rw [← f0]; exact hf.lt 0 (by omega), h1.1, h1.2, hbd.1, hbd.2⟩
/-- the search so far: the next nodes below b are done -/
structure SeI (n : Nat) (a : List (List Int)) (fr : Nat) (S : List Bool) (u : Nat) (sum : Int) (m : Nat) (nu0 de0 : Int) (b : Nat) (nu de : Int) : Prop where
  d0 : 0 ≤ de0
  gen : Gen n a nu de
  le : Lef nu0 de0 nu de
  ext : ∀ js w, Ext n a fr S u js w → js.headD fr < b → Lef (sum + w) ((m : Int) + (js.length : Int) + 1) nu de
section
variable {n : Nat} {a : List (List Int)} {fr : Nat} {S : List Bool} {u : Nat} {sum : Int} {m : Nat} {nu0 de0 : Int} {b : Nat} {nu de : Int}
theorem SeI.start (h : Gen n a nu0 de0) : SeI n a fr S u sum m nu0 de0 0 nu0 de0 := ⟨h.d.1, h, Lef.refl _ _, fun _ _ _ h => absurd h (by omega)⟩
theorem SeI.skip (h : SeI n a fr S u sum m nu0 de0 b nu de) (hs : gm a b u = -1125899906842624 ∨ b < fr ∨ (S.getD b false = true ∧ b ≠ fr)) : SeI n a fr S u sum m nu0 de0 (b + 1) nu de := by
  refine ⟨h.d0, h.gen, h.le, fun js w he hlt => ?_⟩
  by_cases e : js.headD fr = b
  · exfalso
    cases js with
    | nil =>
      simp at e
      subst e
      rcases hs with hs | hs | hs
      · exact he.1 hs
      · omega
      · exact hs.2 rfl
    | cons j js =>
      simp at e
      subst e
      obtain ⟨h1, _, h3, h4, _⟩ := he
      rcases hs with hs | hs | hs
      · exact h4 hs
      · omega
      · rw [h3] at hs; cases hs.1
  · exact h.ext js w he (by omega)
theorem SeI.turn {nu' de' : Int} (h : SeI n a fr S u sum m nu0 de0 b nu de) (hle : Lef nu de nu' de') (hg : Gen n a nu' de') (hx : ∀ js w, Ext n a fr S u js w → js.headD fr = b → Lef (sum + w) ((m : Int) + (js.length : Int) + 1) nu' de') : SeI n a fr S u sum m nu0 de0 (b + 1) nu' de' := by
  have hd := h.gen.d
  have hd' := hg.d
  refine ⟨h.d0, hg, h.le.trans hle h.d0 hd.1 hd'.1, fun js w he hlt => ?_⟩
  by_cases e : js.headD fr = b
  · exact hx js w he e
  · exact (h.ext js w he (by omega)).trans hle (by omega) hd.1 hd'.1
theorem SeI.close (h : SeI n a fr S u sum m nu0 de0 fr nu de) (hg : Gen n a (sum + gm a fr u) ((m : Int) + 1)) (hup : de = 0 ∨ nu * ((m : Int) + 1) < (sum + gm a fr u) * de) : SeI n a fr S u sum m nu0 de0 (fr + 1) (sum + gm a fr u) ((m : Int) + 1) := by
  have hd := h.gen.d
  refine h.turn ?_ hg fun js w he e => ?_
  · rcases hup with h1 | h1
    · exact .inl h1
    · exact .inr ⟨by omega, by omega⟩
  · cases js with
    | nil =>
      obtain ⟨_, rfl⟩ := he
      simp
      exact Lef.refl _ _
    | cons j js =>
      simp at e
      obtain ⟨h1, _⟩ := he
      omega
theorem SeI.leave (h : SeI n a fr S u sum m nu0 de0 fr nu de) (hup : ¬ (de = 0 ∨ nu * ((m : Int) + 1) < (sum + gm a fr u) * de)) : SeI n a fr S u sum m nu0 de0 (fr + 1) nu de := by
  refine h.turn (Lef.refl _ _) h.gen fun js w he e => ?_
  cases js with
  | nil =>
    obtain ⟨_, rfl⟩ := he
    right
    refine ⟨fun h => hup (.inl h), ?_⟩
    have : ¬ nu * ((m : Int) + 1) < (sum + gm a fr u) * de := fun h => hup (.inr h)
    simp
    omega
  | cons j js =>
    simp at e
    obtain ⟨h1, _⟩ := he
    omega
theorem SeI.into {nu' de' : Int} (h : SeI n a fr S u sum m nu0 de0 b nu de) (hb : fr < b) (h' : SeI n a fr (S.set b true) b (sum + gm a b u) (m + 1) nu de n nu' de') (hfr : fr < n) : SeI n a fr S u sum m nu0 de0 (b + 1) nu' de' := by
  refine h.turn h'.le h'.gen fun js w he e => ?_
  cases js with
  | nil => simp at e; omega
  | cons j js =>
    simp at e
    subst e
    obtain ⟨_, _, _, _, w', he', rfl⟩ := he
    have hh : js.headD fr < n := by
      cases js with
      | nil => exact hfr
      | cons i js => exact he'.2.1
    have h1 := h'.ext js w' he' hh
    have e1 : sum + (gm a j u + w') = sum + gm a j u + w' := by omega
    have e2 : (m : Int) + ((j :: js).length : Int) + 1 = ((m + 1 : Nat) : Int) + (js.length : Int) + 1 := by simp; omega
    rw [e1, e2]
    exact h1
end
theorem Ext.head {n : Nat} {a : List (List Int)} {fr : Nat} {S : List Bool} {u : Nat} {js : List Nat} {w : Int} (h : Ext n a fr S u js w) (hfr : fr < n) : js.headD fr < n := by
  cases js with
  | nil => exact hfr
  | cons j js => exact h.2.1
/-- the best of all cycles is the mean -/
theorem best_mean {n : Nat} {a : List (List Int)} (_hn : n ≤ 12) {nu de : Int} (hg : Gen n a nu de) (hall : ∀ fr, fr < n → ∀ js w, Ext n a fr (List.replicate n false) fr js w → Lef w ((js.length : Int) + 1) nu de) : (de = 0 ∧ (grAll n a n).den = 0) ∨ (de ≠ 0 ∧ (grAll n a n).den ≠ 0 ∧ (meanG (grAll n a n)).1 * de = nu * (meanG (grAll n a n)).2.1) := by
  have hI := grAll_inv n a n
  have hd := hg.d
  have key : ∀ k i, 1 ≤ k → k ≤ n → i < n → Wk n a k i ≠ -1125899906842624 → de ≠ 0 ∧ Wk n a k i * de ≤ nu * k := fun k i h1 h2 h3 h4 => by
    obtain ⟨f, f0, fk, hp, hs⟩ := pow_path h3 h3 h4
    obtain ⟨fr, js, w, hfr, hx, hle⟩ := cyc_of k k f (Nat.le_refl _) h1 hp (by rw [f0, fk])
    rcases hall fr hfr js w hx with h5 | ⟨h5, h6⟩
    · omega
    · refine ⟨h5, ?_⟩
      rw [hs] at hle
      have e : gm (powM n a k) i i = Wk n a k i := rfl
      rw [e] at hle
      have c : (Wk n a k i * de) * ((js.length : Int) + 1) ≤ (nu * k) * ((js.length : Int) + 1) := by
        have d1 := Int.mul_le_mul_of_nonneg_right hle hd.1
        have d2 := Int.mul_le_mul_of_nonneg_right h6 (show (0 : Int) ≤ (k : Int) by omega)
        have g1 : (Wk n a k i * de) * ((js.length : Int) + 1) = Wk n a k i * ((js.length : Int) + 1) * de := by rw [Int.mul_assoc, Int.mul_comm de, ← Int.mul_assoc]
        have g2 : (nu * k) * ((js.length : Int) + 1) = nu * ((js.length : Int) + 1) * k := by rw [Int.mul_assoc, Int.mul_comm (k : Int), ← Int.mul_assoc]
        have g3 : w * (k : Int) * de = w * de * k := by rw [Int.mul_assoc, Int.mul_comm (k : Int), ← Int.mul_assoc]
        rw [g1, g2]
        omega
      exact Int.le_of_mul_le_mul_right c (by omega)
  by_cases h0 : (grAll n a n).den = 0
  · left
    refine ⟨?_, h0⟩
    rcases hg with ⟨_, h⟩ | ⟨k, i, rfl, h1, h2, h3, h4, _⟩
    · exact h
    · exact absurd (hI.z h0 k i ⟨h1, h2, h3⟩) h4
  · right
    obtain ⟨k, i, ⟨k1, k2, k3⟩, hw, e1, e2⟩ := hI.at_ h0
    obtain ⟨hde, hle⟩ := key k i k1 k2 k3 hw
    refine ⟨hde, h0, ?_⟩
    obtain ⟨g, hgp, m1, m2, hp, _, _⟩ := meanG_low hI.d h0
    rw [← e1, ← e2] at hle
    have hge : nu * (grAll n a n).den ≤ (grAll n a n).num * de := by
      rcases hg with ⟨_, h⟩ | ⟨k', i', rfl, h1, h2, h3, h4, h5, _⟩
      · exact absurd h hde
      · have := hI.le h0 k' i' ⟨h1, h2, h3⟩ h4
        have := Int.mul_le_mul_of_nonneg_right h5 hI.d
        omega
    have heq : (grAll n a n).num * de = nu * (grAll n a n).den := by omega
    rw [m1, m2] at heq
    have c : ((meanG (grAll n a n)).1 * de) * g = (nu * (meanG (grAll n a n)).2.1) * g := by
      have g1 : ((meanG (grAll n a n)).1 * de) * g = (meanG (grAll n a n)).1 * g * de := by rw [Int.mul_assoc, Int.mul_comm de, ← Int.mul_assoc]
      rw [g1, heq, Int.mul_assoc]
    exact Int.eq_of_mul_eq_mul_right (by omega) c
end Go.Proofs.Ythmnalaeckfaaaa
