import Derived.Test.YtddkfdfgfkejoaaDlyMath7
namespace Go.Proofs.Ytddkfdfgfkejoaa

/-- the least number from m on of a wait that explains -/
def RBy (P : Nat → Bool) (n m : Nat) (v : Int) : Prop :=
  (v = -1 ∧ ∀ a, m ≤ a → a < n → P a = false) ∨ ∃ b : Nat, v = b ∧ m ≤ b ∧ b < n ∧ P b = true ∧ ∀ a, m ≤ a → a < b → P a = false
theorem RBy.start (P : Nat → Bool) (n : Nat) : RBy P n n (-1) := .inl ⟨rfl, fun a h1 h2 => by omega⟩
theorem RBy.no {P : Nat → Bool} {n m : Nat} {v : Int} (h : RBy P n (m + 1) v) (hp : P m = false) : RBy P n m v := by
  have key : ∀ a, m ≤ a → ¬ m + 1 ≤ a → P a = false := fun a h1 h2 => by
    obtain rfl : a = m := by omega
    exact hp
  rcases h with ⟨e, h⟩ | ⟨b, e, h1, h2, h3, h4⟩
  · exact .inl ⟨e, fun a ha hn => by
      by_cases hc : m + 1 ≤ a
      · exact h a hc hn
      · exact key a ha hc⟩
  · exact .inr ⟨b, e, by omega, h2, h3, fun a ha hb => by
      by_cases hc : m + 1 ≤ a
      · exact h4 a hc hb
      · exact key a ha hc⟩
theorem RBy.yes {P : Nat → Bool} {n m : Nat} {v : Int} (_h : RBy P n (m + 1) v) (hm : m < n) (hp : P m = true) : RBy P n m m :=
  .inr ⟨m, rfl, Nat.le_refl _, hm, hp, fun a h1 h2 => by omega⟩
theorem RBy.rsn {ms : List Mom} {ws : List Wt} {base sec : List Int} {kept : List Bool} {i : Int} {v : Int} (h : RBy (fun a => rsB ws base sec kept i a && !blkB ms base i) ws.length 0 v) : v = rsnV ms ws base sec kept i := by
  unfold rsnV
  cases hb : blkB ms base i
  · rcases h with ⟨e, h⟩ | ⟨b, e, h1, h2, h3, h4⟩
    · rw [rsn_none (fun a ha => by have := h a (by omega) ha; rw [hb] at this; simpa using this)]
      exact e
    · rw [rsn_some hb b h2 (by rw [hb] at h3; simpa using h3) (fun a ha => by have := h4 a (by omega) ha; rw [hb] at this; simpa using this)]
      exact e
  · rw [rsn_blk hb]
    rcases h with ⟨e, h⟩ | ⟨b, e, h1, h2, h3, h4⟩
    · exact e
    · rw [hb] at h3; simp at h3
theorem rsn_cases (ms : List Mom) (ws : List Wt) (base sec : List Int) (kept : List Bool) (i : Int) : (rsnV ms ws base sec kept i = -1 ∧ Chain ms ws base sec kept i []) ∨
    ∃ (a : Nat) (ha : a < ws.length), rsnV ms ws base sec kept i = a ∧ ws[a].tt = i ∧ kept.getD a false = true ∧ gi sec ws[a].fr + ws[a].mn = gi base i ∧ ∀ L, Chain ms ws base sec kept ws[a].fr L → Chain ms ws base sec kept i ((a : Int) :: L) := by
  cases h : rsn ms ws base sec kept i with
  | none => exact .inl ⟨by unfold rsnV; rw [h], .stop h⟩
  | some a =>
    obtain ⟨_, ha, h3⟩ := rsn_get h
    rw [rsB_get ha] at h3
    simp at h3
    exact .inr ⟨a, ha, by unfold rsnV; rw [h], h3.1, by simpa using h3.2.1, h3.2.2, fun L hL => .step h hL⟩
/-- what a chain says of its waits -/
def Links (ws : List Wt) (base sec : List Int) (kept : List Bool) : Int → List Int → Prop
  | _, [] => True
  | i, x :: L => ∃ (a : Nat) (ha : a < ws.length), x = a ∧ ws[a].tt = i ∧ kept.getD a false = true ∧ gi sec ws[a].fr + ws[a].mn = gi base i ∧ Links ws base sec kept ws[a].fr L
theorem Chain.links {ms : List Mom} {ws : List Wt} {base sec : List Int} {kept : List Bool} {i : Int} {L : List Int} (h : Chain ms ws base sec kept i L) : Links ws base sec kept i L := by
  induction h with
  | stop h => trivial
  | step h hc ih =>
    obtain ⟨_, ha, h3⟩ := rsn_get h
    rw [rsB_get ha] at h3
    simp at h3
    exact ⟨_, ha, rfl, h3.1, by simpa using h3.2.1, h3.2.2, ih⟩
end Go.Proofs.Ytddkfdfgfkejoaa
