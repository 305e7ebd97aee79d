import Derived.Test.YtddkfdfgfkejoaaDlyMath4
namespace Go.Proofs.Ytddkfdfgfkejoaa

/-- the times while they are raised: moments before i done, of the waits to i the first j -/
structure OT (n : Nat) (ws : List Wt) (i j : Nat) (ms : List Mom) : Prop where
  len : ms.length = n
  bd : ∀ x : Nat, x < n → 0 ≤ tm ms x ∧ tm ms x ≤ 150 + 40 * x
  lo : ∀ k ∈ ws, k.tt < i → tm ms k.fr + k.mn ≤ tm ms k.tt
  cur : ∀ k ∈ ws.take j, k.tt = i → tm ms k.fr + k.mn ≤ tm ms k.tt
theorem tm_set (ms : List Mom) (i : Nat) (y : Mom) (x : Int) (hx : 0 ≤ x) (hi : i < ms.length) : tm (ms.set i y) x = if x = i then y.time else tm ms x := by
  unfold tm
  rw [List.getD_eq_getElem?_getD, List.getD_eq_getElem?_getD, List.getElem?_set]
  by_cases h : x = i
  · rw [if_pos (by omega), if_pos h, if_pos hi]; rfl
  · rw [if_neg (by omega), if_neg h]
theorem OT.start (n : Nat) (ws : List Wt) (ms : List Mom) (hl : ms.length = n) (hb : ∀ x ∈ ms, 0 ≤ x.time ∧ x.time ≤ 150) (hw : ∀ k ∈ ws, 0 ≤ k.fr ∧ k.fr < k.tt) : OT n ws 0 0 ms :=
  ⟨hl, fun x hx => by
    rw [tm_nat ms x (by omega)]
    have := hb ms[x] (List.getElem_mem _)
    omega, fun k hk h => by have := hw k hk; omega, fun k hk => by simp at hk⟩
theorem OT.skip {n : Nat} {ws : List Wt} {i j : Nat} {ms : List Mom} (h : OT n ws i j ms) (hj : j < ws.length) (e : ws[j].tt ≠ (i : Int)) : OT n ws i (j + 1) ms :=
  ⟨h.len, h.bd, h.lo, fun k hk e' => by
    rw [List.take_succ_eq_append_getElem hj] at hk
    rcases List.mem_append.1 hk with hk | hk
    · exact h.cur k hk e'
    · simp at hk; subst hk; exact absurd e' e⟩
theorem OT.raise {n : Nat} {ws : List Wt} {i j : Nat} {ms : List Mom} (h : OT n ws i j ms) (hj : j < ws.length) (e : ws[j].tt = (i : Int)) (hi : i < n) (hw : ∀ k ∈ ws, 0 ≤ k.fr ∧ k.fr < k.tt ∧ 0 ≤ k.mn ∧ k.mn < 40) (v : Int) (b : Bool) (hv : tm ms i ≤ v ∧ tm ms ws[j].fr + ws[j].mn ≤ v ∧ (v = tm ms i ∨ v = tm ms ws[j].fr + ws[j].mn)) : OT n ws i (j + 1) (ms.set i ⟨v, b⟩) := by
  have hl := h.len
  have hwj := hw _ (List.getElem_mem hj)
  have hbi := h.bd i hi
  have hbf := h.bd ws[j].fr.toNat (by omega)
  rw [show ((ws[j].fr.toNat : Nat) : Int) = ws[j].fr by omega] at hbf
  have cur : ∀ k ∈ ws.take j, k.tt = i → tm (ms.set i ⟨v, b⟩) k.fr + k.mn ≤ tm (ms.set i ⟨v, b⟩) k.tt := fun k hk e' => by
    have hwk := hw k (List.mem_of_mem_take hk)
    have := h.cur k hk e'
    rw [tm_set ms i _ k.fr (by omega) (by omega), tm_set ms i _ k.tt (by omega) (by omega), if_neg (by omega), if_pos e']
    rw [e'] at this
    simp only
    omega
  refine ⟨by simp [hl], fun x hx => ?_, fun k hk h1 => ?_, fun k hk e' => ?_⟩
  · rw [tm_set ms i _ x (by omega) (by omega)]
    have := h.bd x hx
    split
    · have : x = i := by omega
      subst this
      simp only
      omega
    · exact this
  · have hwk := hw k hk
    rw [tm_set ms i _ k.fr (by omega) (by omega), tm_set ms i _ k.tt (by omega) (by omega), if_neg (by omega), if_neg (by omega)]
    exact h.lo k hk h1
  · rw [List.take_succ_eq_append_getElem hj] at hk
    rcases List.mem_append.1 hk with hk | hk
    · exact cur k hk e'
    · simp at hk
      subst hk
      rw [tm_set ms i _ _ (by omega) (by omega), tm_set ms i _ _ (by omega) (by omega), if_neg (by omega), if_pos e]
      simp only
      omega
theorem OT.next {n : Nat} {ws : List Wt} {i j : Nat} {ms : List Mom} (h : OT n ws i j ms) (hj : ws.length ≤ j) : OT n ws (i + 1) 0 ms :=
  ⟨h.len, h.bd, fun k hk h1 => by
    by_cases e : k.tt = (i : Int)
    · exact h.cur k (by rw [List.take_of_length_le hj]; exact hk) e
    · exact h.lo k hk (by omega), fun k hk => by simp at hk⟩
end Go.Proofs.Ytddkfdfgfkejoaa
