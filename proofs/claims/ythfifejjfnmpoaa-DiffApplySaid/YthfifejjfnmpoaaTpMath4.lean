import Derived.Test.YthfifejjfnmpoaaTpMath3
namespace Go.Proofs.Ythfifejjfnmpoaa
/-! The reference's perform keeps a list valid. -/
theorem filter_asc {l : List PT} (p : PT → Bool) (h : Asc l) : Asc (l.filter p) := List.Pairwise.sublist List.filter_sublist h
theorem okE_new {e : PE} (h : okE e = true) (h2 : e.k ≠ 2) : okT e.n = true := by
  unfold okE at h
  by_cases h1 : e.k = 1
  · rw [if_pos h1] at h
    simp only [Bool.and_eq_true] at h; exact h.2
  · rw [if_neg h1, if_neg h2] at h
    by_cases h3 : e.k = 3
    · rw [if_pos h3] at h
      simp only [Bool.and_eq_true] at h; exact h.1.1.2
    · rw [if_neg h3] at h; cases h
theorem perR_asc {l : List PT} {e : PE} (hl : Asc l) (he : okE e = true) : Asc (perR l e).2 := by
  unfold perR
  cases hf : findT l (keyE e) with
  | none =>
    simp only
    by_cases h1 : e.k = 1
    · rw [if_pos h1]
      refine insT_asc hl fun x hx hc => findT_none.1 hf x hx ?_
      have hk := ok_new he (by omega)
      exact ⟨by have := hc.1; have := hk.1; omega, by have := hc.2; have := hk.2; omega⟩
    · rw [if_neg h1]; exact List.Pairwise.nil
  | some x =>
    simp only
    by_cases h1 : e.k = 1
    · rw [if_pos h1]; exact List.Pairwise.nil
    · rw [if_neg h1]
      by_cases h3 : eqT x e.o = true
      · rw [if_pos h3]
        simp only
        by_cases h2 : e.k = 2
        · rw [if_pos h2]; exact filter_asc _ hl
        · rw [if_neg h2]
          refine insT_asc (filter_asc _ hl) fun y hy hc => ?_
          have hk := ok_new he h2
          have := (List.mem_filter.1 hy).2
          simp at this
          exact this ⟨by have := hc.1; have := hk.1; omega, by have := hc.2; have := hk.2; omega⟩
      · rw [if_neg h3]; exact List.Pairwise.nil
theorem perR_ok {l : List PT} {e : PE} (hl : ∀ x ∈ l, okT x = true) (he : okE e = true) : ∀ x ∈ (perR l e).2, okT x = true := by
  unfold perR
  cases hf : findT l (keyE e) with
  | none =>
    simp only
    by_cases h1 : e.k = 1
    · rw [if_pos h1]
      intro x hx
      rcases insT_mem.1 hx with rfl | hx
      · exact okE_new he (by omega)
      · exact hl x hx
    · rw [if_neg h1]; intro x hx; simp at hx
  | some y =>
    simp only
    by_cases h1 : e.k = 1
    · rw [if_pos h1]; intro x hx; simp at hx
    · rw [if_neg h1]
      by_cases h3 : eqT y e.o = true
      · rw [if_pos h3]
        simp only
        by_cases h2 : e.k = 2
        · rw [if_pos h2]; exact fun x hx => hl x (List.mem_filter.1 hx).1
        · rw [if_neg h2]
          intro x hx
          rcases insT_mem.1 hx with rfl | hx
          · exact okE_new he h2
          · exact hl x (List.mem_filter.1 hx).1
      · rw [if_neg h3]; intro x hx; simp at hx
theorem appR_S {es : List PE} {l : List PT} (hl : Asc l) (hs : AscE es) (ho : ∀ e ∈ es, okE e = true) : appR l es = if (appS l es).1 = 0 then (0, (appS l es).2) else ((appS l es).1, []) := by
  have := app_eq es l [] (by simpa using hl) (fun x hx => by simp at hx) hs ho
  rw [List.nil_append] at this
  rw [this]
  unfold preR
  simp
end Go.Proofs.Ythfifejjfnmpoaa
