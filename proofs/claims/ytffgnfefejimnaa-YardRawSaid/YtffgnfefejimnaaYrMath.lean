import Derived.Test.YtffgnfefejimnaaYdLaw2
namespace Go.Proofs.Ytffgnfefejimnaa
/-! The reference's state: the rows hold the units' numbers, and a list holds the moves that came in. -/
structure RefOk (us : List Mv) (s : Yst) : Prop where
  x : s.nx = us.length
  u : ∀ v ∈ s.on.flatten, us[v.num]? = some ⟨true, v.kind, v.ln⟩
theorem ref_beg (T : List Tk) : RefOk [] (begY T) := ⟨rfl, fun v hv => by simp [begY] at hv⟩
theorem ref_row {us : List Mv} {s : Yst} (h : RefOk us s) {t : Nat} (ht : t < s.on.length) : ∀ v ∈ rowY s t, us[v.num]? = some ⟨true, v.kind, v.ln⟩ := fun v hv =>
  h.u v (List.mem_flatten.2 ⟨rowY s t, rowY_mem ht, hv⟩)
theorem ref_in {T : List Tk} {m : Mv} {t : Nat} {s s' : Yst} {u : Un} {us : List Mv} (hin : m.inn = true) (ht : t < s.on.length) (h : RefOk us s) (ha : actY T m t s = some (u, s')) : u.num = us.length ∧ RefOk (us ++ [m]) s' := by
  rw [actY_in hin] at ha
  split at ha
  · injection ha with ha
    injection ha with h1 h2
    subst h1 h2
    obtain ⟨rest, p1, p2⟩ := flat_set s.on t ht
    refine ⟨h.x, ⟨by simp [h.x], fun v hv => ?_⟩⟩
    have hv2 := (p2 _).mem_iff.1 hv
    have old : ∀ q ∈ s.on.flatten, (us ++ [m])[q.num]? = some ⟨true, q.kind, q.ln⟩ := fun q hq => by
      have a := h.u q hq
      obtain ⟨hl, _⟩ := List.getElem?_eq_some_iff.1 a
      rw [List.getElem?_append_left hl]; exact a
    rcases List.mem_append.1 hv2 with hv2 | hv2
    · rcases List.mem_append.1 hv2 with hv2 | hv2
      · exact old v (p1.mem_iff.2 (List.mem_append_left _ (by rw [← rowY_get ht]; exact hv2)))
      · simp only [List.mem_singleton] at hv2
        subst hv2
        simp only [h.x]
        obtain ⟨inn, kd, ln⟩ := m
        simp only at hin
        subst hin
        simp
    · exact old v (p1.mem_iff.2 (List.mem_append_right _ hv2))
  · cases ha
theorem ref_out {T : List Tk} {m : Mv} {t : Nat} {s s' : Yst} {u : Un} {us : List Mv} (hin : m.inn = false) (ht : t < s.on.length) (h : RefOk us s) (ha : actY T m t s = some (u, s')) : RefOk us s' := by
  unfold actY at ha
  rw [if_neg (by simp [hin])] at ha
  split at ha
  · cases ha
  · split at ha
    · injection ha with ha
      injection ha with _ h2
      subst h2
      obtain ⟨rest, p1, p2⟩ := flat_set s.on t ht
      refine ⟨h.x, fun v hv => ?_⟩
      rcases List.mem_append.1 ((p2 _).mem_iff.1 hv) with hv2 | hv2
      · exact ref_row h ht v (List.mem_of_mem_eraseIdx hv2)
      · exact h.u v (p1.mem_iff.2 (List.mem_append_right _ hv2))
    · cases ha
end Go.Proofs.Ytffgnfefejimnaa
