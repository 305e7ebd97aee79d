namespace Go.Proofs.Ytbmbdenjlbelaaa
theorem fill_set {α : Type} (L : List α) (z : α) (i : Nat) (h : i < L.length) : (L.take i ++ List.replicate (L.length - i) z).set i L[i] = L.take (i + 1) ++ List.replicate (L.length - (i + 1)) z := by
  apply List.ext_getElem?
  intro j
  rw [List.getElem?_set]
  by_cases e : i = j
  · subst e
    rw [if_pos rfl, if_pos (by simp; omega), List.getElem?_append_left (by simp; omega), List.getElem?_take, if_pos (by omega), List.getElem?_eq_getElem h]
  · rw [if_neg e]
    rcases Nat.lt_or_ge j i with hlt | hge
    · rw [List.getElem?_append_left (by simp; omega), List.getElem?_append_left (by simp; omega), List.getElem?_take, List.getElem?_take, if_pos hlt, if_pos (by omega)]
    · rw [List.getElem?_append_right (by simp; omega), List.getElem?_append_right (by simp; omega), List.getElem?_replicate, List.getElem?_replicate]
      simp only [List.length_take, Nat.min_eq_left (Nat.le_of_lt h), Nat.min_eq_left (show i + 1 ≤ L.length from h)]
      by_cases hj : j < L.length
      · rw [if_pos (by omega), if_pos (by omega)]
      · rw [if_neg (by omega), if_neg (by omega)]
theorem fill_zero {α : Type} (L : List α) (z : α) (n : Nat) (h : L.length = n) : List.replicate n z = L.take 0 ++ List.replicate (L.length - 0) z := by simp [h]
theorem fill_all {α : Type} (L : List α) (z : α) (i : Nat) (h : L.length ≤ i) : L.take i ++ List.replicate (L.length - i) z = L := by
  rw [List.take_of_length_le h, Nat.sub_eq_zero_of_le h]; simp
theorem fill_get {α : Type} (L : List α) (z : α) (i : Nat) (h : i < L.length) : (L.take i ++ List.replicate (L.length - i) z).length = L.length := by simp; omega
theorem fill_len {α : Type} (L : List α) (z : α) (i : Nat) (h : i ≤ L.length) : (L.take i ++ List.replicate (L.length - i) z).length = L.length := by simp; omega
end Go.Proofs.Ytbmbdenjlbelaaa
