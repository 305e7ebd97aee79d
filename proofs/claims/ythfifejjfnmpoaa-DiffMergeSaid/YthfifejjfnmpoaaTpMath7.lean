import Derived.Test.YthfifejjfnmpoaaTpMath6
namespace Go.Proofs.Ythfifejjfnmpoaa
/-! Two lists of edits, merged: what is performed, and what clashes. -/
def mgM : List PE → List PE → List PE × List PE
  | [], s => (s, [])
  | x :: f, [] => (x :: (mgM f []).1, (mgM f []).2)
  | x :: f, y :: s =>
    if ltK (keyE x) (keyE y) then (x :: (mgM f (y :: s)).1, (mgM f (y :: s)).2)
    else if ltK (keyE y) (keyE x) then (y :: (mgM (x :: f) s).1, (mgM (x :: f) s).2)
    else (x :: (mgM f s).1, if eqE x y = true then (mgM f s).2 else y :: (mgM f s).2)
termination_by f s => f.length + s.length
theorem mg_nil (s : List PE) : mgM [] s = (s, []) := by rw [mgM]
theorem mg_a (x : PE) (f : List PE) : mgM (x :: f) [] = (x :: (mgM f []).1, (mgM f []).2) := by rw [mgM]
theorem mg_lt {x y : PE} {f s : List PE} (h : ltK (keyE x) (keyE y)) : mgM (x :: f) (y :: s) = (x :: (mgM f (y :: s)).1, (mgM f (y :: s)).2) := by rw [mgM, if_pos h]
theorem mg_gt {x y : PE} {f s : List PE} (h : ltK (keyE y) (keyE x)) : mgM (x :: f) (y :: s) = (y :: (mgM (x :: f) s).1, (mgM (x :: f) s).2) := by rw [mgM, if_neg (ltK_asymm h), if_pos h]
theorem mg_eq {x y : PE} {f s : List PE} (h : eqK (keyE x) (keyE y)) (he : eqE x y = true) : mgM (x :: f) (y :: s) = (x :: (mgM f s).1, (mgM f s).2) := by
  rw [mgM, if_neg (fun h' => ltK_neq h' h), if_neg (fun h' => gtK_neq h' h), if_pos he]
theorem mg_ne {x y : PE} {f s : List PE} (h : eqK (keyE x) (keyE y)) (he : ¬ eqE x y = true) : mgM (x :: f) (y :: s) = (x :: (mgM f s).1, y :: (mgM f s).2) := by
  rw [mgM, if_neg (fun h' => ltK_neq h' h), if_neg (fun h' => gtK_neq h' h), if_neg he]
/-- the key of e among the first edits -/
def findE (f : List PE) (e : PE) : Option PE := f.find? fun x => decide (eqK (keyE x) (keyE e))
theorem findE_none {f : List PE} {e : PE} : findE f e = none ↔ ∀ x ∈ f, ¬ eqK (keyE x) (keyE e) := by
  unfold findE
  rw [List.find?_eq_none]
  simp
theorem findE_some {f : List PE} {e x : PE} (h : findE f e = some x) : x ∈ f ∧ eqK (keyE x) (keyE e) := by
  unfold findE at h
  exact ⟨List.mem_of_find?_eq_some h, by simpa using List.find?_some h⟩
def clashB (f : List PE) (e : PE) : Bool := match findE f e with
  | some x => !eqE x e
  | none => false
theorem find_cons_lt {x y : PE} {f : List PE} (h : ltK (keyE x) (keyE y)) : findE (x :: f) y = findE f y := by
  unfold findE
  rw [List.find?_cons_of_neg (by simpa using ltK_neq h)]
theorem find_cons_eq {x y : PE} {f : List PE} (h : eqK (keyE x) (keyE y)) : findE (x :: f) y = some x := by
  unfold findE
  rw [List.find?_cons_of_pos (by simpa using h)]
theorem find_low {y : PE} {f : List PE} (h : ∀ x ∈ f, ltK (keyE y) (keyE x)) : findE f y = none := findE_none.2 fun x hx => gtK_neq (h x hx)
/-- in order: the clashes are those of the second list whose key the first one has with another edit; what is performed is the first one and the rest -/
theorem mg_spec : ∀ (f s : List PE), AscE f → AscE s → (mgM f s).2 = s.filter (clashB f) ∧ AscE (mgM f s).1 ∧ ∀ e, e ∈ (mgM f s).1 ↔ e ∈ f ∨ (e ∈ s ∧ findE f e = none)
  | [], s, _, hs => by
    rw [mg_nil]
    refine ⟨?_, hs, fun e => ?_⟩
    · symm
      rw [List.filter_eq_nil_iff]
      intro a _
      simp [clashB, findE]
    · simp [findE]
  | x :: f, [], hf, hs => by
    obtain ⟨h1, h2⟩ := List.pairwise_cons.1 hf
    obtain ⟨i1, i2, i3⟩ := mg_spec f [] h2 hs
    rw [mg_a]
    refine ⟨by rw [i1]; rfl, List.pairwise_cons.2 ⟨fun e he => ?_, i2⟩, fun e => ?_⟩
    · rcases (i3 e).1 he with h | h
      · exact h1 e h
      · simp at h
    · simp only [List.mem_cons, i3 e, List.not_mem_nil, false_and, or_false]
  | x :: f, y :: s, hf, hs => by
    obtain ⟨h1, h2⟩ := List.pairwise_cons.1 hf
    obtain ⟨g1, g2⟩ := List.pairwise_cons.1 hs
    by_cases hlt : ltK (keyE x) (keyE y)
    · obtain ⟨i1, i2, i3⟩ := mg_spec f (y :: s) h2 hs
      have hall : ∀ e ∈ y :: s, ltK (keyE x) (keyE e) := fun e he => by
        rcases List.mem_cons.1 he with rfl | he
        · exact hlt
        · exact ltK_trans hlt (g1 e he)
      rw [mg_lt hlt]
      refine ⟨?_, List.pairwise_cons.2 ⟨fun e he => ?_, i2⟩, fun e => ?_⟩
      · rw [i1]
        refine List.filter_congr fun e he => ?_
        unfold clashB
        rw [find_cons_lt (hall e he)]
      · rcases (i3 e).1 he with h | h
        · exact h1 e h
        · exact hall e h.1
      · rw [List.mem_cons, List.mem_cons, i3 e]
        constructor
        · rintro (h | h | ⟨h, h'⟩)
          · exact .inl (.inl h)
          · exact .inl (.inr h)
          · exact .inr ⟨h, by rw [find_cons_lt (hall e h)]; exact h'⟩
        · rintro ((h | h) | ⟨h, h'⟩)
          · exact .inl h
          · exact .inr (.inl h)
          · exact .inr (.inr ⟨h, by rw [find_cons_lt (hall e h)] at h'; exact h'⟩)
    · by_cases hgt : ltK (keyE y) (keyE x)
      · obtain ⟨i1, i2, i3⟩ := mg_spec (x :: f) s hf g2
        have hy : findE (x :: f) y = none := find_low fun e he => by
          rcases List.mem_cons.1 he with rfl | he
          · exact hgt
          · exact ltK_trans hgt (h1 e he)
        rw [mg_gt hgt]
        refine ⟨?_, List.pairwise_cons.2 ⟨fun e he => ?_, i2⟩, fun e => ?_⟩
        · rw [i1, List.filter_cons_of_neg (by simp [clashB, hy])]
        · rcases (i3 e).1 he with h | h
          · rcases List.mem_cons.1 h with rfl | h
            · exact hgt
            · exact ltK_trans hgt (h1 e h)
          · exact g1 e h.1
        · rw [List.mem_cons, i3 e, List.mem_cons (a := e) (b := y)]
          constructor
          · rintro (rfl | h | ⟨h, h'⟩)
            · exact .inr ⟨.inl rfl, hy⟩
            · exact .inl h
            · exact .inr ⟨.inr h, h'⟩
          · rintro (h | ⟨rfl | h, h'⟩)
            · exact .inr (.inl h)
            · exact .inl rfl
            · exact .inr (.inr ⟨h, h'⟩)
      · have heq := eqK_of hlt hgt
        obtain ⟨i1, i2, i3⟩ := mg_spec f s h2 g2
        have hall : ∀ e ∈ s, ltK (keyE x) (keyE e) := fun e he => eq_ltK heq (g1 e he)
        have hfil : s.filter (clashB (x :: f)) = s.filter (clashB f) := List.filter_congr fun e he => by
          unfold clashB
          rw [find_cons_lt (hall e he)]
        have hasc : AscE (x :: (mgM f s).1) := List.pairwise_cons.2 ⟨fun e he => by
          rcases (i3 e).1 he with h | h
          · exact h1 e h
          · exact hall e h.1, i2⟩
        have hmem : ∀ e, e ∈ x :: (mgM f s).1 ↔ e ∈ x :: f ∨ (e ∈ y :: s ∧ findE (x :: f) e = none) := fun e => by
          rw [List.mem_cons, i3 e, List.mem_cons, List.mem_cons]
          constructor
          · rintro (h | h | ⟨h, h'⟩)
            · exact .inl (.inl h)
            · exact .inl (.inr h)
            · exact .inr ⟨.inr h, by rw [find_cons_lt (hall e h)]; exact h'⟩
          · rintro ((h | h) | ⟨rfl | h, h'⟩)
            · exact .inl h
            · exact .inr (.inl h)
            · rw [find_cons_eq heq] at h'; cases h'
            · exact .inr (.inr ⟨h, by rw [find_cons_lt (hall e h)] at h'; exact h'⟩)
        by_cases he : eqE x y = true
        · rw [mg_eq heq he]
          refine ⟨?_, hasc, hmem⟩
          rw [i1, List.filter_cons_of_neg (by simp [clashB, find_cons_eq heq, he]), hfil]
        · rw [mg_ne heq he]
          refine ⟨?_, hasc, hmem⟩
          rw [List.filter_cons_of_pos (by simp [clashB, find_cons_eq heq, he]), hfil, i1]
termination_by f s => f.length + s.length
end Go.Proofs.Ythfifejjfnmpoaa
