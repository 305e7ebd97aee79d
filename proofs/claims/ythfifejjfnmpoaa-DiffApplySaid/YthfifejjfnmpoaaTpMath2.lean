import Derived.Test.YthfifejjfnmpoaaTpMath
namespace Go.Proofs.Ythfifejjfnmpoaa
/-! The reference's Diff: edits put in at their places. -/
def findT (l : List PT) (t : PT) : Option PT := l.find? fun u => decide (eqK u t)
theorem findT_none {l : List PT} {t : PT} : findT l t = none ↔ ∀ u ∈ l, ¬ eqK u t := by
  unfold findT
  rw [List.find?_eq_none]
  simp
theorem findT_some {l : List PT} {t u : PT} (h : findT l t = some u) : u ∈ l ∧ eqK u t := by
  unfold findT at h
  exact ⟨List.mem_of_find?_eq_some h, by simpa using List.find?_some h⟩
theorem asc_uniq : ∀ {l : List PT} {t u : PT}, Asc l → t ∈ l → u ∈ l → eqK t u → t = u
  | [], _, _, _, h, _, _ => by simp at h
  | a :: l, t, u, ha, ht, hu, he => by
    obtain ⟨h1, h2⟩ := List.pairwise_cons.1 ha
    rcases List.mem_cons.1 ht with e | ht'
    · rcases List.mem_cons.1 hu with e' | hu'
      · rw [e, e']
      · subst e; exact absurd he (ltK_neq (h1 u hu'))
    · rcases List.mem_cons.1 hu with e' | hu'
      · subst e'; exact absurd he (gtK_neq (h1 t ht'))
      · exact asc_uniq h2 ht' hu' he
/-- the place: behind the last one of the first k whose key is not greater -/
def posE (l : List PE) (e : PE) : Nat → Nat
  | 0 => 0
  | k + 1 => match l[k]? with
    | some x => if ltK (keyE e) (keyE x) then posE l e k else k + 1
    | none => k + 1
def insE (l : List PE) (e : PE) : List PE := l.take (posE l e l.length) ++ e :: l.drop (posE l e l.length)
theorem posE_le (l : List PE) (e : PE) : ∀ k, posE l e k ≤ k
  | 0 => Nat.le_refl _
  | k + 1 => by
    have := posE_le l e k
    unfold posE
    split
    · split <;> omega
    · omega
theorem posE_spec {l : List PE} (hl : AscE l) (e : PE) : ∀ k, k ≤ l.length → (∀ x ∈ l.drop k, ltK (keyE e) (keyE x)) → (∀ x ∈ l.take (posE l e k), ¬ ltK (keyE e) (keyE x)) ∧ (∀ x ∈ l.drop (posE l e k), ltK (keyE e) (keyE x))
  | 0, _, h => by simp [posE]; simpa using h
  | k + 1, hk, h => by
    have hx : l[k]? = some l[k] := List.getElem?_eq_getElem (by omega)
    unfold posE
    rw [hx]
    simp only
    split
    · rename_i hlt
      refine posE_spec hl e k (by omega) fun x hx => ?_
      rw [List.drop_eq_getElem_cons (by omega)] at hx
      rcases List.mem_cons.1 hx with rfl | hx
      · exact hlt
      · exact h x hx
    · rename_i hlt
      refine ⟨fun x hx hc => ?_, h⟩
      rw [List.take_succ_eq_append_getElem (by omega)] at hx
      rcases List.mem_append.1 hx with hx | hx
      · obtain ⟨i, hi, rfl⟩ := List.getElem_of_mem hx
        simp only [List.length_take] at hi
        rw [List.getElem_take] at hc
        have hik : ltK (keyE l[i]) (keyE l[k]) := List.pairwise_iff_getElem.1 hl i k (by omega) (by omega) (by omega)
        exact hlt (ltK_trans hc hik)
      · simp only [List.mem_singleton] at hx
        subst hx
        exact hlt hc
theorem insE_mem {l : List PE} {e x : PE} : x ∈ insE l e ↔ x = e ∨ x ∈ l := by
  unfold insE
  rw [List.mem_append, List.mem_cons]
  have := List.take_append_drop (posE l e l.length) l
  constructor
  · rintro (h | h | h)
    · exact .inr (List.mem_of_mem_take h)
    · exact .inl h
    · exact .inr (List.mem_of_mem_drop h)
  · rintro (h | h)
    · exact .inr (.inl h)
    · rw [← this] at h
      rcases List.mem_append.1 h with h | h
      · exact .inl h
      · exact .inr (.inr h)
theorem insE_asc {l : List PE} {e : PE} (hl : AscE l) (hn : ∀ x ∈ l, ¬ eqK (keyE x) (keyE e)) : AscE (insE l e) := by
  obtain ⟨h1, h2⟩ := posE_spec hl e l.length (Nat.le_refl _) (by simp)
  have hs := hl
  rw [← List.take_append_drop (posE l e l.length) l] at hs
  obtain ⟨a, b, c⟩ := List.pairwise_append.1 hs
  unfold insE
  refine List.pairwise_append.2 ⟨a, List.pairwise_cons.2 ⟨h2, b⟩, fun x hx y hy => ?_⟩
  have hxl := List.mem_of_mem_take hx
  have hxe : ltK (keyE x) (keyE e) := by
    rcases Classical.em (ltK (keyE x) (keyE e)) with h | h
    · exact h
    · exact absurd (eqK_of h (h1 x hx)) (hn x hxl)
  rcases List.mem_cons.1 hy with rfl | hy
  · exact hxe
  · exact c x hx y hy
theorem insE_len (l : List PE) (e : PE) : (insE l e).length = l.length + 1 := by
  unfold insE
  have := posE_le l e l.length
  rw [List.length_append, List.length_cons, List.length_take, List.length_drop]
  omega
def stA (b : List PT) (out : List PE) (t : PT) : List PE :=
  match findT b t with
  | none => insE out ⟨2, t, zeroT⟩
  | some u => if eqT t u = true then out else insE out ⟨3, t, u⟩
def stB (a : List PT) (out : List PE) (u : PT) : List PE :=
  match findT a u with
  | none => insE out ⟨1, zeroT, u⟩
  | some _ => out
def diffR (a b : List PT) : List PE := b.foldl (stB a) (a.foldl (stA b) [])
def InA (p b : List PT) (e : PE) : Prop := (∃ t ∈ p, (∀ u ∈ b, ¬ eqK t u) ∧ e = ⟨2, t, zeroT⟩) ∨ (∃ t ∈ p, ∃ u ∈ b, eqK t u ∧ t ≠ u ∧ e = ⟨3, t, u⟩)
def InB (a q : List PT) (e : PE) : Prop := ∃ u ∈ q, (∀ t ∈ a, ¬ eqK t u) ∧ e = ⟨1, zeroT, u⟩
theorem foldA {b : List PT} (hb : Asc b) : ∀ (r p : List PT) (out : List PE), Asc (p ++ r) → AscE out → (∀ e, e ∈ out ↔ InA p b e) → AscE (r.foldl (stA b) out) ∧ ∀ e, e ∈ r.foldl (stA b) out ↔ InA (p ++ r) b e
  | [], p, out, _, h1, h2 => by simpa using ⟨h1, h2⟩
  | t :: r, p, out, ha, h1, h2 => by
    have e : p ++ t :: r = (p ++ [t]) ++ r := by simp
    rw [e] at ha ⊢
    rw [List.foldl_cons]
    have hpt : ∀ x ∈ p, ltK x t := fun x hx => by
      have := (List.pairwise_append.1 (List.pairwise_append.1 ha).1).2.2
      exact this x hx t (by simp)
    have hkey : ∀ x ∈ out, ¬ eqK (keyE x) t := fun x hx => by
      rcases (h2 x).1 hx with ⟨s, hs, _, rfl⟩ | ⟨s, hs, u, hu, _, _, rfl⟩
      · simpa [keyE] using ltK_neq (hpt s hs)
      · simpa [keyE] using ltK_neq (hpt s hs)
    have grow : ∀ x, InA (p ++ [t]) b x ↔ InA p b x ∨ ((∀ u ∈ b, ¬ eqK t u) ∧ x = ⟨2, t, zeroT⟩) ∨ (∃ u ∈ b, eqK t u ∧ t ≠ u ∧ x = ⟨3, t, u⟩) := fun x => by
      unfold InA
      simp only [List.mem_append, List.mem_singleton]
      constructor
      · rintro (⟨s, hs | rfl, y⟩ | ⟨s, hs | rfl, y⟩)
        · exact .inl (.inl ⟨s, hs, y⟩)
        · exact .inr (.inl y)
        · exact .inl (.inr ⟨s, hs, y⟩)
        · exact .inr (.inr y)
      · rintro ((⟨s, hs, y⟩ | ⟨s, hs, y⟩) | y | y)
        · exact .inl ⟨s, .inl hs, y⟩
        · exact .inr ⟨s, .inl hs, y⟩
        · exact .inl ⟨t, .inr rfl, y⟩
        · exact .inr ⟨t, .inr rfl, y⟩
    unfold stA
    cases hf : findT b t with
    | none =>
      have hno : ∀ u ∈ b, ¬ eqK t u := fun u hu hc => findT_none.1 hf u hu (eqK_symm hc)
      refine foldA hb r (p ++ [t]) _ ha (insE_asc h1 fun x hx => ?_) fun x => ?_
      · simpa [keyE] using hkey x hx
      · rw [insE_mem, grow, h2]
        constructor
        · rintro (rfl | h)
          · exact .inr (.inl ⟨hno, rfl⟩)
          · exact .inl h
        · rintro (h | ⟨_, h⟩ | ⟨u, hu, hc, _⟩)
          · exact .inr h
          · exact .inl h
          · exact absurd hc (hno u hu)
    | some u =>
      obtain ⟨hu, hk⟩ := findT_some hf
      have huq : ∀ v ∈ b, eqK t v → v = u := fun v hv hc => asc_uniq hb hv hu ⟨by have := hc.1; have := hk.1; omega, by have := hc.2; have := hk.2; omega⟩
      simp only
      by_cases he : eqT t u = true
      · rw [if_pos he]
        have := eqT_iff.1 he
        subst this
        refine foldA hb r (p ++ [t]) _ ha h1 fun x => ?_
        rw [grow, h2]
        constructor
        · exact .inl
        · rintro (h | ⟨hno, _⟩ | ⟨v, hv, hc, hne, _⟩)
          · exact h
          · exact absurd (eqK_refl t) (hno t hu)
          · exact absurd (huq v hv hc).symm hne
      · rw [if_neg he]
        have hne : t ≠ u := fun h => he (eqT_iff.2 h)
        refine foldA hb r (p ++ [t]) _ ha (insE_asc h1 fun x hx => ?_) fun x => ?_
        · simpa [keyE] using hkey x hx
        · rw [insE_mem, grow, h2]
          constructor
          · rintro (rfl | h)
            · exact .inr (.inr ⟨u, hu, eqK_symm hk, hne, rfl⟩)
            · exact .inl h
          · rintro (h | ⟨hno, _⟩ | ⟨v, hv, hc, _, h⟩)
            · exact .inr h
            · exact absurd (eqK_symm hk) (hno u hu)
            · rw [huq v hv hc] at h; exact .inl h
theorem foldB {a b : List PT} (hb : Asc b) : ∀ (r q : List PT) (out : List PE), q ++ r = b → AscE out → (∀ e, e ∈ out ↔ InA a b e ∨ InB a q e) → AscE (r.foldl (stB a) out) ∧ ∀ e, e ∈ r.foldl (stB a) out ↔ InA a b e ∨ InB a b e
  | [], q, out, hq, h1, h2 => by
    rw [List.append_nil] at hq
    subst hq
    exact ⟨h1, h2⟩
  | u :: r, q, out, hq, h1, h2 => by
    have e : q ++ u :: r = (q ++ [u]) ++ r := by simp
    rw [List.foldl_cons]
    have hub : u ∈ b := by rw [← hq]; simp
    have hqu : ∀ x ∈ q, ltK x u := fun x hx => by
      have hb' := hb
      rw [← hq] at hb'
      exact (List.pairwise_append.1 hb').2.2 x hx u (by simp)
    have grow : ∀ x, InB a (q ++ [u]) x ↔ InB a q x ∨ ((∀ t ∈ a, ¬ eqK t u) ∧ x = ⟨1, zeroT, u⟩) := fun x => by
      unfold InB
      simp only [List.mem_append, List.mem_singleton]
      constructor
      · rintro ⟨s, hs | rfl, y⟩
        · exact .inl ⟨s, hs, y⟩
        · exact .inr y
      · rintro (⟨s, hs, y⟩ | y)
        · exact ⟨s, .inl hs, y⟩
        · exact ⟨u, .inr rfl, y⟩
    unfold stB
    cases hf : findT a u with
    | none =>
      have hno : ∀ t ∈ a, ¬ eqK t u := findT_none.1 hf
      refine foldB hb r (q ++ [u]) _ (by rw [← hq]; simp) (insE_asc h1 fun x hx => ?_) fun x => ?_
      · have e1 : keyE ⟨1, zeroT, u⟩ = u := by simp [keyE]
        rw [e1]
        rcases (h2 x).1 hx with (⟨s, hs, _, rfl⟩ | ⟨s, hs, v, hv, _, _, rfl⟩) | ⟨v, hv, _, rfl⟩
        · simpa [keyE] using hno s hs
        · simpa [keyE] using hno s hs
        · simpa [keyE] using ltK_neq (hqu v hv)
      · rw [insE_mem, grow, h2]
        constructor
        · rintro (rfl | h | h)
          · exact .inr (.inr ⟨hno, rfl⟩)
          · exact .inl h
          · exact .inr (.inl h)
        · rintro (h | h | ⟨_, h⟩)
          · exact .inr (.inl h)
          · exact .inr (.inr h)
          · exact .inl h
    | some t =>
      obtain ⟨ht, hk⟩ := findT_some hf
      refine foldB hb r (q ++ [u]) _ (by rw [← hq]; simp) h1 fun x => ?_
      rw [grow, h2]
      constructor
      · rintro (h | h)
        · exact .inl h
        · exact .inr (.inl h)
      · rintro (h | h | ⟨hno, _⟩)
        · exact .inl h
        · exact .inr h
        · exact absurd hk (hno t ht)
/-- both ways give the same edits -/
theorem diff_eq {a b : List PT} (ha : Asc a) (hb : Asc b) : diffR a b = diffM a b := by
  obtain ⟨h1, h2⟩ := foldA hb a [] [] (by simpa using ha) List.Pairwise.nil (fun e => by simp [InA])
  rw [List.nil_append] at h2
  obtain ⟨h3, h4⟩ := foldB (a := a) hb b [] _ (by simp) h1 (fun e => by rw [h2]; simp [InB])
  refine sorted_ext h3 (asc_diffM a b ha hb) fun e => ?_
  unfold diffR
  rw [h4, mem_diffM a b ha hb]
  unfold InA InB InD
  constructor
  · rintro ((h | h) | h)
    · exact .inl h
    · exact .inr (.inr h)
    · exact .inr (.inl h)
  · rintro (h | h | h)
    · exact .inl (.inl h)
    · exact .inr h
    · exact .inl (.inr h)
end Go.Proofs.Ythfifejjfnmpoaa
