import Derived.Test.YthfifejjfnmpoaaTpMath2
namespace Go.Proofs.Ythfifejjfnmpoaa
/-! Apply: the source's walk and the reference's, one edit after the other. -/
/-- the place: behind the last one of the first k whose key is not greater -/
def posT (l : List PT) (e : PT) : Nat → Nat
  | 0 => 0
  | k + 1 => match l[k]? with
    | some x => if ltK e x then posT l e k else k + 1
    | none => k + 1
def insT (l : List PT) (e : PT) : List PT := l.take (posT l e l.length) ++ e :: l.drop (posT l e l.length)
theorem posT_le (l : List PT) (e : PT) : ∀ k, posT l e k ≤ k
  | 0 => Nat.le_refl _
  | k + 1 => by
    have := posT_le l e k
    unfold posT
    split
    · split <;> omega
    · omega
theorem posT_spec {l : List PT} (hl : Asc l) (e : PT) : ∀ k, k ≤ l.length → (∀ x ∈ l.drop k, ltK e x) → (∀ x ∈ l.take (posT l e k), ¬ ltK e x) ∧ (∀ x ∈ l.drop (posT l e k), ltK e x)
  | 0, _, h => by simp [posT]; simpa using h
  | k + 1, hk, h => by
    have hx : l[k]? = some l[k] := List.getElem?_eq_getElem (by omega)
    unfold posT
    rw [hx]
    simp only
    split
    · rename_i hlt
      refine posT_spec hl e k (by omega) fun x hx => ?_
      rw [List.drop_eq_getElem_cons (by omega)] at hx
      rcases List.mem_cons.1 hx with rfl | hx
      · exact hlt
      · exact h x hx
    · rename_i hlt
      refine ⟨fun x hx hc => ?_, h⟩
      rw [List.take_succ_eq_append_getElem (by omega)] at hx
      rcases List.mem_append.1 hx with hx | hx
      · obtain ⟨i, hi, rfl⟩ := List.getElem_of_mem hx
        simp only [List.length_take] at hi
        rw [List.getElem_take] at hc
        have hik : ltK l[i] l[k] := List.pairwise_iff_getElem.1 hl i k (by omega) (by omega) (by omega)
        exact hlt (ltK_trans hc hik)
      · simp only [List.mem_singleton] at hx
        subst hx
        exact hlt hc
theorem insT_mem {l : List PT} {e x : PT} : x ∈ insT l e ↔ x = e ∨ x ∈ l := by
  unfold insT
  rw [List.mem_append, List.mem_cons]
  have := List.take_append_drop (posT l e l.length) l
  constructor
  · rintro (h | h | h)
    · exact .inr (List.mem_of_mem_take h)
    · exact .inl h
    · exact .inr (List.mem_of_mem_drop h)
  · rintro (h | h)
    · exact .inr (.inl h)
    · rw [← this] at h
      rcases List.mem_append.1 h with h | h
      · exact .inl h
      · exact .inr (.inr h)
theorem insT_asc {l : List PT} {e : PT} (hl : Asc l) (hn : ∀ x ∈ l, ¬ eqK x e) : Asc (insT l e) := by
  obtain ⟨h1, h2⟩ := posT_spec hl e l.length (Nat.le_refl _) (by simp)
  have hs := hl
  rw [← List.take_append_drop (posT l e l.length) l] at hs
  obtain ⟨a, b, c⟩ := List.pairwise_append.1 hs
  unfold insT
  refine List.pairwise_append.2 ⟨a, List.pairwise_cons.2 ⟨h2, b⟩, fun x hx y hy => ?_⟩
  have hxl := List.mem_of_mem_take hx
  have hxe : ltK x e := by
    rcases Classical.em (ltK x e) with h | h
    · exact h
    · exact absurd (eqK_of h (h1 x hx)) (hn x hxl)
  rcases List.mem_cons.1 hy with rfl | hy
  · exact hxe
  · exact c x hx y hy
theorem insT_len (l : List PT) (e : PT) : (insT l e).length = l.length + 1 := by
  unfold insT
  have := posT_le l e l.length
  rw [List.length_append, List.length_cons, List.length_take, List.length_drop]
  omega

def lowT (k : PT) (l : List PT) : List PT := l.takeWhile fun x => decide (ltK x k)
def highT (k : PT) (l : List PT) : List PT := l.dropWhile fun x => decide (ltK x k)
theorem low_high (k : PT) (l : List PT) : lowT k l ++ highT k l = l := List.takeWhile_append_dropWhile
theorem low_lt {k : PT} : ∀ {l : List PT}, ∀ x ∈ lowT k l, ltK x k
  | [], x, h => by simp [lowT] at h
  | a :: l, x, h => by
    unfold lowT at h
    rw [List.takeWhile_cons] at h
    split at h
    · rename_i ha
      rcases List.mem_cons.1 h with rfl | h
      · simpa using ha
      · exact low_lt x h
    · simp at h
theorem high_head {k x : PT} {l r : List PT} (h : highT k l = x :: r) : ¬ ltK x k := by
  induction l with
  | nil => simp [highT] at h
  | cons a l ih =>
    unfold highT at h
    rw [List.dropWhile_cons] at h
    split at h
    · exact ih h
    · rename_i ha
      injection h with h1 _
      subst h1
      simpa using ha
theorem high_ge {k : PT} {l : List PT} (hl : Asc l) : ∀ x ∈ highT k l, ¬ ltK x k := by
  intro x hx
  cases h : highT k l with
  | nil => rw [h] at hx; simp at hx
  | cons y r =>
    have hy := high_head h
    have hs : Asc (y :: r) := by
      rw [← h]
      have := hl
      rw [← low_high k l] at this
      exact (List.pairwise_append.1 this).2.1
    rw [h] at hx
    rcases List.mem_cons.1 hx with rfl | hx
    · exact hy
    · intro hc
      have h1 := (List.pairwise_cons.1 hs).1 x hx
      exact hy (ltK_trans h1 hc)
/-- the source: a code and the list -/
def appS : List PT → List PE → Nat × List PT
  | as, [] => (0, as)
  | as, e :: es =>
    match highT (keyE e) as with
    | [] => if e.k = 1 then
        ((appS [] es).1, lowT (keyE e) as ++ e.n :: (appS [] es).2)
      else (6, [])
    | x :: r =>
      if eqK x (keyE e) then
        if e.k = 1 then (5, [])
        else if eqT x e.o = true then ((appS r es).1, lowT (keyE e) as ++ ((if e.k = 2 then [] else [e.n]) ++ (appS r es).2))
        else (20, [])
      else if e.k = 1 then ((appS (x :: r) es).1, lowT (keyE e) as ++ e.n :: (appS (x :: r) es).2)
      else (6, [])
/-- the reference: one edit -/
def perR (l : List PT) (e : PE) : Nat × List PT :=
  match findT l (keyE e) with
  | some x =>
    if e.k = 1 then (5, [])
    else if eqT x e.o = true then
      (0, if e.k = 2 then l.filter (fun y => !decide (eqK y (keyE e))) else insT (l.filter fun y => !decide (eqK y (keyE e))) e.n)
    else (20, [])
  | none => if e.k = 1 then (0, insT l e.n) else (6, [])
def appR : List PT → List PE → Nat × List PT
  | l, [] => (0, l)
  | l, e :: es => if (perR l e).1 = 0 then appR (perR l e).2 es else ((perR l e).1, [])
theorem insT_at {p r : List PT} {e : PT} (hl : Asc (p ++ r)) (hp : ∀ x ∈ p, ltK x e) (hr : ∀ x ∈ r, ltK e x) : insT (p ++ r) e = p ++ e :: r := by
  have hn : ∀ x ∈ p ++ r, ¬ eqK x e := fun x hx => by
    rcases List.mem_append.1 hx with hx | hx
    · exact ltK_neq (hp x hx)
    · exact gtK_neq (hr x hx)
  refine sorted_ext (key := fun x => x) (insT_asc hl hn) ?_ fun x => ?_
  · obtain ⟨a, b, c⟩ := List.pairwise_append.1 hl
    refine List.pairwise_append.2 ⟨a, List.pairwise_cons.2 ⟨hr, b⟩, fun x hx y hy => ?_⟩
    rcases List.mem_cons.1 hy with rfl | hy
    · exact hp x hx
    · exact c x hx y hy
  · rw [insT_mem]
    simp only [List.mem_append, List.mem_cons]
    constructor
    · rintro (h | h | h)
      · exact .inr (.inl h)
      · exact .inl h
      · exact .inr (.inr h)
    · rintro (h | h | h)
      · exact .inr (.inl h)
      · exact .inl h
      · exact .inr (.inr h)
theorem find_pre {p r : List PT} {k : PT} (hp : ∀ x ∈ p, ltK x k) : findT (p ++ r) k = findT r k := by
  unfold findT
  rw [List.find?_append]
  have : p.find? (fun u => decide (eqK u k)) = none := by
    rw [List.find?_eq_none]
    intro x hx
    simpa using ltK_neq (hp x hx)
  rw [this]
  rfl
theorem filter_pre {p r : List PT} {k : PT} (hp : ∀ x ∈ p, ¬ eqK x k) : (p ++ r).filter (fun y => !decide (eqK y k)) = p ++ r.filter (fun y => !decide (eqK y k)) := by
  rw [List.filter_append]
  congr 1
  exact List.filter_eq_self.2 fun x hx => by simpa using hp x hx
theorem filter_all {r : List PT} {k : PT} (hr : ∀ x ∈ r, ¬ eqK x k) : r.filter (fun y => !decide (eqK y k)) = r := List.filter_eq_self.2 fun x hx => by simpa using hr x hx
theorem ok_new {e : PE} (h : okE e = true) (h2 : e.k ≠ 2) : eqK e.n (keyE e) := by
  unfold okE at h
  unfold keyE
  by_cases h1 : e.k = 1
  · rw [if_pos h1]; exact eqK_refl _
  · rw [if_neg h1, if_neg h2] at h
    rw [if_neg h1]
    split at h
    · simp only [Bool.and_eq_true, decide_eq_true_eq] at h
      exact eqK_symm h.1.2
    · simp at h
def preR (p : List PT) (r : Nat × List PT) : Nat × List PT := if r.1 = 0 then (0, p ++ r.2) else (r.1, [])
theorem app_eq : ∀ (es : List PE) (as p : List PT), Asc (p ++ as) → (∀ x ∈ p, ∀ e ∈ es, ltK x (keyE e)) → AscE es → (∀ e ∈ es, okE e = true) → appR (p ++ as) es = preR p (appS as es)
  | [], as, p, _, _, _, _ => by simp [appR, appS, preR]
  | e :: es, as, p, ha, hp, hs, ho => by
    obtain ⟨hs1, hs2⟩ := List.pairwise_cons.1 hs
    have hoe := ho e (by simp)
    have ho2 : ∀ x ∈ es, okE x = true := fun x hx => ho x (by simp [hx])
    have hpe : ∀ x ∈ p, ltK x (keyE e) := fun x hx => hp x hx e (by simp)
    have hasc : Asc as := (List.pairwise_append.1 ha).2.1
    have hlh := low_high (keyE e) as
    have hlow : ∀ x ∈ p ++ lowT (keyE e) as, ltK x (keyE e) := fun x hx => by
      rcases List.mem_append.1 hx with hx | hx
      · exact hpe x hx
      · exact low_lt x hx
    have hall : p ++ as = (p ++ lowT (keyE e) as) ++ highT (keyE e) as := by rw [List.append_assoc, hlh]
    have hA := ha
    rw [hall] at hA
    have hnext : ∀ x ∈ p ++ lowT (keyE e) as, ∀ f ∈ es, ltK x (keyE f) := fun x hx f hf => ltK_trans (hlow x hx) (hs1 f hf)
    have hge := high_ge (k := keyE e) hasc
    unfold appR perR appS
    rw [hall, find_pre hlow]
    cases hh : highT (keyE e) as with
    | nil =>
      rw [show findT [] (keyE e) = none from rfl]
      simp only
      by_cases h1 : e.k = 1
      · rw [if_pos h1, if_pos h1]
        have hk := ok_new hoe (by omega)
        have hins : insT ((p ++ lowT (keyE e) as) ++ []) e.n = (p ++ lowT (keyE e) as) ++ [e.n] := insT_at (by rw [hh] at hA; exact hA) (fun x hx => ltK_eq (hlow x hx) (eqK_symm hk)) (fun x hx => by simp at hx)
        rw [if_pos rfl]
        simp only
        rw [hins]
        have ih := app_eq es [] ((p ++ lowT (keyE e) as) ++ [e.n]) (by
          rw [List.append_nil]
          rw [hh, List.append_nil] at hA
          refine List.pairwise_append.2 ⟨hA, by simp, fun x hx y hy => ?_⟩
          simp at hy; subst hy
          exact ltK_eq (hlow x hx) (eqK_symm hk)) (fun x hx f hf => by
          rcases List.mem_append.1 hx with hx | hx
          · exact hnext x hx f hf
          · simp at hx; subst hx; exact eq_ltK hk (hs1 f hf)) hs2 ho2
        rw [List.append_nil] at ih
        rw [ih]
        unfold preR
        split <;> simp
      · rw [if_neg h1, if_neg h1]
        simp [preR]
    | cons x r =>
      rw [hh] at hA hge
      obtain ⟨_, hR, hPR⟩ := List.pairwise_append.1 hA
      obtain ⟨hxr, hr2⟩ := List.pairwise_cons.1 hR
      by_cases hx : eqK x (keyE e)
      · have hf : findT (x :: r) (keyE e) = some x := by unfold findT; rw [List.find?_cons_of_pos]; simpa using hx
        rw [hf]
        simp only
        rw [if_pos hx]
        by_cases h1 : e.k = 1
        · rw [if_pos h1, if_pos h1]; simp [preR]
        · rw [if_neg h1, if_neg h1]
          by_cases h3 : eqT x e.o = true
          · rw [if_pos h3, if_pos h3, if_pos rfl]
            simp only
            have hrk : ∀ y ∈ r, ltK (keyE e) y := fun y hy => eq_ltK (eqK_symm hx) (hxr y hy)
            have hfil : ((p ++ lowT (keyE e) as) ++ x :: r).filter (fun y => !decide (eqK y (keyE e))) = (p ++ lowT (keyE e) as) ++ r := by
              rw [filter_pre (fun y hy => ltK_neq (hlow y hy)), List.filter_cons_of_neg (by simpa using hx), filter_all (fun y hy => gtK_neq (hrk y hy))]
            have hA2 : Asc ((p ++ lowT (keyE e) as) ++ r) := List.pairwise_append.2 ⟨(List.pairwise_append.1 hA).1, hr2, fun a ha b hb => hPR a ha b (by simp [hb])⟩
            rw [hfil]
            by_cases h2 : e.k = 2
            · rw [if_pos h2, if_pos h2]
              rw [app_eq es r (p ++ lowT (keyE e) as) hA2 hnext hs2 ho2]
              unfold preR
              simp
            · rw [if_neg h2, if_neg h2]
              have hk := ok_new hoe h2
              rw [insT_at hA2 (fun y hy => ltK_eq (hlow y hy) (eqK_symm hk)) (fun y hy => eq_ltK hk (hrk y hy))]
              have e1 : (p ++ lowT (keyE e) as) ++ e.n :: r = ((p ++ lowT (keyE e) as) ++ [e.n]) ++ r := by simp
              rw [e1]
              rw [app_eq es r ((p ++ lowT (keyE e) as) ++ [e.n]) (by
                rw [← e1]
                refine List.pairwise_append.2 ⟨(List.pairwise_append.1 hA).1, List.pairwise_cons.2 ⟨fun y hy => eq_ltK hk (hrk y hy), hr2⟩, fun a ha b hb => ?_⟩
                rcases List.mem_cons.1 hb with rfl | hb
                · exact ltK_eq (hlow a ha) (eqK_symm hk)
                · exact hPR a ha b (by simp [hb])) (fun y hy f hf => by
                rcases List.mem_append.1 hy with hy | hy
                · exact hnext y hy f hf
                · simp at hy; subst hy; exact eq_ltK hk (hs1 f hf)) hs2 ho2]
              unfold preR
              split <;> simp
          · rw [if_neg h3, if_neg h3]; simp [preR]
      · have hxk : ltK (keyE e) x := by
          have h5 := hge x (by simp)
          rcases Classical.em (ltK (keyE e) x) with h | h
          · exact h
          · exact absurd (eqK_of h5 h) hx
        have hrk : ∀ y ∈ x :: r, ltK (keyE e) y := fun y hy => by
          rcases List.mem_cons.1 hy with rfl | hy
          · exact hxk
          · exact ltK_trans hxk (hxr y hy)
        have hf : findT (x :: r) (keyE e) = none := findT_none.2 fun y hy => gtK_neq (hrk y hy)
        rw [hf]
        simp only
        rw [if_neg hx]
        by_cases h1 : e.k = 1
        · rw [if_pos h1, if_pos h1, if_pos rfl]
          simp only
          have hk := ok_new hoe (by omega)
          rw [insT_at hA (fun y hy => ltK_eq (hlow y hy) (eqK_symm hk)) (fun y hy => eq_ltK hk (hrk y hy))]
          have e1 : (p ++ lowT (keyE e) as) ++ e.n :: x :: r = ((p ++ lowT (keyE e) as) ++ [e.n]) ++ x :: r := by simp
          rw [e1]
          rw [app_eq es (x :: r) ((p ++ lowT (keyE e) as) ++ [e.n]) (by
            rw [← e1]
            refine List.pairwise_append.2 ⟨(List.pairwise_append.1 hA).1, List.pairwise_cons.2 ⟨fun y hy => eq_ltK hk (hrk y hy), hR⟩, fun a ha b hb => ?_⟩
            rcases List.mem_cons.1 hb with rfl | hb
            · exact ltK_eq (hlow a ha) (eqK_symm hk)
            · exact hPR a ha b hb) (fun y hy f hf => by
            rcases List.mem_append.1 hy with hy | hy
            · exact hnext y hy f hf
            · simp at hy; subst hy; exact eq_ltK hk (hs1 f hf)) hs2 ho2]
          unfold preR
          split <;> simp
        · rw [if_neg h1, if_neg h1]; simp [preR]
end Go.Proofs.Ythfifejjfnmpoaa
