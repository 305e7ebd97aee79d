import Derived.Test.YthfifejjfnmpoaaTpMath3
import Derived.Test.YthfifejjfnmpoaaTpMath5
namespace Go.Proofs.Ythfifejjfnmpoaa
/-! Edits lead from a to b, and inverted back. -/
theorem low_app {k : PT} {p l : List PT} (h : ∀ x ∈ p, ltK x k) : lowT k (p ++ l) = p ++ lowT k l := by
  unfold lowT
  rw [List.takeWhile_append_of_pos (fun x hx => by simpa using h x hx)]
theorem high_app {k : PT} {p l : List PT} (h : ∀ x ∈ p, ltK x k) : highT k (p ++ l) = highT k l := by
  unfold highT
  rw [List.dropWhile_append_of_pos (fun x hx => by simpa using h x hx)]
theorem appS_pre {p l : List PT} : ∀ {es : List PE}, (∀ x ∈ p, ∀ e ∈ es, ltK x (keyE e)) → (appS l es).1 = 0 → appS (p ++ l) es = (0, p ++ (appS l es).2)
  | [], _, _ => by simp [appS]
  | e :: es, h, h0 => by
    have hp : ∀ x ∈ p, ltK x (keyE e) := fun x hx => h x hx e (by simp)
    unfold appS at h0 ⊢
    rw [low_app hp, high_app hp]
    cases hh : highT (keyE e) l with
    | nil =>
      rw [hh] at h0
      simp only at h0 ⊢
      by_cases h1 : e.k = 1
      · rw [if_pos h1] at h0 ⊢
        rw [if_pos h1]
        simp only at h0
        rw [h0, List.append_assoc]
      · rw [if_neg h1] at h0; simp at h0
    | cons x r =>
      rw [hh] at h0
      simp only at h0 ⊢
      by_cases hx : eqK x (keyE e)
      · rw [if_pos hx] at h0 ⊢
        rw [if_pos hx]
        by_cases h1 : e.k = 1
        · rw [if_pos h1] at h0; simp at h0
        · rw [if_neg h1] at h0 ⊢
          rw [if_neg h1]
          by_cases h3 : eqT x e.o = true
          · rw [if_pos h3] at h0 ⊢
            rw [if_pos h3]
            simp only at h0
            rw [h0, List.append_assoc]
          · rw [if_neg h3] at h0; simp at h0
      · rw [if_neg hx] at h0 ⊢
        rw [if_neg hx]
        by_cases h1 : e.k = 1
        · rw [if_pos h1] at h0 ⊢
          rw [if_pos h1]
          simp only at h0
          rw [h0, List.append_assoc]
        · rw [if_neg h1] at h0; simp at h0
theorem high_self (a : PT) (l : List PT) : highT a (a :: l) = a :: l := by unfold highT; rw [List.dropWhile_cons_of_neg (by simpa using ltK_irr a)]
theorem low_self (a : PT) (l : List PT) : lowT a (a :: l) = [] := by unfold lowT; rw [List.takeWhile_cons_of_neg (by simpa using ltK_irr a)]
theorem appS_rem (a : PT) (l : List PT) (es : List PE) : appS (a :: l) (⟨2, a, zeroT⟩ :: es) = appS l es := by
  have hk : keyE ⟨2, a, zeroT⟩ = a := by simp [keyE]
  rw [appS, hk, high_self, low_self]
  simp only
  rw [if_pos (eqK_refl a), if_neg (by decide), if_pos (eqT_iff.2 rfl)]
  simp
theorem appS_chg (a b : PT) (l : List PT) (es : List PE) : appS (a :: l) (⟨3, a, b⟩ :: es) = ((appS l es).1, b :: (appS l es).2) := by
  have hk : keyE ⟨3, a, b⟩ = a := by simp [keyE]
  rw [appS, hk, high_self, low_self]
  simp only
  rw [if_pos (eqK_refl a), if_neg (by decide), if_pos (eqT_iff.2 rfl)]
  simp
theorem appS_add {a b : PT} {l : List PT} {es : List PE} (h : ltK b a) : appS (a :: l) (⟨1, zeroT, b⟩ :: es) = ((appS (a :: l) es).1, b :: (appS (a :: l) es).2) := by
  have hk : keyE ⟨1, zeroT, b⟩ = b := by simp [keyE]
  have hn := ltK_asymm h
  have e1 : highT b (a :: l) = a :: l := by unfold highT; rw [List.dropWhile_cons_of_neg (by simpa using hn)]
  have e2 : lowT b (a :: l) = [] := by unfold lowT; rw [List.takeWhile_cons_of_neg (by simpa using hn)]
  rw [appS, hk, e1, e2]
  simp only
  rw [if_neg (gtK_neq h), if_pos trivial]
  simp
theorem appS_end (b : PT) (es : List PE) : appS [] (⟨1, zeroT, b⟩ :: es) = ((appS [] es).1, b :: (appS [] es).2) := by
  rw [appS]
  simp [highT, lowT]
/-- the edits from a to b lead from a to b -/
theorem patch : ∀ (a b : List PT), Asc a → Asc b → appS a (diffM a b) = (0, b)
  | [], [], _, _ => by unfold diffM; simp [appS]
  | [], b :: bs, ha, hb => by
    have ih := patch [] bs ha (List.pairwise_cons.1 hb).2
    have e : diffM [] (b :: bs) = ⟨1, zeroT, b⟩ :: diffM [] bs := by unfold diffM; rfl
    rw [e, appS_end, ih]
  | a :: as, [], ha, hb => by
    have ih := patch as [] (List.pairwise_cons.1 ha).2 hb
    have e : diffM (a :: as) [] = ⟨2, a, zeroT⟩ :: diffM as [] := by rw [diffM]
    rw [e, appS_rem, ih]
  | a :: as, b :: bs, ha, hb => by
    obtain ⟨ha1, ha2⟩ := List.pairwise_cons.1 ha
    obtain ⟨hb1, hb2⟩ := List.pairwise_cons.1 hb
    rw [diffM]
    by_cases h1 : ltK a b
    · rw [if_pos h1, appS_rem, patch as (b :: bs) ha2 hb]
    · rw [if_neg h1]
      by_cases h2 : ltK b a
      · rw [if_pos h2, appS_add h2, patch (a :: as) bs ha hb2]
      · rw [if_neg h2]
        have heq := eqK_of h1 h2
        have ih := patch as bs ha2 hb2
        by_cases h3 : eqT a b = true
        · rw [if_pos h3]
          have := appS_pre (p := [a]) (l := as) (es := diffM as bs) (fun x hx e he => by
            simp at hx
            subst hx
            obtain ⟨t, ht, hk⟩ := ((mem_diffM as bs ha2 hb2 e).1 he).key
            rw [hk]
            rcases ht with ht | ht
            · exact ha1 t ht
            · exact eq_ltK heq (hb1 t ht)) (by rw [ih])
          rw [show a :: as = [a] ++ as from rfl, this, ih, eqT_iff.1 h3]
          rfl
        · rw [if_neg h3, appS_chg, ih]
termination_by a b => a.length + b.length
def invE (e : PE) : PE := ⟨if e.k = 1 then 2 else if e.k = 2 then 1 else e.k, e.n, e.o⟩
theorem invE_invE (e : PE) : invE (invE e) = e := by
  obtain ⟨k, o, n⟩ := e
  unfold invE
  simp only
  by_cases h1 : k = 1
  · subst h1; simp
  · by_cases h2 : k = 2
    · subst h2; simp
    · simp [h1, h2]
theorem inv_add (b : PT) : invE ⟨1, zeroT, b⟩ = ⟨2, b, zeroT⟩ := rfl
theorem inv_rem (b : PT) : invE ⟨2, b, zeroT⟩ = ⟨1, zeroT, b⟩ := rfl
theorem inv_chg (a b : PT) : invE ⟨3, a, b⟩ = ⟨3, b, a⟩ := rfl
theorem inv_diff : ∀ (a b : List PT), (diffM a b).map invE = diffM b a
  | [], [] => by unfold diffM; rfl
  | [], b :: bs => by
    have e : diffM [] (b :: bs) = ⟨1, zeroT, b⟩ :: diffM [] bs := by unfold diffM; rfl
    have e2 : diffM (b :: bs) [] = ⟨2, b, zeroT⟩ :: diffM bs [] := by rw [diffM]
    rw [e, e2, List.map_cons, inv_add, inv_diff [] bs]
  | a :: as, [] => by
    have e : diffM [] (a :: as) = ⟨1, zeroT, a⟩ :: diffM [] as := by unfold diffM; rfl
    have e2 : diffM (a :: as) [] = ⟨2, a, zeroT⟩ :: diffM as [] := by rw [diffM]
    rw [e, e2, List.map_cons, inv_rem, inv_diff as []]
  | a :: as, b :: bs => by
    by_cases h1 : ltK a b
    · rw [diffM, if_pos h1, diffM, if_neg (ltK_asymm h1), if_pos h1, List.map_cons, inv_rem, inv_diff as (b :: bs)]
    · by_cases h2 : ltK b a
      · rw [diffM, if_neg h1, if_pos h2, diffM, if_pos h2, List.map_cons, inv_add, inv_diff (a :: as) bs]
      · by_cases h3 : eqT a b = true
        · have h4 : eqT b a = true := eqT_iff.2 (eqT_iff.1 h3).symm
          rw [diffM, if_neg h1, if_neg h2, if_pos h3, diffM, if_neg h2, if_neg h1, if_pos h4, inv_diff as bs]
        · have h4 : ¬ eqT b a = true := fun h => h3 (eqT_iff.2 (eqT_iff.1 h).symm)
          rw [diffM, if_neg h1, if_neg h2, if_neg h3, diffM, if_neg h2, if_neg h1, if_neg h4, List.map_cons, inv_chg, inv_diff as bs]
termination_by a b => a.length + b.length
end Go.Proofs.Ythfifejjfnmpoaa
