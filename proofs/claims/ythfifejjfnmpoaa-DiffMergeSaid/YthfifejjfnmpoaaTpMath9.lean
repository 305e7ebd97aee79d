import Derived.Test.YthfifejjfnmpoaaTpMath8
namespace Go.Proofs.Ythfifejjfnmpoaa
/-! What a merge gives. -/
theorem eqE_comm {x y : PE} : eqE x y = eqE y x := by
  rw [Bool.eq_iff_iff, eqE_iff, eqE_iff]
  exact ⟨fun h => h.symm, fun h => h.symm⟩
theorem mg_nil_r : ∀ f : List PE, mgM f [] = (f, [])
  | [] => mg_nil []
  | x :: f => by rw [mg_a, mg_nil_r f]
theorem mg_swap : ∀ (f s : List PE), (mgM f s).2.length = (mgM s f).2.length ∧ ((mgM f s).2 = [] → (mgM f s).1 = (mgM s f).1)
  | [], s => by rw [mg_nil, mg_nil_r]; exact ⟨rfl, fun _ => rfl⟩
  | x :: f, [] => by rw [mg_nil, mg_nil_r]; exact ⟨rfl, fun _ => rfl⟩
  | x :: f, y :: s => by
    by_cases h1 : ltK (keyE x) (keyE y)
    · obtain ⟨i1, i2⟩ := mg_swap f (y :: s)
      rw [mg_lt h1, mg_gt h1]
      exact ⟨i1, fun h => by rw [i2 h]⟩
    · by_cases h2 : ltK (keyE y) (keyE x)
      · obtain ⟨i1, i2⟩ := mg_swap (x :: f) s
        rw [mg_gt h2, mg_lt h2]
        exact ⟨i1, fun h => by rw [i2 h]⟩
      · have heq := eqK_of h1 h2
        obtain ⟨i1, i2⟩ := mg_swap f s
        by_cases he : eqE x y = true
        · rw [mg_eq heq he, mg_eq (eqK_symm heq) (by rw [eqE_comm]; exact he)]
          exact ⟨i1, fun h => by rw [i2 h, eqE_iff.1 he]⟩
        · rw [mg_ne heq he, mg_ne (eqK_symm heq) (by rw [eqE_comm]; exact he)]
          exact ⟨by simp [i1], fun h => by cases h⟩
termination_by f s => f.length + s.length
theorem mg_len : ∀ (f s : List PE), (mgM f s).1.length ≤ f.length + s.length
  | [], s => by rw [mg_nil]; simp
  | x :: f, [] => by rw [mg_nil_r]; simp
  | x :: f, y :: s => by
    by_cases h1 : ltK (keyE x) (keyE y)
    · have := mg_len f (y :: s); rw [mg_lt h1]; simp at this ⊢; omega
    · by_cases h2 : ltK (keyE y) (keyE x)
      · have := mg_len (x :: f) s; rw [mg_gt h2]; simp at this ⊢; omega
      · have heq := eqK_of h1 h2
        have := mg_len f s
        by_cases he : eqE x y = true
        · rw [mg_eq heq he]; simp; omega
        · rw [mg_ne heq he]; simp; omega
termination_by f s => f.length + s.length
theorem dM_len (a b : List PT) (ha : Asc a) (hb : Asc b) : (diffM a b).length ≤ a.length + b.length := by
  rw [diffM_len ha hb]
  have s1 : ∀ L : List PT, (L.map (cntA b)).sum ≤ L.length := fun L => by
    induction L with
    | nil => simp
    | cons t L ih => have : cntA b t ≤ 1 := (by unfold cntA; split; omega; split <;> omega); simp; omega
  have s2 : ∀ L : List PT, (L.map (cntB a)).sum ≤ L.length := fun L => by
    induction L with
    | nil => simp
    | cons t L ih => have : cntB a t ≤ 1 := (by unfold cntB; split <;> omega); simp; omega
  have := s1 a
  have := s2 b
  omega
theorem appS_len : ∀ (E : List PE) (L : List PT), (appS L E).2.length ≤ L.length + E.length
  | [], L => by simp [appS]
  | e :: E, L => by
    have hlh := congrArg List.length (low_high (keyE e) L)
    rw [List.length_append] at hlh
    unfold appS
    cases hh : highT (keyE e) L with
    | nil =>
      simp only
      rw [hh] at hlh
      have := appS_len E []
      split
      · simp at this hlh ⊢; omega
      · simp
    | cons x r =>
      simp only
      rw [hh] at hlh
      have i1 := appS_len E r
      have i2 := appS_len E (x :: r)
      split
      · split
        · simp
        · split
          · simp only [List.length_append, List.length_cons] at hlh ⊢
            have : (if e.k = 2 then ([] : List PT) else [e.n]).length ≤ 1 := by split <;> simp
            omega
          · simp
      · split
        · simp only [List.length_append, List.length_cons] at hlh i2 ⊢; omega
        · simp
theorem findT_is {l : List PT} {x k : PT} (hl : Asc l) (hx : x ∈ l) (hk : eqK x k) : findT l k = some x := by
  cases h : findT l k with
  | none => exact absurd hk (findT_none.1 h x hx)
  | some y =>
    obtain ⟨hy, hyk⟩ := findT_some h
    rw [asc_uniq hl hy hx ⟨by have := hyk.1; have := hk.1; omega, by have := hyk.2; have := hk.2; omega⟩]
/-- an edit to a list: what the list has at its key -/
theorem diff_find {l a : List PT} (hl : Asc l) (ha : Asc a) {f : PE} (hf : f ∈ diffM l a) : (f.k = 2 → findT a (keyE f) = none) ∧ (f.k ≠ 2 → findT a (keyE f) = some f.n) := by
  rcases (mem_diffM l a hl ha f).1 hf with ⟨t, _, hno, rfl⟩ | ⟨u, hu, _, rfl⟩ | ⟨t, _, u, hu, hk, _, rfl⟩
  · refine ⟨fun _ => ?_, fun h => absurd rfl h⟩
    rw [show keyE ⟨2, t, zeroT⟩ = t by simp [keyE]]
    exact findT_none.2 fun u hu hc => hno u hu (eqK_symm hc)
  · refine ⟨fun h => (by cases h), fun _ => ?_⟩
    rw [show keyE ⟨1, zeroT, u⟩ = u by simp [keyE]]
    exact findT_is ha hu (eqK_refl u)
  · refine ⟨fun h => (by cases h), fun _ => ?_⟩
    rw [show keyE ⟨3, t, u⟩ = t by simp [keyE]]
    exact findT_is ha hu (eqK_symm hk)
/-- two edits at one key that leave the same are the same -/
theorem diff_same {l a b : List PT} (hl : Asc l) (ha : Asc a) (hb : Asc b) {f d : PE} (hf : f ∈ diffM l a) (hd : d ∈ diffM l b) (hk : eqK (keyE f) (keyE d)) (h : (f.k = 2 ∧ d.k = 2) ∨ (f.k ≠ 2 ∧ d.k ≠ 2 ∧ f.n = d.n)) : f = d := by
  rcases (mem_diffM l a hl ha f).1 hf with ⟨t, ht, _, rfl⟩ | ⟨u, _, hno, rfl⟩ | ⟨t, ht, u, _, hku, _, rfl⟩ <;>
    rcases (mem_diffM l b hl hb d).1 hd with ⟨t', ht', _, rfl⟩ | ⟨u', _, hno', rfl⟩ | ⟨t', ht', u', _, hku', _, rfl⟩ <;>
    simp [keyE] at hk h
  · rw [asc_uniq hl ht ht' hk]
  · rw [h]
  · exact absurd (eqK_symm hk) (hno t' ht')
  · exact absurd hk (hno' t ht)
  · rw [h, asc_uniq hl ht ht' hk]
/-- a conflict: the first one's side stands -/
theorem conf_spec {l a b R : List PT} (hl : chkT l = true) (ha : chkT a = true) (hb : chkT b = true) (hR : Asc R) (hm : ∀ x, x ∈ R ↔ (x ∈ l ∧ ∀ e ∈ (mgM (diffM l a) (diffM l b)).1, ¬ eqK x (keyE e)) ∨ (∃ e ∈ (mgM (diffM l a) (diffM l b)).1, e.k ≠ 2 ∧ x = e.n))
    {d : PE} (hd : d ∈ (mgM (diffM l a) (diffM l b)).2) : findT R (keyE d) = findT a (keyE d) ∧ (∀ x, findT a (keyE d) = some x → findT b (keyE d) ≠ some x) ∧ ¬ (findT a (keyE d) = none ∧ findT b (keyE d) = none) := by
  obtain ⟨_, ol, al⟩ := chkT_iff.1 hl
  obtain ⟨_, oa, aa⟩ := chkT_iff.1 ha
  obtain ⟨_, ob, ab⟩ := chkT_iff.1 hb
  obtain ⟨m1, m2, m3⟩ := mg_spec (diffM l a) (diffM l b) (asc_diffM l a al aa) (asc_diffM l b al ab)
  rw [m1] at hd
  obtain ⟨hdS, hcl⟩ := List.mem_filter.1 hd
  unfold clashB at hcl
  cases hf : findE (diffM l a) d with
  | none => rw [hf] at hcl; cases hcl
  | some f =>
    rw [hf] at hcl
    simp only [Bool.not_eq_true', ← Bool.not_eq_true] at hcl
    have hne : f ≠ d := fun e => hcl (eqE_iff.2 e)
    obtain ⟨hfF, hk⟩ := findE_some hf
    have hfP : f ∈ (mgM (diffM l a) (diffM l b)).1 := (m3 f).2 (.inl hfF)
    have hkey : ∀ L : List PT, findT L (keyE d) = findT L (keyE f) := fun L => by
      unfold findT
      congr 1
      funext u
      exact decide_eq_decide.2 ⟨fun h => ⟨by have := h.1; have := hk.1; omega, by have := h.2; have := hk.2; omega⟩, fun h => ⟨by have := h.1; have := hk.1; omega, by have := h.2; have := hk.2; omega⟩⟩
    obtain ⟨fa1, fa2⟩ := diff_find al aa hfF
    obtain ⟨db1, db2⟩ := diff_find al ab hdS
    have huniq : ∀ e ∈ (mgM (diffM l a) (diffM l b)).1, eqK (keyE e) (keyE f) → e = f := fun e he hc => by
      obtain ⟨i, hi, rfl⟩ := List.getElem_of_mem he
      obtain ⟨j, hj, hjf⟩ := List.getElem_of_mem hfP
      subst hjf
      rcases Nat.lt_trichotomy i j with h | h | h
      · exact absurd hc (ltK_neq (List.pairwise_iff_getElem.1 m2 i j hi hj h))
      · subst h; rfl
      · exact absurd hc (gtK_neq (List.pairwise_iff_getElem.1 m2 j i hj hi h))
    have okP : ∀ e ∈ (mgM (diffM l a) (diffM l b)).1, okE e = true := fun e he => by
      rcases (m3 e).1 he with h | ⟨h, _⟩
      · exact diffM_ok al aa ol oa e h
      · exact diffM_ok al ab ol ob e h
    rw [hkey R, hkey a]
    refine ⟨?_, ?_, ?_⟩
    · by_cases h2 : f.k = 2
      · rw [fa1 h2]
        refine findT_none.2 fun x hx hc => ?_
        rcases (hm x).1 hx with ⟨_, h⟩ | ⟨e, he, h3, rfl⟩
        · exact h f hfP hc
        · have h4 := ok_new (okP e he) h3
          have := huniq e he ⟨by have := hc.1; have := h4.1; omega, by have := hc.2; have := h4.2; omega⟩
          subst this
          exact h3 h2
      · rw [fa2 h2]
        exact findT_is hR ((hm f.n).2 (.inr ⟨f, hfP, h2, rfl⟩)) (ok_new (okP f hfP) h2)
    · intro x hx hbx
      by_cases h2 : f.k = 2
      · rw [fa1 h2] at hx; cases hx
      · by_cases h3 : d.k = 2
        · rw [db1 h3] at hbx; cases hbx
        · rw [fa2 h2] at hx
          rw [db2 h3] at hbx
          injection hx with hx
          injection hbx with hbx
          exact hne (diff_same al aa ab hfF hdS hk (.inr ⟨h2, h3, hx.trans hbx.symm⟩))
    · rintro ⟨hx, hbx⟩
      by_cases h2 : f.k = 2
      · by_cases h3 : d.k = 2
        · exact hne (diff_same al aa ab hfF hdS hk (.inl ⟨h2, h3⟩))
        · rw [db2 h3] at hbx; cases hbx
      · rw [fa2 h2] at hx; cases hx
end Go.Proofs.Ythfifejjfnmpoaa
