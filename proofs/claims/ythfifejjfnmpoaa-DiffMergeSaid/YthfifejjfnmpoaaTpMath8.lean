import Derived.Test.YthfifejjfnmpoaaTpMath4
import Derived.Test.YthfifejjfnmpoaaTpMath7
namespace Go.Proofs.Ythfifejjfnmpoaa
/-! Edits that fit a list are performed. -/
/-- an edit that fits -/
def Fits (l : List PT) (e : PE) : Prop := (e.k = 1 ∧ ∀ x ∈ l, ¬ eqK x (keyE e)) ∨ (e.k ≠ 1 ∧ e.o ∈ l)
theorem keyE_o {e : PE} (h : e.k ≠ 1) : keyE e = e.o := by unfold keyE; rw [if_neg h]
theorem perR_fits {l : List PT} {e : PE} (hl : Asc l) (hf : Fits l e) :
    (perR l e).1 = 0 ∧ ∀ x, x ∈ (perR l e).2 ↔ (x ∈ l ∧ ¬ eqK x (keyE e)) ∨ (e.k ≠ 2 ∧ x = e.n) := by
  rcases hf with ⟨hk, hno⟩ | ⟨hk, hm⟩
  · have hfn : findT l (keyE e) = none := findT_none.2 hno
    have e1 : perR l e = (0, insT l e.n) := by unfold perR; rw [hfn]; simp only; rw [if_pos hk]
    rw [e1]
    refine ⟨rfl, fun x => ?_⟩
    rw [insT_mem]
    constructor
    · rintro (rfl | h)
      · exact .inr ⟨by omega, rfl⟩
      · exact .inl ⟨h, hno x h⟩
    · rintro (⟨h, _⟩ | ⟨_, h⟩)
      · exact .inr h
      · exact .inl h
  · have hkey := keyE_o hk
    cases hf : findT l (keyE e) with
    | none => exact absurd (by rw [hkey]; exact eqK_refl _) (findT_none.1 hf e.o hm)
    | some y =>
      obtain ⟨hy, hyk⟩ := findT_some hf
      have hye : y = e.o := asc_uniq hl hy hm (by rw [hkey] at hyk; exact hyk)
      subst hye
      have e1 : perR l e = (0, if e.k = 2 then l.filter (fun y => !decide (eqK y (keyE e))) else insT (l.filter fun y => !decide (eqK y (keyE e))) e.n) := by
        unfold perR; rw [hf]; simp only; rw [if_neg hk, if_pos (eqT_iff.2 rfl)]
      rw [e1]
      refine ⟨rfl, fun x => ?_⟩
      have hfil : x ∈ l.filter (fun y => !decide (eqK y (keyE e))) ↔ x ∈ l ∧ ¬ eqK x (keyE e) := by simp [List.mem_filter]
      simp only
      by_cases h2 : e.k = 2
      · rw [if_pos h2, hfil]
        constructor
        · exact .inl
        · rintro (h | ⟨h, _⟩)
          · exact h
          · exact absurd h2 h
      · rw [if_neg h2, insT_mem, hfil]
        constructor
        · rintro (h | h)
          · exact .inr ⟨h2, h⟩
          · exact .inl h
        · rintro (h | ⟨_, h⟩)
          · exact .inr h
          · exact .inl h
theorem appR_fits : ∀ (E : List PE) (l : List PT), Asc l → AscE E → (∀ e ∈ E, okE e = true) → (∀ e ∈ E, Fits l e) →
    ∃ R, appR l E = (0, R) ∧ Asc R ∧ ∀ x, x ∈ R ↔ (x ∈ l ∧ ∀ e ∈ E, ¬ eqK x (keyE e)) ∨ (∃ e ∈ E, e.k ≠ 2 ∧ x = e.n)
  | [], l, hl, _, _, _ => ⟨l, rfl, hl, fun x => by simp⟩
  | e :: E, l, hl, hs, ho, hf => by
    obtain ⟨hs1, hs2⟩ := List.pairwise_cons.1 hs
    have hoe := ho e (by simp)
    obtain ⟨p1, p2⟩ := perR_fits hl (hf e (by simp))
    have hnew : ∀ f ∈ E, Fits (perR l e).2 f := fun f hfE => by
      rcases hf f (by simp [hfE]) with ⟨hk, hno⟩ | ⟨hk, hm⟩
      · left
        refine ⟨hk, fun x hx hc => ?_⟩
        rcases (p2 x).1 hx with ⟨h, _⟩ | ⟨h2, rfl⟩
        · exact hno x h hc
        · have h3 := ok_new hoe h2
          exact ltK_neq (hs1 f hfE) ⟨by have := hc.1; have := h3.1; omega, by have := hc.2; have := h3.2; omega⟩
      · right
        refine ⟨hk, (p2 f.o).2 (.inl ⟨hm, fun hc => ?_⟩)⟩
        rw [← keyE_o hk] at hc
        exact gtK_neq (hs1 f hfE) hc
    obtain ⟨R, r1, r2, r3⟩ := appR_fits E (perR l e).2 (perR_asc hl hoe) hs2 (fun f hfE => ho f (by simp [hfE])) hnew
    refine ⟨R, by rw [show appR l (e :: E) = if (perR l e).1 = 0 then appR (perR l e).2 E else ((perR l e).1, []) from rfl, if_pos p1, r1], r2, fun x => ?_⟩
    rw [r3, p2]
    constructor
    · rintro (⟨⟨h1, h2⟩ | ⟨h1, h2⟩, h3⟩ | ⟨f, hfE, h1, h2⟩)
      · refine .inl ⟨h1, fun f hfE => ?_⟩
        rcases List.mem_cons.1 hfE with rfl | hfE
        · exact h2
        · exact h3 f hfE
      · exact .inr ⟨e, by simp, h1, h2⟩
      · exact .inr ⟨f, by simp [hfE], h1, h2⟩
    · rintro (⟨h1, h2⟩ | ⟨f, hfE, h1, h2⟩)
      · exact .inl ⟨.inl ⟨h1, h2 e (by simp)⟩, fun f hfE => h2 f (by simp [hfE])⟩
      · rcases List.mem_cons.1 hfE with rfl | hfE
        · refine .inl ⟨.inr ⟨h1, h2⟩, fun g hg hc => ?_⟩
          subst h2
          have h3 := ok_new hoe h1
          exact ltK_neq (hs1 g hg) ⟨by have := hc.1; have := h3.1; omega, by have := hc.2; have := h3.2; omega⟩
        · exact .inr ⟨f, hfE, h1, h2⟩
/-- the edits to another list fit -/
theorem diff_fits {a b : List PT} (ha : Asc a) (hb : Asc b) {e : PE} (h : e ∈ diffM a b) : Fits a e := by
  rcases (mem_diffM a b ha hb e).1 h with ⟨t, ht, _, rfl⟩ | ⟨u, hu, hno, rfl⟩ | ⟨t, ht, u, hu, _, _, rfl⟩
  · exact .inr ⟨(fun h => by cases h), ht⟩
  · refine .inl ⟨rfl, fun x hx hc => hno x hx ?_⟩
    simpa [keyE] using hc
  · exact .inr ⟨(fun h => by cases h), ht⟩
/-- a merge is performed -/
theorem merge_good {l a b : List PT} (hl : chkT l = true) (ha : chkT a = true) (hb : chkT b = true) :
    ∃ R, appS l (mgM (diffM l a) (diffM l b)).1 = (0, R) ∧ Asc R ∧ (∀ x, x ∈ R ↔ (x ∈ l ∧ ∀ e ∈ (mgM (diffM l a) (diffM l b)).1, ¬ eqK x (keyE e)) ∨ (∃ e ∈ (mgM (diffM l a) (diffM l b)).1, e.k ≠ 2 ∧ x = e.n)) ∧ (∀ e ∈ (mgM (diffM l a) (diffM l b)).1, okE e = true) ∧ AscE (mgM (diffM l a) (diffM l b)).1 := by
  obtain ⟨_, ol, al⟩ := chkT_iff.1 hl
  obtain ⟨_, oa, aa⟩ := chkT_iff.1 ha
  obtain ⟨_, ob, ab⟩ := chkT_iff.1 hb
  obtain ⟨_, m2, m3⟩ := mg_spec (diffM l a) (diffM l b) (asc_diffM l a al aa) (asc_diffM l b al ab)
  have hok : ∀ e ∈ (mgM (diffM l a) (diffM l b)).1, okE e = true := fun e he => by
    rcases (m3 e).1 he with h | ⟨h, _⟩
    · exact diffM_ok al aa ol oa e h
    · exact diffM_ok al ab ol ob e h
  have hfit : ∀ e ∈ (mgM (diffM l a) (diffM l b)).1, Fits l e := fun e he => by
    rcases (m3 e).1 he with h | ⟨h, _⟩
    · exact diff_fits al aa h
    · exact diff_fits al ab h
  obtain ⟨R, r1, r2, r3⟩ := appR_fits _ l al m2 hok hfit
  rw [appR_S al m2 hok] at r1
  by_cases hz : (appS l (mgM (diffM l a) (diffM l b)).1).1 = 0
  · rw [if_pos hz] at r1
    injection r1 with _ r1
    exact ⟨R, Prod.ext hz r1, r2, r3, hok, m2⟩
  · rw [if_neg hz] at r1
    injection r1 with h1
    exact absurd h1 hz
end Go.Proofs.Ythfifejjfnmpoaa
