import Derived.Test.YthfifejjfnmpoaaTpMath9
import Derived.Test.YthfifejjfnmpoaaTp26
namespace Go.Proofs.Ythfifejjfnmpoaa
/-! Merges of small lists. -/
theorem chkE_diff {a b : List PT} (ha : chkT a = true) (hb : chkT b = true) : chkG okE keyE (diffM a b) = true := by
  obtain ⟨_, oa, aa⟩ := chkT_iff.1 ha
  obtain ⟨_, ob, ab⟩ := chkT_iff.1 hb
  exact chkG_iff.2 ⟨diffM_ok aa ab oa ob, List.pairwise_map.2 (asc_diffM a b aa ab)⟩
theorem apV_patch {a b : List PT} (ha : chkT a = true) (hb : chkT b = true) : apV a (diffM a b) = (0, b) := by
  obtain ⟨_, _, aa⟩ := chkT_iff.1 ha
  obtain ⟨nb, _, ab⟩ := chkT_iff.1 hb
  unfold apV
  rw [if_pos ha, if_pos (chkE_diff ha hb), patch a b aa ab, if_pos rfl, if_neg (by simp only; omega)]
theorem mgV_right {l a : List PT} (hl : chkT l = true) (ha : chkT a = true) : mgV l a l = (0, a, []) := by
  unfold mgV
  rw [if_pos ⟨hl, ha, hl⟩, diffM_self, mg_nil_r]
  simp only
  rw [apV_patch hl ha]
  rfl
theorem mgV_left {l a : List PT} (hl : chkT l = true) (ha : chkT a = true) : mgV l l a = (0, a, []) := by
  unfold mgV
  rw [if_pos ⟨hl, hl, ha⟩, diffM_self, mg_nil]
  simp only
  rw [apV_patch hl ha]
  rfl
theorem mgV_good {l a b : List PT} (hl : chkT l = true) (ha : chkT a = true) (hb : chkT b = true) (h1 : l.length ≤ 5) (h2 : a.length ≤ 8) (h3 : b.length ≤ 8) :
    ∃ R, mgV l a b = (0, R, (mgM (diffM l a) (diffM l b)).2) ∧ apV l (mgM (diffM l a) (diffM l b)).1 = (0, R) ∧ Asc R ∧ R.length ≤ 100 ∧ (∀ x ∈ R, okT x = true) ∧ (∀ x, x ∈ R ↔ (x ∈ l ∧ ∀ e ∈ (mgM (diffM l a) (diffM l b)).1, ¬ eqK x (keyE e)) ∨ (∃ e ∈ (mgM (diffM l a) (diffM l b)).1, e.k ≠ 2 ∧ x = e.n)) := by
  obtain ⟨R, r1, r2, r3, r4, r5⟩ := merge_good hl ha hb
  obtain ⟨_, ol, al⟩ := chkT_iff.1 hl
  obtain ⟨_, _, aa⟩ := chkT_iff.1 ha
  obtain ⟨_, _, ab⟩ := chkT_iff.1 hb
  have n1 := dM_len l a al aa
  have n2 := dM_len l b al ab
  have n3 := mg_len (diffM l a) (diffM l b)
  have n4 := appS_len (mgM (diffM l a) (diffM l b)).1 l
  rw [r1] at n4
  simp only at n4
  have hc : chkG okE keyE (mgM (diffM l a) (diffM l b)).1 = true := chkG_iff.2 ⟨r4, List.pairwise_map.2 r5⟩
  have hap : apV l (mgM (diffM l a) (diffM l b)).1 = (0, R) := by
    unfold apV
    rw [if_pos hl, if_pos hc, r1, if_pos rfl, if_neg (by simp only; omega)]
  refine ⟨R, ?_, hap, r2, by omega, fun x hx => ?_, r3⟩
  · unfold mgV
    rw [if_pos ⟨hl, ha, hb⟩, hap]
    rfl
  · rcases (r3 x).1 hx with ⟨h, _⟩ | ⟨e, he, h2, rfl⟩
    · exact ol x h
    · exact okE_new (r4 e he) h2
theorem mgV_swap {l a b : List PT} (hl : chkT l = true) (ha : chkT a = true) (hb : chkT b = true) (h1 : l.length ≤ 5) (h2 : a.length ≤ 8) (h3 : b.length ≤ 8) :
    (mgV l a b).1 = 0 ∧ (mgV l b a).1 = 0 ∧ (mgV l a b).2.2.length = (mgV l b a).2.2.length ∧ ((mgV l a b).2.2.length = 0 → (mgV l b a).2.1 = (mgV l a b).2.1) := by
  obtain ⟨R, e1, p1, _⟩ := mgV_good hl ha hb h1 h2 h3
  obtain ⟨R', e2, p2, _⟩ := mgV_good hl hb ha h1 h3 h2
  obtain ⟨s1, s2⟩ := mg_swap (diffM l a) (diffM l b)
  rw [e1, e2]
  refine ⟨rfl, rfl, s1, fun h => ?_⟩
  have hn := List.eq_nil_of_length_eq_zero h
  rw [s2 hn, p2] at p1
  injection p1
end Go.Proofs.Ythfifejjfnmpoaa
