import Derived.Test.YtbmbdenjlbelaaaIneMath4
namespace Go.Proofs.Ytbmbdenjlbelaaa

/-- a walk from x to y along arcs, at each step to an event that was found later -/
def Suf (acts : List Act) (tree : List Int) (idx : Int → Nat) : Int → List Int → List Int → Int → Prop
  | x, [], [], y => x = y
  | x, a :: as, s :: ss, y => stE (ag acts a) s = x ∧ (s = 1 ∨ s = -1) ∧ a ∈ tree ∧ idx x < idx (enE (ag acts a) s) ∧ Suf acts tree idx (enE (ag acts a) s) as ss y
  | _, _, _, _ => False
section
variable {acts : List Act} {tree : List Int} {idx : Int → Nat}
theorem Suf.len : ∀ {x : Int} {as ss : List Int} {y : Int}, Suf acts tree idx x as ss y → as.length = ss.length
  | _, [], [], _, _ => rfl
  | _, a :: as, s :: ss, _, h => by simp [Suf.len h.2.2.2.2]
  | _, _ :: _, [], _, h => by simp [Suf] at h
  | _, [], _ :: _, _, h => by simp [Suf] at h
theorem gi_zero (a : Int) (l : List Int) : gi (a :: l) ((0 : Nat) : Int) = a := rfl
theorem gi_succ (a : Int) (l : List Int) (k : Nat) : gi (a :: l) ((k + 1 : Nat) : Int) = gi l (k : Int) := by simp [gi]
theorem stC_zero (a s : Int) (as ss : List Int) : stC acts (a :: as) (s :: ss) 0 = stE (ag acts a) s := rfl
theorem stC_succ (a s : Int) (as ss : List Int) (k : Nat) : stC acts (a :: as) (s :: ss) (k + 1) = stC acts as ss k := by unfold stC; rw [gi_succ, gi_succ]
theorem enC_zero (a s : Int) (as ss : List Int) : enC acts (a :: as) (s :: ss) 0 = enE (ag acts a) s := rfl
theorem enC_succ (a s : Int) (as ss : List Int) (k : Nat) : enC acts (a :: as) (s :: ss) (k + 1) = enC acts as ss k := by unfold enC; rw [gi_succ, gi_succ]
/-- along a walk -/
theorem Suf.step : ∀ {x : Int} {as ss : List Int} {y : Int}, Suf acts tree idx x as ss y → ∀ k, k < as.length →
    gi as k ∈ tree ∧ (gi ss k = 1 ∨ gi ss k = -1) ∧ idx (stC acts as ss k) < idx (enC acts as ss k) ∧ (k = 0 → stC acts as ss k = x) ∧ (k + 1 < as.length → stC acts as ss (k + 1) = enC acts as ss k) ∧ (k + 1 = as.length → enC acts as ss k = y) ∧ idx x ≤ idx (stC acts as ss k)
  | x, [], [], y, _, k, hk => by simp at hk
  | x, a :: as, s :: ss, y, h, 0, hk => by
    obtain ⟨h1, h2, h3, h4, h5⟩ := h
    refine ⟨by rw [gi_zero]; exact h3, by rw [gi_zero]; exact h2, by rw [stC_zero, enC_zero, h1]; exact h4, fun _ => by rw [stC_zero, h1], fun hl => ?_, fun hl => ?_, by rw [stC_zero, h1]; exact Nat.le_refl _⟩
    · rw [stC_succ, enC_zero]
      exact (h5.step 0 (by simp at hl; omega)).2.2.2.1 rfl
    · rw [enC_zero]
      have : as = [] := List.eq_nil_of_length_eq_zero (by rw [List.length_cons] at hl; omega)
      subst this
      cases ss with
      | nil => exact h5
      | cons _ _ => simp [Suf] at h5
  | x, a :: as, s :: ss, y, h, k + 1, hk => by
    obtain ⟨h1, h2, h3, h4, h5⟩ := h
    have hk' : k < as.length := by simpa using hk
    obtain ⟨g1, g2, g3, g4, g5, g6, g7⟩ := h5.step k hk'
    refine ⟨by rw [gi_succ]; exact g1, by rw [gi_succ]; exact g2, by rw [stC_succ, enC_succ]; exact g3, fun e => by omega, fun hl => ?_, fun hl => ?_, by rw [stC_succ]; omega⟩
    · rw [stC_succ, enC_succ]; exact g5 (by simp at hl; omega)
    · rw [enC_succ]; exact g6 (by simp at hl; omega)
  | _, _ :: _, [], _, h, _, _ => by simp [Suf] at h
  | _, [], _ :: _, _, h, _, _ => by simp [Suf] at h
theorem Suf.mono {x : Int} {as ss : List Int} {y : Int} (h : Suf acts tree idx x as ss y) {i j : Nat} (hij : i < j) (hj : j < as.length) : idx (enC acts as ss i) ≤ idx (stC acts as ss j) := by
  induction j with
  | zero => omega
  | succ j ih =>
    have hs := (h.step j (by omega)).2.2.2.2.1 hj
    rw [hs]
    rcases Nat.lt_or_ge i j with h1 | h1
    · have := ih h1 (by omega)
      have := (h.step j (by omega)).2.2.1
      omega
    · obtain rfl : i = j := by omega
      exact Nat.le_refl _
theorem mx_is (a : Act) (s : Int) (h : idx (stE a s) < idx (enE a s)) : max (idx a.fr) (idx a.tt) = idx (enE a s) := by
  unfold stE enE at *
  split at h <;> rename_i hs
  · rw [if_pos hs]; omega
  · rw [if_neg hs]; omega
theorem Suf.arcs_ne {x : Int} {as ss : List Int} {y : Int} (h : Suf acts tree idx x as ss y) {i j : Nat} (hij : i < j) (hj : j < as.length) : gi as i ≠ gi as j := by
  intro e
  have h1 : max (idx (ag acts (gi as i)).fr) (idx (ag acts (gi as i)).tt) = idx (enC acts as ss i) := mx_is _ _ (h.step i (by omega)).2.2.1
  have h2 : max (idx (ag acts (gi as j)).fr) (idx (ag acts (gi as j)).tt) = idx (enC acts as ss j) := mx_is _ _ (h.step j hj).2.2.1
  rw [e] at h1
  have h3 := h.mono hij hj
  have h4 := (h.step j hj).2.2.1
  have h5 : idx (enC acts as ss i) = idx (enC acts as ss j) := h1.symm.trans h2
  omega
/-- the cycle of an activity and the walk back -/
theorem fund_cyc {T : Int} {ne : Nat} (hn : NetOk T ne acts) (hr : ∀ a ∈ tree, 0 ≤ a ∧ a < (acts.length : Int)) (i : Nat) (hi : i < acts.length) (hni : (i : Int) ∉ tree) {as ss : List Int} (h : Suf acts tree idx acts[i].tt as ss acts[i].fr) :
    CycOk T ne acts ((i : Int) :: as) (1 :: ss) := by
  have hl := h.len
  have ha := ag_nat acts i hi
  have hne : acts[i].fr ≠ acts[i].tt := (hn.a _ (List.getElem_mem hi)).ft
  have hpos : 0 < as.length := by
    cases as with
    | nil =>
      cases ss with
      | nil => exact absurd h.symm hne
      | cons _ _ => simp [Suf] at h
    | cons _ _ => simp
  have st0 : stC acts ((i : Int) :: as) (1 :: ss) 0 = acts[i].fr := by rw [stC_zero, ha]; rfl
  have en0 : enC acts ((i : Int) :: as) (1 :: ss) 0 = acts[i].tt := by rw [enC_zero, ha]; rfl
  refine ⟨hn, by simp [hl], by simp; omega, fun k hk => ?_, fun k hk => ?_, fun p q hpq hq => ?_⟩
  · cases k with
    | zero => exact ⟨by rw [gi_zero]; omega, by rw [gi_zero]; omega, .inl rfl, fun j hj => by omega⟩
    | succ k =>
      have hk' : k < as.length := by simpa using hk
      have hs := h.step k hk'
      have hrg := hr _ hs.1
      refine ⟨by rw [gi_succ]; exact hrg.1, by rw [gi_succ]; exact hrg.2, by rw [gi_succ]; exact hs.2.1, fun j hj => ?_⟩
      rw [gi_succ]
      cases j with
      | zero => rw [gi_zero]; intro e; exact hni (by rw [e]; exact hs.1)
      | succ j => rw [gi_succ]; exact h.arcs_ne (by omega) hk'
  · simp only [List.length_cons] at hk ⊢
    by_cases hlast : k = as.length
    · subst hlast
      rw [Nat.mod_self, st0]
      obtain ⟨m, hm⟩ : ∃ m, as.length = m + 1 := ⟨as.length - 1, by omega⟩
      rw [hm, enC_succ]
      exact ((h.step m (by omega)).2.2.2.2.2.1 (by omega)).symm
    · rw [Nat.mod_eq_of_lt (by omega), stC_succ]
      cases k with
      | zero => rw [en0]; exact (h.step 0 hpos).2.2.2.1 rfl
      | succ k => rw [enC_succ]; exact (h.step k (by omega)).2.2.2.2.1 (by omega)
  · simp only [List.length_cons] at hq
    have hlt : ∀ p q, p < q → q < as.length → idx (stC acts as ss p) < idx (stC acts as ss q) := fun p q hpq hq => by
      have h1 := h.mono hpq hq
      have h2 := (h.step p (by omega)).2.2.1
      omega
    cases q with
    | zero => omega
    | succ q =>
      cases p with
      | zero =>
        rw [st0, stC_succ]
        intro e
        obtain ⟨m, hm⟩ : ∃ m, as.length = m + 1 := ⟨as.length - 1, by omega⟩
        have h1 := h.step m (by omega)
        have h2 := h1.2.2.2.2.2.1 (by omega)
        have h3 := h1.2.2.1
        rw [h2, e] at h3
        rcases Nat.lt_or_ge q m with hqm | hqm
        · have := hlt q m hqm (by omega); omega
        · obtain rfl : q = m := by omega
          omega
      | succ p =>
        rw [stC_succ, stC_succ]
        intro e
        have := hlt p q (by omega) (by omega)
        rw [e] at this
        omega
end
end Go.Proofs.Ytbmbdenjlbelaaa
