import Derived.Test.YtbmbdenjlbelaaaPkMath
import Derived.Test.YtbmbdenjlbelaaaBdMath4
namespace Go.Proofs.Ytbmbdenjlbelaaa
section
variable {T : Int} {ne : Nat} {acts : List Act} {l : List Cyc}
def prV (p : Prt) : List Int × List Int × Int := (p.c.arcs, p.c.signs, p.tm)
theorem gapE_cyc {arcs signs : List Int} (h : gapE T ne acts arcs signs = 0) : CycOk T ne acts arcs signs := by
  unfold gapE at h
  split at h
  · rename_i h2; exact cycB_iff.1 h2
  · cases h
theorem pkAll_succ (k : Nat) (hk : k < l.length) : pkAll T ne acts l (k + 1) = pkStep T ne acts l[k].arcs l[k].signs (pkAll T ne acts l k) := by
  show (match l[k]? with | some c => pkStep T ne acts c.arcs c.signs (pkAll T ne acts l k) | none => pkAll T ne acts l k) = _
  rw [List.getElem?_eq_getElem hk]
theorem pkAll_ok (hn : NetOk T ne acts) (k : Nat) (hk : k ≤ l.length) (h : ∀ i (h : i < l.length), i < k → gapE T ne acts l[i].arcs l[i].signs = 0) : PkOk acts (pkAll T ne acts l k) := by
  induction k with
  | zero => exact pkInit_ok hn
  | succ k ih =>
    rw [pkAll_succ k (by omega)]
    exact pkStep_ok (gapE_cyc (h k (by omega) (by omega))) (ih (by omega) (fun i hi hik => h i hi (by omega)))
theorem pkErr_all : ∀ {l : List Cyc}, (∀ c ∈ l, gapE T ne acts c.arcs c.signs = 0) → pkErr T ne acts l = 0
  | [], _ => rfl
  | c :: r, h => by
    unfold pkErr
    rw [if_pos (h c List.mem_cons_self)]
    exact pkErr_all (fun c hc => h c (List.mem_cons_of_mem _ hc))
theorem pkErr_zero : ∀ {l : List Cyc}, pkErr T ne acts l = 0 → ∀ c ∈ l, gapE T ne acts c.arcs c.signs = 0
  | [], _, c, hc => by simp at hc
  | c :: r, h, c', hc => by
    unfold pkErr at h
    split at h
    · rename_i h0
      rcases List.mem_cons.1 hc with rfl | hc
      · exact h0
      · exact pkErr_zero h _ hc
    · rename_i h0; exact absurd h h0
/-- cycles that are permitted give no other error than 'infeasible' -/
theorem pkErr_cyc : ∀ {l : List Cyc}, (∀ c ∈ l, CycOk T ne acts c.arcs c.signs) → pkErr T ne acts l = 0 ∨ pkErr T ne acts l = 14
  | [], _ => .inl rfl
  | c :: r, h => by
    have h1 : gapE T ne acts c.arcs c.signs = 0 ∨ gapE T ne acts c.arcs c.signs = 14 := by
      unfold gapE
      rw [if_pos (cycB_yes (h c List.mem_cons_self))]
      split
      · exact .inl rfl
      · exact .inr rfl
    unfold pkErr
    split
    · exact pkErr_cyc (fun c hc => h c (List.mem_cons_of_mem _ hc))
    · rename_i h0; exact .inr (h1.resolve_left h0)
theorem packE_cyc (hn : NetOk T ne acts) (h : ∀ c ∈ l, CycOk T ne acts c.arcs c.signs) : packE T ne acts l = 0 ∨ packE T ne acts l = 14 := by
  unfold packE
  rw [if_pos (netB_yes hn)]
  exact pkErr_cyc h
theorem packE_zero (h : packE T ne acts l = 0) : NetOk T ne acts ∧ ∀ c ∈ l, gapE T ne acts c.arcs c.signs = 0 := by
  unfold packE at h
  split at h
  · rename_i hn; exact ⟨netB_iff.1 hn, pkErr_zero h⟩
  · cases h
/-- with feasible times no cycle lacks its gap -/
theorem packE_feas {x : List Int} (hn : NetOk T ne acts) (hf : feas T acts x) (h : ∀ c ∈ l, CycOk T ne acts c.arcs c.signs) : packE T ne acts l = 0 := by
  unfold packE
  rw [if_pos (netB_yes hn)]
  refine pkErr_all fun c hc => ?_
  unfold gapE
  rw [if_pos (cycB_yes (h c hc)), if_pos (gap_law (h c hc) hf).1]
theorem left_bd {s : PkSt} {arcs signs : List Int} (hn : NetOk T ne acts) (hc : CycOk T ne acts arcs signs) (h : PkOk acts s) : 0 ≤ minA s.left arcs arcs.length ∧ minA s.left arcs arcs.length ≤ 1048576 := by
  have h2 := hc.two
  have hrg : ∀ i : Nat, i < arcs.length → 0 ≤ gi arcs i ∧ gi arcs i < acts.length := fun i hi => ⟨(hc.arc i hi).a0, (hc.arc i hi).a1⟩
  have hge : ∀ i : Nat, i < arcs.length → 0 ≤ gi s.left (gi arcs i) ∧ gi s.left (gi arcs i) ≤ 1048576 := fun i hi => by
    have h3 := h.bd (gi arcs i).toNat (by have := hrg i hi; omega)
    have h4 := (hn.a _ (ag_mem acts (gi arcs i).toNat (by omega) (by have := hrg i hi; omega))).w1
    rw [Int.toNat_of_nonneg (hrg i hi).1] at h3 h4
    omega
  refine ⟨minA_bd s.left arcs (fun i hi => (hge i hi).1) (by omega) arcs.length (Nat.le_refl _), ?_⟩
  have := minA_le s.left arcs arcs.length 0 (by omega)
  have := (hge 0 (by omega)).2
  omega
/-- the parts of Pack: permitted, and what they use is what is not left -/
theorem pack_inv (hn : NetOk T ne acts) (k : Nat) (hk : k ≤ l.length) (h : ∀ i (h : i < l.length), i < k → gapE T ne acts l[i].arcs l[i].signs = 0) (ps : List Prt) (hp : ps.map prV = (pkAll T ne acts l k).out) :
    PrOk T ne acts ps ps.length ∧ (∀ i : Nat, i < acts.length → sumN (uT ps i) ps.length = (ag acts i).wt - gi (pkAll T ne acts l k).left i) ∧ (pkAll T ne acts l k).bnd = baseS acts + sumN (prT T ne acts ps) ps.length := by
  induction k generalizing ps with
  | zero =>
    have : ps = [] := by
      have := congrArg List.length hp
      simp [pkAll, pkInit] at this
      exact this
    subst this
    refine ⟨fun i hi => by simp at hi, fun i hi => ?_, ?_⟩
    · show (0 : Int) = _ - gi (acts.map (·.wt)) i
      rw [gi_nat _ i (by simpa using hi), ag_nat acts i hi]; simp
    · show baseS acts = baseS acts + 0
      omega
  | succ k ih =>
    have hc := gapE_cyc (h k (by omega) (by omega))
    have hg := h k (by omega) (by omega)
    have hok := pkAll_ok hn k (by omega) (fun i hi hik => h i hi (by omega))
    have ih := ih (by omega) (fun i hi hik => h i hi (by omega))
    rw [pkAll_succ k (by omega)] at hp ⊢
    generalize pkAll T ne acts l k = s at *
    generalize l[k] = c at *
    unfold pkStep at hp ⊢
    have hm := left_bd hn hc hok
    split at hp
    · rename_i hlt
      rw [if_pos hlt]
      exact ih ps hp
    · rename_i hlt
      rw [if_neg hlt]
      generalize minA s.left c.arcs c.arcs.length = tm at *
      have hlast : ∃ p0 p, ps = p0 ++ [p] ∧ p0.map prV = s.out ∧ prV p = (c.arcs, c.signs, tm) := by
        obtain ⟨l1, l2, rfl, h1, h2⟩ := List.map_eq_append_iff.1 hp
        obtain ⟨a, t, rfl, h3, h4⟩ := List.map_eq_cons_iff.1 h2
        have : t = [] := by simpa using h4
        subst this
        exact ⟨l1, a, rfl, h1, h3⟩
      obtain ⟨p0, p, rfl, h1, h2⟩ := hlast
      obtain ⟨i1, i2, i3⟩ := ih p0 h1
      have e1 : p.c.arcs = c.arcs := congrArg (·.1) h2
      have e2 : p.c.signs = c.signs := congrArg (·.2.1) h2
      have e3 : p.tm = tm := congrArg (·.2.2) h2
      have hpe : prE T ne acts p = 0 := by
        unfold prE
        rw [if_pos (by omega), e1, e2]
        exact hg
      have hl : (p0 ++ [p]).length = p0.length + 1 := by simp
      refine ⟨fun i hi _ => ?_, fun i hi => ?_, ?_⟩
      · rcases Nat.lt_or_ge i p0.length with h3 | h3
        · rw [List.getElem_append_left h3]; exact i1 i h3 h3
        · obtain rfl : i = p0.length := by omega
          simpa using hpe
      · rw [hl]
        show sumN (uT (p0 ++ [p]) i) p0.length + uT (p0 ++ [p]) i p0.length = _ - gi (addL (-tm) s.left c.arcs) i
        rw [sumN_congr _ (uT p0 i) _ (fun j hj => uT_left i j hj), i2 i hi, addL_gi _ _ _ _ hc.nodup (by rw [hok.len]; exact hc.range) (by omega)]
        have : uT (p0 ++ [p]) i p0.length = if (i : Int) ∈ c.arcs then tm else 0 := by
          unfold uT
          rw [List.getElem?_append_right (Nat.le_refl _)]
          simp [e1, e3]
        rw [this]
        split <;> omega
      · rw [hl]
        show s.bnd + tm * gapV T ne acts c.arcs c.signs = baseS acts + (sumN (prT T ne acts (p0 ++ [p])) p0.length + prT T ne acts (p0 ++ [p]) p0.length)
        rw [sumN_congr _ (prT T ne acts p0) _ (fun j hj => prT_left j hj), i3]
        have : prT T ne acts (p0 ++ [p]) p0.length = tm * gapV T ne acts c.arcs c.signs := by
          unfold prT
          rw [List.getElem?_append_right (Nat.le_refl _)]
          simp [e1, e2, e3]
        rw [this]
        omega
theorem gap_all (h : ∀ c ∈ l, gapE T ne acts c.arcs c.signs = 0) (k : Nat) : ∀ i (h : i < l.length), i < k → gapE T ne acts l[i].arcs l[i].signs = 0 := fun _ hi _ => h _ (List.getElem_mem hi)
/-- Check accepts the parts of Pack, with the same bound -/
theorem pack_chk (h : packE T ne acts l = 0) (ps : List Prt) (hp : ps.map prV = packO T ne acts l) : chkE T ne acts ps = 0 ∧ chkV T ne acts ps = packB T ne acts l ∧ baseS acts ≤ packB T ne acts l := by
  obtain ⟨hn, hg⟩ := packE_zero h
  unfold packO at hp
  rw [if_pos h] at hp
  have hok := pkAll_ok hn l.length (Nat.le_refl _) (gap_all hg _)
  obtain ⟨h1, h2, h3⟩ := pack_inv hn l.length (Nat.le_refl _) (gap_all hg _) ps hp
  have hov : overB acts (usL acts ps ps.length) = false := over_mk fun i hi => by
    rw [usL_sum _ (Nat.le_refl _) h1 i (by omega), h2 i hi]
    have := (hok.bd i hi).1
    omega
  have he := chk_ok hn h1 hov
  refine ⟨he, ?_, ?_⟩
  · rw [(chk_zero he).2.2.2, ← h3]
    unfold packB
    rw [if_pos h]
  · unfold packB
    rw [if_pos h]
    exact hok.b0
/-- what is left only shrinks -/
theorem left_mono (hn : NetOk T ne acts) (hg : ∀ c ∈ l, gapE T ne acts c.arcs c.signs = 0) (j k : Nat) (hjk : j ≤ k) (hk : k ≤ l.length) (a : Nat) : gi (pkAll T ne acts l k).left a ≤ gi (pkAll T ne acts l j).left a := by
  induction k with
  | zero =>
    obtain rfl : j = 0 := by omega
    exact Int.le_refl _
  | succ k ih =>
    rcases Nat.lt_or_ge k j with h | h
    · obtain rfl : j = k + 1 := by omega
      exact Int.le_refl _
    · have h1 := ih h (by omega)
      have hc := gapE_cyc (hg l[k] (List.getElem_mem (by omega)))
      have hok := pkAll_ok hn k (by omega) (gap_all hg k)
      rw [pkAll_succ k (by omega)]
      unfold pkStep
      split
      · exact h1
      · show gi (addL _ _ _) a ≤ _
        rw [addL_gi _ _ _ _ hc.nodup (by rw [hok.len]; exact hc.range) (by omega)]
        have := (left_bd hn hc hok).1
        split <;> omega
theorem minA_at (left arcs : List Int) (h : 0 < arcs.length) : ∀ k, k ≤ arcs.length → ∃ i : Nat, i < arcs.length ∧ minA left arcs k = gi left (gi arcs i)
  | 0, _ => ⟨0, h, rfl⟩
  | k + 1, hk => by
    obtain ⟨i, hi, e⟩ := minA_at left arcs h k (by omega)
    unfold minA
    rcases Int.le_total (minA left arcs k) (gi left (gi arcs k)) with h1 | h1
    · exact ⟨i, hi, by rw [Int.min_eq_left h1]; exact e⟩
    · exact ⟨k, by omega, by rw [Int.min_eq_right h1]⟩
/-- after Pack no cycle with a gap can be added -/
theorem pack_max (h : packE T ne acts l = 0) (ps : List Prt) (hp : ps.map prV = packO T ne acts l) (j : Nat) (hj : j < l.length) (hgp : gapV T ne acts l[j].arcs l[j].signs ≠ 0) (q : Prt) (hq : prV q = (l[j].arcs, l[j].signs, 1)) : chkE T ne acts (ps ++ [q]) = 4 := by
  obtain ⟨hn, hg⟩ := packE_zero h
  unfold packO at hp
  rw [if_pos h] at hp
  obtain ⟨h1, h2, h3⟩ := pack_inv hn l.length (Nat.le_refl _) (gap_all hg _) ps hp
  have hc := gapE_cyc (hg l[j] (List.getElem_mem hj))
  have hok := pkAll_ok hn j (by omega) (gap_all hg j)
  have hoke := pkAll_ok hn l.length (Nat.le_refl _) (gap_all hg _)
  have e1 : q.c.arcs = l[j].arcs := congrArg (·.1) hq
  have e2 : q.c.signs = l[j].signs := congrArg (·.2.1) hq
  have e3 : q.tm = 1 := congrArg (·.2.2) hq
  have hpe : prE T ne acts q = 0 := by
    unfold prE
    rw [if_pos (by omega), e1, e2]
    exact hg _ (List.getElem_mem hj)
  have hall : PrOk T ne acts (ps ++ [q]) (ps ++ [q]).length := fun i hi _ => by
    rcases Nat.lt_or_ge i ps.length with h3 | h3
    · rw [List.getElem_append_left h3]; exact h1 i h3 h3
    · obtain rfl : i = ps.length := by simp at hi; omega
      simpa using hpe
  have hgb := gapV_bd (T := T) (ne := ne) (acts := acts) (arcs := l[j].arcs) (signs := l[j].signs)
  -- an arc of the cycle of which nothing is left
  have hz : ∃ a : Nat, a < acts.length ∧ (a : Int) ∈ l[j].arcs ∧ gi (pkAll T ne acts l (j + 1)).left a ≤ 0 := by
    have h2 := hc.two
    obtain ⟨i, hi, ei⟩ := minA_at (pkAll T ne acts l j).left l[j].arcs (by omega) l[j].arcs.length (Nat.le_refl _)
    have ha := hc.arc i hi
    refine ⟨(gi l[j].arcs i).toNat, by have := ha.a0; have := ha.a1; omega, ?_, ?_⟩
    · rw [Int.toNat_of_nonneg ha.a0, gi_nat _ i hi]; exact List.getElem_mem hi
    · rw [Int.toNat_of_nonneg ha.a0, pkAll_succ j hj]
      unfold pkStep
      split
      · rename_i hlt
        rw [← ei]
        omega
      · show gi (addL _ _ _) _ ≤ 0
        rw [addL_gi _ _ _ _ hc.nodup (by rw [hok.len]; exact hc.range) ha.a0, if_pos (by rw [gi_nat _ i hi]; exact List.getElem_mem hi), ← ei]
        omega
  obtain ⟨a, ha, hm, hz⟩ := hz
  have hmo := left_mono hn hg (j + 1) l.length (by omega) (Nat.le_refl _) a
  have hov : overB acts (usL acts (ps ++ [q]) (ps ++ [q]).length) = true := by
    unfold overB
    rw [List.any_eq_true]
    refine ⟨a, List.mem_range.2 ha, ?_⟩
    rw [usL_sum _ (Nat.le_refl _) hall a (by omega)]
    have hl : (ps ++ [q]).length = ps.length + 1 := by simp
    rw [hl]
    show decide (_ < sumN (uT (ps ++ [q]) a) ps.length + uT (ps ++ [q]) a ps.length) = true
    rw [sumN_congr _ (uT ps a) _ (fun j hj => uT_left a j hj), h2 a ha]
    have : uT (ps ++ [q]) a ps.length = 1 := by
      unfold uT
      rw [List.getElem?_append_right (Nat.le_refl _)]
      simp [e1, e3, hm]
    rw [this]
    simp
    omega
  unfold chkE
  rw [if_pos (netB_yes hn), if_pos (prsE_all hall), if_pos hov]
end
end Go.Proofs.Ytbmbdenjlbelaaa
