import Derived.Test.YtbmbdenjlbelaaaBdMath2
import Derived.Test.YtbmbdenjlbelaaaAw15
import Derived.Test.YtbmbdenjlbelaaaSm
namespace Go.Proofs.Ytbmbdenjlbelaaa
theorem sum_arcs (g : Nat → Int) (hg : ∀ i, 0 ≤ g i) (arcs : List Int) (n : Nat) (hn : arcs.Nodup) (hr : ∀ a ∈ arcs, 0 ≤ a ∧ a < (n : Int)) : ∀ m, m ≤ arcs.length → sumN (fun j => g (gi arcs (j : Nat)).toNat) m ≤ sumN (fun i => if (i : Int) ∈ arcs.take m then g i else 0) n
  | 0, _ => by
    have := sumN_le (fun _ => 0) (fun i => if (i : Int) ∈ arcs.take 0 then g i else 0) n (fun i _ => by split <;> simp_all)
    have h0 := sumN_mul 0 (fun _ => 0) n
    simp at h0
    show (0 : Int) ≤ _
    omega
  | m + 1, hm => by
    have ih := sum_arcs g hg arcs n hn hr m (by omega)
    have hml : m < arcs.length := by omega
    have ha := hr arcs[m] (List.getElem_mem hml)
    have hni := take_nodup hn m hml
    have e : ∀ i, i < n → (if (i : Int) ∈ arcs.take (m + 1) then g i else 0) = (if (i : Int) ∈ arcs.take m then g i else 0) + (if (i : Int) = arcs[m] then g i else 0) := fun i _ => by
      have hme : (i : Int) ∈ arcs.take (m + 1) ↔ (i : Int) ∈ arcs.take m ∨ (i : Int) = arcs[m] := by
        rw [List.take_succ_eq_append_getElem hml, List.mem_append, List.mem_singleton]
      by_cases h1 : (i : Int) ∈ arcs.take m
      · have h2 : ¬ (i : Int) = arcs[m] := fun e => hni (e ▸ h1)
        rw [if_pos (hme.2 (.inl h1)), if_pos h1, if_neg h2]
        omega
      · by_cases h2 : (i : Int) = arcs[m]
        · rw [if_pos (hme.2 (.inr h2)), if_neg h1, if_pos h2]
          omega
        · rw [if_neg (fun h => (hme.1 h).elim h1 h2), if_neg h1, if_neg h2]
          omega
    rw [sumN_congr _ _ n e, sumN_add]
    have h3 := sumN_one (fun i => if (i : Int) = arcs[m] then g i else 0) n arcs[m].toNat (by omega) (fun i _ => by split <;> first | exact hg _ | omega)
    rw [Int.toNat_of_nonneg ha.1, if_pos rfl] at h3
    show sumN (fun j => g (gi arcs (j : Nat)).toNat) m + g (gi arcs (m : Nat)).toNat ≤ _
    rw [gi_nat arcs m hml]
    omega
section
variable {T : Int} {ne : Nat} {acts : List Act} {x : List Int} {ps : List Prt}
def useS (T : Int) (acts : List Act) (x us : List Int) : Int := sumN (fun i => gi us i * slk1 T x (ag acts i)) acts.length
theorem use_step (hf : feas T acts x) (k : Nat) (hk : k < ps.length) (h : PrOk T ne acts ps (k + 1)) : useS T acts x (usL acts ps k) + prT T ne acts ps k ≤ useS T acts x (usL acts ps (k + 1)) := by
  have h2 := prE_zero (h k hk (by omega))
  have hc := h2.2.2.1
  have ht := hc.net.t0
  unfold useS
  rw [prT_at k hk]
  have e : ∀ i, i < acts.length → gi (usL acts ps (k + 1)) (i : Nat) * slk1 T x (ag acts i) = gi (usL acts ps k) i * slk1 T x (ag acts i) + (if (i : Int) ∈ ps[k].c.arcs.take ps[k].c.arcs.length then ps[k].tm * slk1 T x (ag acts i) else 0) := fun i _ => by
    rw [usL_succ k hk, addL_gi _ _ _ _ hc.nodup (by rw [usL_len]; exact hc.range) (by omega), List.take_length, Int.add_mul]
    split <;> omega
  rw [sumN_congr _ _ _ e, sumN_add]
  have h3 := sum_arcs (fun i => ps[k].tm * slk1 T x (ag acts i)) (fun i => Int.mul_nonneg (by omega) (slk1_bd (x := x) ht (ag acts i)).1) ps[k].c.arcs acts.length hc.nodup hc.range ps[k].c.arcs.length (Nat.le_refl _)
  have hg := (gap_law hc hf).2.2
  have e2 : sumN (fun j => ps[k].tm * slk1 T x (ag acts ((gi ps[k].c.arcs (j : Nat)).toNat : Int))) ps[k].c.arcs.length = ps[k].tm * sumN (fun i => gi (slkL T acts x) (gi ps[k].c.arcs i)) ps[k].c.arcs.length := by
    rw [← sumN_mul]
    apply sumN_congr
    intro i hi
    have ha := hc.arc i hi
    rw [slkL_gi _ ha.a0 ha.a1, Int.toNat_of_nonneg ha.a0]
  have h4 : ps[k].tm * gapV T ne acts ps[k].c.arcs ps[k].c.signs ≤ ps[k].tm * sumN (fun i => gi (slkL T acts x) (gi ps[k].c.arcs i)) ps[k].c.arcs.length := Int.mul_le_mul_of_nonneg_left hg (by omega)
  rw [← e2] at h4
  omega
theorem use_all (ht : 2 ≤ T) (hf : feas T acts x) (k : Nat) (hk : k ≤ ps.length) (h : PrOk T ne acts ps k) : sumN (prT T ne acts ps) k ≤ useS T acts x (usL acts ps k) := by
  induction k with
  | zero =>
    unfold useS
    have := sumN_le (fun _ => 0) (fun i => gi (usL acts ps 0) i * slk1 T x (ag acts i)) acts.length (fun i _ => Int.mul_nonneg (usL_bd (T := T) (ne := ne) 0 (by omega) (fun i h hi => by omega) (i : Int) (by omega)).1 (slk1_bd (x := x) ht _).1)
    have h0 := sumN_mul 0 (fun _ => 0) acts.length
    simp at h0
    show (0 : Int) ≤ _
    omega
  | succ k ih =>
    have h1 := ih (by omega) (fun i hi hik => h i hi (by omega))
    have h2 := use_step hf k (by omega) h
    unfold sumN
    omega
theorem chk_zero (h : chkE T ne acts ps = 0) : NetOk T ne acts ∧ PrOk T ne acts ps ps.length ∧ overB acts (usL acts ps ps.length) = false ∧ chkV T ne acts ps = baseS acts + sumN (prT T ne acts ps) ps.length := by
  have hV : chkV T ne acts ps = baseS acts + sumN (prT T ne acts ps) ps.length := by unfold chkV; rw [if_pos h]
  unfold chkE at h
  split at h
  · rename_i hn
    split at h
    · rename_i hp
      split at h
      · cases h
      · rename_i ho
        refine ⟨netB_iff.1 hn, ?_, by simpa using ho, hV⟩
        have : ∀ (l : List Prt), prsE T ne acts l = 0 → ∀ p ∈ l, prE T ne acts p = 0 := by
          intro l
          induction l with
          | nil => intro _ p hp; simp at hp
          | cons q r ih =>
            intro hq p hp
            unfold prsE at hq
            split at hq
            · rcases List.mem_cons.1 hp with rfl | hp
              · assumption
              · exact ih hq p hp
            · exact absurd hq (by assumption)
        exact fun i hi _ => this ps hp _ (List.getElem_mem hi)
    · rename_i hp; exact absurd h hp
  · cases h
/-- no feasible times cost less -/
theorem lower_law (hf : feas T acts x) (h : chkE T ne acts ps = 0) : chkV T ne acts ps ≤ sumN (coT T acts x) acts.length := by
  obtain ⟨hn, hp, ho, hv⟩ := chk_zero h
  have h1 := use_all hn.t0 hf ps.length (Nat.le_refl _) hp
  have h2 : useS T acts x (usL acts ps ps.length) ≤ sumN (fun i => (ag acts i).wt * slk1 T x (ag acts i)) acts.length := by
    unfold useS
    exact sumN_le _ _ _ (fun i hi => Int.mul_le_mul_of_nonneg_right (over_no ho i hi) (slk1_bd (x := x) hn.t0 _).1)
  have h3 : sumN (coT T acts x) acts.length = baseS acts + sumN (fun i => (ag acts i).wt * slk1 T x (ag acts i)) acts.length := by
    unfold baseS
    rw [← sumN_add]
    apply sumN_congr
    intro i _
    unfold coT wmT
    rw [Int.mul_add]
  omega
theorem some_err (hn : NetOk T ne acts) (h : ∀ p ∈ ps, SoOk T ne acts p) : chkE T ne acts ps = 0 ∨ chkE T ne acts ps = 4 ∨ chkE T ne acts ps = 14 := by
  have hp : prsE T ne acts ps = 0 ∨ prsE T ne acts ps = 14 := by
    induction ps with
    | nil => exact .inl rfl
    | cons p r ih =>
      have h1 := h p List.mem_cons_self
      have : prE T ne acts p = 0 ∨ prE T ne acts p = 14 := by
        unfold prE gapE
        rw [if_pos ⟨h1.2.2.1, by have := h1.2.2.2; omega⟩, if_pos (cycB_yes h1.1)]
        split
        · exact .inl rfl
        · exact .inr rfl
      unfold prsE
      split
      · exact ih (fun q hq => h q (List.mem_cons_of_mem _ hq))
      · rename_i h2; exact .inr (this.resolve_left h2)
  unfold chkE
  rw [if_pos (netB_yes hn)]
  split
  · split
    · exact .inr (.inl rfl)
    · exact .inl rfl
  · rename_i h2
    exact .inr (.inr (hp.resolve_left h2))
end
end Go.Proofs.Ytbmbdenjlbelaaa
