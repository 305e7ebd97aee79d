import Derived.Test.YtbmbdenjlbelaaaBdMath
import Derived.Test.YtbmbdenjlbelaaaBunM
namespace Go.Proofs.Ytbmbdenjlbelaaa
section
variable {T : Int} {ne : Nat} {acts : List Act} {arcs signs : List Int}
theorem cdiv_mul (a T : Int) (ht : 1 ≤ T) : a ≤ cdiv a T * T ∧ cdiv a T * T < a + T := by
  have e1 := Int.mul_ediv_add_emod (-a) T
  have e2 := Int.emod_nonneg (-a) (show T ≠ 0 by omega)
  have e3 := Int.emod_lt_of_pos (-a) (show 0 < T by omega)
  unfold cdiv
  rw [Int.neg_mul, Int.mul_comm]
  omega
theorem gapV_bd : 0 ≤ gapV T ne acts arcs signs ∧ gapV T ne acts arcs signs ≤ 67108864 := by
  unfold gapV
  split
  · rename_i h
    unfold okW at h
    simp at h
    have hk := cycB_iff.1 h.1
    have hb := hk.bd
    have ht := hk.net.t0
    have ht1 := hk.net.t1
    have h1 := gapF_le T (bsS acts arcs signs) (loW T acts arcs signs) (hiW T acts arcs signs) (loW T acts arcs signs) (by omega) (Int.le_refl _) h.2
    obtain ⟨z, _, _, hz⟩ := gapF_at T (bsS acts arcs signs) (loW T acts arcs signs) (hiW T acts arcs signs) h.2
    have h2 := dst_nn (z * T) (bsS acts arcs signs)
    have h3 := cdiv_mul (bsS acts arcs signs - bwS acts arcs signs) T (by omega)
    have h4 : loW T acts arcs signs * T = cdiv (bsS acts arcs signs - bwS acts arcs signs) T * T := rfl
    unfold dst at h1
    omega
  · omega
theorem prE_zero {p : Prt} (h : prE T ne acts p = 0) : 1 ≤ p.tm ∧ p.tm ≤ 1048576 ∧ CycOk T ne acts p.c.arcs p.c.signs ∧ gapE T ne acts p.c.arcs p.c.signs = 0 := by
  unfold prE at h
  split at h
  · rename_i h1
    refine ⟨h1.1, h1.2, ?_, h⟩
    unfold gapE at h
    split at h
    · rename_i h2; exact cycB_iff.1 h2
    · cases h
  · cases h
theorem CycOk.nodup (h : CycOk T ne acts arcs signs) : arcs.Nodup := arcs_nodup h.arc
theorem CycOk.range (h : CycOk T ne acts arcs signs) : ∀ a ∈ arcs, 0 ≤ a ∧ a < (acts.length : Int) := fun a ha => by
  obtain ⟨i, hi, rfl⟩ := List.getElem_of_mem ha
  have h1 := (h.arc i hi).a0
  have h2 := (h.arc i hi).a1
  rw [gi_nat arcs i hi] at h1 h2
  exact ⟨h1, h2⟩
variable {ps : List Prt}
theorem usL_len (k : Nat) : (usL acts ps k).length = acts.length := by
  induction k with
  | zero => simp [usL]
  | succ k ih =>
    unfold usL
    split
    · rw [addL_len]; exact ih
    · exact ih
theorem usL_succ (k : Nat) (h : k < ps.length) : usL acts ps (k + 1) = addL ps[k].tm (usL acts ps k) ps[k].c.arcs := by
  show (match ps[k]? with | some p => _ | none => _) = _
  rw [List.getElem?_eq_getElem h]
/-- all of the first k parts are permitted -/
def PrOk (T : Int) (ne : Nat) (acts : List Act) (ps : List Prt) (k : Nat) : Prop := ∀ i (h : i < ps.length), i < k → prE T ne acts ps[i] = 0
theorem usL_bd (k : Nat) (hk : k ≤ ps.length) (h : PrOk T ne acts ps k) (b : Int) (hb : 0 ≤ b) : 0 ≤ gi (usL acts ps k) b ∧ gi (usL acts ps k) b ≤ 1048576 * k := by
  induction k with
  | zero =>
    have : gi (usL acts ps 0) b = 0 := by
      show gi (List.replicate acts.length 0) b = 0
      unfold gi
      rw [List.getD_eq_getElem?_getD, List.getElem?_replicate]
      split <;> rfl
    omega
  | succ k ih =>
    have h1 := ih (by omega) (fun i hi hik => h i hi (by omega))
    have h2 := prE_zero (h k (by omega) (by omega))
    rw [usL_succ k (by omega), addL_gi _ _ _ _ h2.2.2.1.nodup (by rw [usL_len]; exact h2.2.2.1.range) hb]
    split <;> omega
theorem prT_at (k : Nat) (h : k < ps.length) : prT T ne acts ps k = ps[k].tm * gapV T ne acts ps[k].c.arcs ps[k].c.signs := by
  unfold prT
  rw [List.getElem?_eq_getElem h]
theorem prsE_drop (j : Nat) (h : j < ps.length) (h0 : prE T ne acts ps[j] = 0) : prsE T ne acts (ps.drop j) = prsE T ne acts (ps.drop (j + 1)) := by
  rw [List.drop_eq_getElem_cons h]
  conv => lhs; unfold prsE
  rw [if_pos h0]
theorem prsE_stop (j : Nat) (h : j < ps.length) (h0 : prE T ne acts ps[j] ≠ 0) : prsE T ne acts (ps.drop j) = prE T ne acts ps[j] := by
  rw [List.drop_eq_getElem_cons h]
  unfold prsE
  rw [if_neg h0]
theorem prsE_pre (j : Nat) (hj : j ≤ ps.length) (h : PrOk T ne acts ps j) : prsE T ne acts (ps.drop j) = prsE T ne acts ps := by
  induction j with
  | zero => simp
  | succ j ih => rw [← prsE_drop j (by omega) (h j (by omega) (by omega))]; exact ih (by omega) (fun i hi hij => h i hi (by omega))
/-- the sum over the activities of what is used -/
def allU (acts : List Act) (us : List Int) : Int := sumN (fun i => gi us i) acts.length
theorem sumN_one (f : Nat → Int) (n i : Nat) (hi : i < n) (hf : ∀ k, k < n → 0 ≤ f k) : f i ≤ sumN f n := by
  induction n with
  | zero => omega
  | succ n ih =>
    unfold sumN
    have hn : 0 ≤ sumN f n := by
      have := sumN_le (fun _ => 0) f n (fun k hk => hf k (by omega))
      have h0 := sumN_mul 0 (fun _ => 0) n
      simp at h0
      omega
    by_cases e : i = n
    · subst e; omega
    · have := ih (by omega) (fun k hk => hf k (by omega))
      have := hf n (by omega)
      omega
theorem allU_succ (k : Nat) (hk : k < ps.length) (h : PrOk T ne acts ps (k + 1)) : allU acts (usL acts ps k) + ps[k].tm ≤ allU acts (usL acts ps (k + 1)) := by
  have h2 := prE_zero (h k hk (by omega))
  have ha := h2.2.2.1.arc 0 (by have := h2.2.2.1.two; omega)
  unfold allU
  have e : ∀ i, i < acts.length → gi (usL acts ps (k + 1)) (i : Nat) = gi (usL acts ps k) i + if (i : Int) ∈ ps[k].c.arcs then ps[k].tm else 0 := fun i _ => by
    rw [usL_succ k hk, addL_gi _ _ _ _ h2.2.2.1.nodup (by rw [usL_len]; exact h2.2.2.1.range) (by omega)]
  rw [sumN_congr _ _ _ e, sumN_add]
  have hz : gi ps[k].c.arcs ((0 : Nat) : Int) ∈ ps[k].c.arcs := by
    have := h2.2.2.1.two
    rw [gi_nat _ 0 (by omega)]
    exact List.getElem_mem _
  have h3 := sumN_one (fun i => if (i : Int) ∈ ps[k].c.arcs then ps[k].tm else 0) acts.length (gi ps[k].c.arcs ((0 : Nat) : Int)).toNat (by have := ha.a0; have := ha.a1; omega) (fun i _ => by split <;> omega)
  rw [Int.toNat_of_nonneg ha.a0, if_pos hz] at h3
  omega
theorem prT_sum (k : Nat) (hk : k ≤ ps.length) (h : PrOk T ne acts ps k) : 0 ≤ sumN (prT T ne acts ps) k ∧ sumN (prT T ne acts ps) k ≤ 67108864 * allU acts (usL acts ps k) := by
  induction k with
  | zero =>
    have : allU acts (usL acts ps 0) = 0 := by
      unfold allU
      rw [sumN_congr _ (fun _ => 0) _ (fun i _ => by
        show gi (List.replicate acts.length 0) i = 0
        unfold gi
        rw [List.getD_eq_getElem?_getD, List.getElem?_replicate]
        split <;> rfl)]
      have h0 := sumN_mul 0 (fun _ => 0) acts.length
      simp at h0
      exact h0
    rw [this]
    simp [sumN]
  | succ k ih =>
    have h1 := ih (by omega) (fun i hi hik => h i hi (by omega))
    have h2 := prE_zero (h k (by omega) (by omega))
    have h3 := allU_succ k (by omega) h
    have hg := gapV_bd (T := T) (ne := ne) (acts := acts) (arcs := ps[k].c.arcs) (signs := ps[k].c.signs)
    have hm : 0 ≤ ps[k].tm * gapV T ne acts ps[k].c.arcs ps[k].c.signs ∧ ps[k].tm * gapV T ne acts ps[k].c.arcs ps[k].c.signs ≤ ps[k].tm * 67108864 := ⟨Int.mul_nonneg (by omega) hg.1, Int.mul_le_mul_of_nonneg_left hg.2 (by omega)⟩
    unfold sumN
    rw [prT_at k (by omega)]
    omega
theorem over_no {us : List Int} (h : overB acts us = false) (i : Nat) (hi : i < acts.length) : gi us i ≤ (ag acts i).wt := by
  unfold overB at h
  rw [List.any_eq_false] at h
  have := h i (List.mem_range.2 hi)
  simpa using this
/-- where no weight is exceeded the sum is small -/
theorem chk_small (hn : NetOk T ne acts) (h : PrOk T ne acts ps ps.length) (ho : overB acts (usL acts ps ps.length) = false) : 0 ≤ sumN (prT T ne acts ps) ps.length ∧ sumN (prT T ne acts ps) ps.length ≤ 36028797018963968 := by
  have h1 := prT_sum ps.length (Nat.le_refl _) h
  have h2 : allU acts (usL acts ps ps.length) ≤ 536870912 := by
    unfold allU
    have := sumN_bd (fun i => gi (usL acts ps ps.length) i) 0 1048576 acts.length (fun i hi => by
      have h3 := over_no ho i hi
      have h4 := (hn.a _ (ag_mem acts i (by omega) (by omega))).w1
      have h5 := usL_bd ps.length (Nat.le_refl _) h (i : Int) (by omega)
      exact ⟨h5.1, by omega⟩)
    have := hn.n
    omega
  omega
end
end Go.Proofs.Ytbmbdenjlbelaaa
