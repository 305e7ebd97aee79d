import Derived.Test.YtinjdcefagaaeaaGreatDoorQBunA
set_option linter.unusedVariables false
set_option linter.unusedSimpArgs false
namespace Go.Proofs.YtinjdcefagaaeaaGreatDoor
open Go.RowKit
/-! A drawn region cut at its forced tail: its head alone, drawn in whatever order, with any laws; then the tail in the text's order. -/
section
variable {P : Program} {md : Region.Mode}
/-- the head's exit: the tail -/
def cutQ (P : Program) (l : List Oper) (n : Nat) (Q : Exit → Act → World → Prop) : Exit → Act → World → Prop
  | .normal, a, w => wpList P l.toArray Q (l.drop n) a w
  | e, a, w => Q e a w
theorem wp_cut {l : List Oper} {n : Nat} {Q : Exit → Act → World → Prop} {o : Oper} {a : Act} {w : World} {K K' : Act → World → Prop} (h : ∀ a w, K a w → K' a w) (hh : o.wp P a w K (cutQ P l n Q)) : o.wp P a w K' Q := by
  unfold Oper.wp at *
  generalize (execOp a.eval o).run P w = r at *
  cases r with
  | ok n w' =>
    cases n <;> simp only [Oper.upon] at hh ⊢ <;>
      first
        | exact h _ _ hh
        | exact Calls.mono hh (fun e w'' he => by cases e <;> first | exact h _ _ he | exact he)
        | exact Rows.mono hh (fun _ _ he => h _ _ he)
  | halt x w' => cases x <;> simp only [Oper.upon] at hh ⊢ <;> exact hh
theorem no_asks (a : Act) (w : World) (o : Oper) : ¬ noRoomEvent ∈ ((execOp a.eval (dull o)).runT P w #[]).2 := by
  intro h
  have e : ((execOp a.eval (dull o)).runT P w #[]).2 = #[] := rfl
  rw [e] at h
  simp at h
theorem tail_runA {l : List Oper} {n : Nat} (hT : tailB md l n = true) {Q : Exit → Act → World → Prop} : ∀ (fuel k : Nat) (listed : Array Bool) (a : Act) (w : World), n ≤ k → k ≤ l.length → AtTail l k listed →
    wpAny P md (dulled l n).toArray (cutQ P l n Q) fuel listed a w → wpList P l.toArray Q (l.drop n) a w ∧ ∀ a' w', wpList P l.toArray Q (l.drop k) a' w' → wpAny P md l.toArray Q fuel listed a' w'
  | 0, k, listed, a, w, hn, hk, hA, h => by
    refine ⟨h.2, fun a' w' hw => ?_⟩
    have h0 := h.1
    rw [ready_dulled] at h0
    rcases Nat.lt_or_ge k l.length with hlt | hge
    · have := hA.ready hT hlt
      rw [h0] at this
      cases this
    · rw [List.drop_eq_nil_of_le hge] at hw
      exact ⟨h0, hw⟩
  | fuel + 1, k, listed, a, w, hn, hk, hA, h => by
    rcases Nat.lt_or_ge k l.length with hlt | hge
    · have hr := hA.ready hT hlt
      have h2 := h.2 k (by rw [ready_dulled]; exact hr)
      have hok : (dulled l n).toArray[k]? = some (dull l[k]) := by
        rw [List.getElem?_toArray, dulled_ge hn, List.getElem?_eq_getElem hlt]; rfl
      unfold wpOp at h2
      simp only [hok] at h2
      have hw : Region.wanted (dull l[k]) (yielded (dulled l n).toArray a.tmps) = true := rfl
      rw [if_pos hw] at h2
      have h3 : wpAny P md (dulled l n).toArray (cutQ P l n Q) fuel (listed.setIfInBounds k true) a w := by
        rcases h2 with h2 | ⟨h2, _⟩
        · exact h2
        · exact absurd h2.1 (no_asks a w _)
      have ih := tail_runA hT fuel (k + 1) _ a w (by omega) (by omega) (hA.next hlt) h3
      refine ⟨ih.1, fun a' w' hl => ⟨fun h0 => (by rw [h0] at hr; cases hr), fun i hi => ?_⟩⟩
      obtain rfl := hA.only hT hn hi
      have hok' : l.toArray[i]? = some l[i] := by rw [List.getElem?_toArray]; exact List.getElem?_eq_getElem hlt
      rw [List.drop_eq_getElem_cons hlt] at hl
      unfold wpList at hl
      unfold wpOp
      simp only [hok']
      split
      · rename_i hwant
        rw [if_pos hwant] at hl
        rcases hl with hl | hl
        · exact .inl (Oper.wp_mono (fun a w hh => ih.2 a w hh) hl)
        · exact .inr hl
      · rename_i hwant
        rw [if_neg hwant] at hl
        exact ih.2 _ _ hl
    · have h0 : Region.ready md l.toArray listed = [] := by
        cases hh : Region.ready md l.toArray listed with
        | nil => rfl
        | cons i rest =>
          have hi : i ∈ Region.ready md l.toArray listed := by rw [hh]; exact List.mem_cons_self
          have := hA.only hT hn hi
          obtain ⟨_, o, ho, _⟩ := mem_ready.1 hi
          rw [List.getElem?_toArray] at ho
          have := (List.getElem?_eq_some_iff.1 ho).1
          omega
      refine ⟨h.1 (by rw [ready_dulled]; exact h0), fun a' w' hl => ?_⟩
      rw [List.drop_eq_nil_of_le hge] at hl
      exact ⟨fun _ => hl, fun i hi => by rw [h0] at hi; cases hi⟩
theorem head_runA {l : List Oper} {n : Nat} (hT : tailB md l n = true) (hn : n < l.length) {Q : Exit → Act → World → Prop} : ∀ (fuel : Nat) (listed : Array Bool) (a : Act) (w : World), listed.size = l.length → (∀ t, n ≤ t → t < l.length → listed.getD t true = false) →
    wpAny P md (dulled l n).toArray (cutQ P l n Q) fuel listed a w → wpAny P md l.toArray Q fuel listed a w
  | 0, listed, a, w, hs, htl, h => by
    have h0 := h.1
    rw [ready_dulled] at h0
    exact absurd h0 (ready_some hT hs n hn (htl n (Nat.le_refl _) hn))
  | fuel + 1, listed, a, w, hs, htl, h => by
    refine ⟨fun h0 => absurd h0 (ready_some hT hs n hn (htl n (Nat.le_refl _) hn)), fun i hi => ?_⟩
    rcases Nat.lt_or_ge i n with hin | hin
    · have h2 := h.2 i (by rw [ready_dulled]; exact hi)
      obtain ⟨_, o, ho, _⟩ := mem_ready.1 hi
      have ho' : l[i]? = some o := by rwa [List.getElem?_toArray] at ho
      have hod : (dulled l n).toArray[i]? = some o := by rw [List.getElem?_toArray, dulled_lt hin]; exact ho'
      have hw : Region.wanted o (yielded (dulled l n).toArray a.tmps) = Region.wanted o (yielded l.toArray a.tmps) := by
        unfold Region.wanted
        cases hg : o.guard with
        | none => rfl
        | some p =>
          obtain ⟨j, b⟩ := p
          simp only
          rw [yielded_dulled ((tail_edge hT ho').2 hin j b hg)]
      have go : ∀ a' w', wpAny P md (dulled l n).toArray (cutQ P l n Q) fuel (listed.setIfInBounds i true) a' w' → wpAny P md l.toArray Q fuel (listed.setIfInBounds i true) a' w' := fun a' w' hh =>
        head_runA hT hn fuel _ a' w' (by simp [hs]) (fun t ht htt => by rw [getD_set_ne true (by omega)]; exact htl t ht htt) hh
      unfold wpOp at h2 ⊢
      simp only [hod] at h2
      simp only [ho]
      rw [hw] at h2
      split
      · rename_i hwant
        rw [if_pos hwant] at h2
        rcases h2 with h2 | ⟨h2, a0, w0, h3⟩
        · exact .inl (wp_cut go h2)
        · exact .inr ⟨h2, a0, w0, h3⟩
      · rename_i hwant
        rw [if_neg hwant] at h2
        exact go _ _ h2
    · have hil : i < l.length := by
        obtain ⟨_, o, ho, _⟩ := mem_ready.1 hi
        rw [List.getElem?_toArray] at ho
        exact (List.getElem?_eq_some_iff.1 ho).1
      have hin' : i = n := by
        rcases Nat.lt_or_ge n i with h1 | h1
        · have h2 := waits_spec (tail_chain hT hil h1) hi
          have h3 := htl (i - 1) (by omega) (by omega)
          rw [getD_flip (by rw [hs]; omega), h2] at h3
          cases h3
        · omega
      subst hin'
      have hA : AtTail l i listed := ⟨hs, fun j hj => waits_spec (tail_first hT hil hj) hi, htl⟩
      have hr := tail_runA (Q := Q) hT (fuel + 1) i listed a w (Nat.le_refl _) (by omega) hA h
      exact (hr.2 a w hr.1).2 i hi
/-- the cut at the level of a drawn region's start: for 'wp_region_any' on the left, and a walk of the head's region (its tail dulled) on the right -/
theorem wp_region_cut {id : Nat} {Q : Exit → Act → World → Prop} {a : Act} {w : World} {l : List Oper} (n : Nat) (hm : P.follows .mixedOrders = true) (hB : (tailB .any l n && decide (n < l.length)) = true)
    (h : wpAny P .any (dulled l n).toArray (cutQ P l n Q) l.toArray.size (Array.replicate l.toArray.size false) a { w with drawn := w.drawn + 1 }) : (Code.region id l.toArray true).wp P Q a w := by
  simp only [Bool.and_eq_true, decide_eq_true_eq] at hB
  obtain ⟨hT, hn⟩ := hB
  refine wp_region_any hm ?_
  exact head_runA hT hn _ _ a _ (by simp) (fun t _ ht => by simp [ht]) h
end
end Go.Proofs.YtinjdcefagaaeaaGreatDoor
