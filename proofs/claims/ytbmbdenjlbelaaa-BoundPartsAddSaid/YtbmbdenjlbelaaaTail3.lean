import Derived.Test.YtbmbdenjlbelaaaTail2
namespace Go.Proofs.Ytbmbdenjlbelaaa
open Go.RowKit

/-! A drawn region: a quiet head, one operation that waits for it (a call that turns memory, say), and a rest that is quiet in the one world which that operation left. -/

section
variable {P : Program} {md : Region.Mode} {C : World → Prop}
/-- the listing with all before k listed -/
def lstK (len k : Nat) : Array Bool := (List.replicate k true ++ List.replicate (len - k) false).toArray
/-- every edge that binds leads back; guards of the head lie in the head; each of the head is waited for by a later one up to operation n; each of the rest waits for an earlier one from n on; the rest may be walked in the order of the text -/
def midB (md : Region.Mode) (l : List Oper) (n : Nat) : Bool :=
  ((List.range l.length).all fun i =>
    (match l[i]? with
      | some o => o.after.all (fun e => !Region.binds md e || decide (e.on < i)) && (decide (n ≤ i) || match o.guard with | none => true | some (j, _) => decide (j < n))
      | none => true) &&
    (decide (i ≤ n) || (List.range i).any (fun j => decide (n ≤ j) && waitsB md l i j))) &&
  ((List.range n).all (fun j => (List.range (n + 1)).any (fun t => decide (j < t) && waitsB md l t j))) &&
  Region.lexFrom md l.toArray (l.length - (n + 1)) (n + 1) (lstK l.length (n + 1))

theorem AtTail.eq {l : List Oper} {k : Nat} {listed : Array Bool} (h : AtTail l k listed) (hk : k ≤ l.length) : listed = lstK l.length k := by
  apply Array.ext
  · simp [lstK, h.size]; omega
  · intro i h1 h2
    have hi : i < l.length := by rw [← h.size]; exact h1
    by_cases hik : i < k
    · have := h.low i hik
      simp [h1] at this
      simp [lstK, this, hik]
    · have := h.high i (by omega) hi
      simp [h1] at this
      simp [lstK, this, List.getElem_append, hik]
theorem mid_edge {l : List Oper} {n i : Nat} {o : Oper} (h : midB md l n = true) (hi : l[i]? = some o) : (∀ e ∈ o.after, Region.binds md e = true → e.on < i) ∧ (i < n → ∀ j b, o.guard = some (j, b) → j < n) := by
  have hlt : i < l.length := (List.getElem?_eq_some_iff.1 hi).1
  simp only [midB, Bool.and_eq_true] at h
  have h1 := List.all_eq_true.1 h.1.1 i (List.mem_range.2 hlt)
  simp only [hi, Bool.and_eq_true] at h1
  refine ⟨fun e he hb => ?_, fun hin j b hg => ?_⟩
  · have := Array.all_eq_true'.1 h1.1.1 e he
    rw [hb] at this
    simpa using this
  · have h2 := h1.1.2
    rw [hg] at h2
    simp at h2
    omega
theorem mid_later {l : List Oper} {n i : Nat} (h : midB md l n = true) (hi : i < l.length) (hn : n < i) : ∃ j, n ≤ j ∧ j < i ∧ waitsB md l i j = true := by
  simp only [midB, Bool.and_eq_true] at h
  have h1 := List.all_eq_true.1 h.1.1 i (List.mem_range.2 hi)
  simp only [Bool.and_eq_true] at h1
  have h2 := h1.2
  rw [decide_eq_false (by omega), Bool.false_or] at h2
  obtain ⟨j, hj, h3⟩ := List.any_eq_true.1 h2
  simp only [Bool.and_eq_true, decide_eq_true_eq] at h3
  exact ⟨j, h3.1, List.mem_range.1 hj, h3.2⟩
theorem mid_first {l : List Oper} {n j : Nat} (h : midB md l n = true) (hj : j < n) : ∃ t, j < t ∧ t ≤ n ∧ waitsB md l t j = true := by
  simp only [midB, Bool.and_eq_true] at h
  have h2 := List.all_eq_true.1 h.1.2 j (List.mem_range.2 hj)
  obtain ⟨t, ht, h3⟩ := List.any_eq_true.1 h2
  simp only [Bool.and_eq_true, decide_eq_true_eq] at h3
  exact ⟨t, h3.1, by have := List.mem_range.1 ht; omega, h3.2⟩
theorem ClosedL.mid {l : List Oper} {n : Nat} {listed : Array Bool} (h : ClosedL md l listed) (hT : midB md l n = true) (hi : n ∈ Region.ready md l.toArray listed) : ∀ d j, j + d = n → j < n → listed.getD j false = true := by
  intro d
  induction d using Nat.strongRecOn with
  | _ d ih =>
    intro j hd hj
    obtain ⟨t, h1, h2, h3⟩ := mid_first hT hj
    by_cases htn : t = n
    · subst htn; exact waits_spec h3 hi
    · exact h t j (ih (n - t) (by omega) t (by omega) (by omega)) h3
theorem mid_some {l : List Oper} {n : Nat} (hT : midB md l n = true) {listed : Array Bool} (hs : listed.size = l.length) : ∀ k, k < l.length → listed.getD k true = false → Region.ready md l.toArray listed ≠ [] := by
  intro k
  induction k using Nat.strongRecOn with
  | _ k ih =>
    intro hk hun h0
    have hok : l[k]? = some l[k] := List.getElem?_eq_getElem hk
    by_cases hall : ∀ e ∈ l[k].after, Region.binds md e = true → listed.getD e.on false = true
    · have : k ∈ Region.ready md l.toArray listed := mem_ready.2 ⟨hun, l[k], by rw [List.getElem?_toArray]; exact hok, hall⟩
      rw [h0] at this
      cases this
    · have ⟨e, he⟩ : ∃ e, ¬ (e ∈ l[k].after → Region.binds md e = true → listed.getD e.on false = true) := Classical.not_forall.1 hall
      have hm : e ∈ l[k].after := Classical.byContradiction fun h => he (fun h' => absurd h' h)
      have hbi : Region.binds md e = true := Classical.byContradiction fun h => he (fun _ h' => absurd h' h)
      have hlt := (mid_edge hT hok).1 e hm hbi
      have hf : listed.getD e.on false = false := by
        cases hh : listed.getD e.on false with
        | false => rfl
        | true => exact absurd (fun _ _ => hh) he
      exact ih e.on hlt (by omega) (by rw [getD_flip (by omega)]; exact hf) h0
theorem AtTail.readyM {l : List Oper} {n k : Nat} {listed : Array Bool} (hT : midB md l n = true) (h : AtTail l k listed) (hk : k < l.length) : k ∈ Region.ready md l.toArray listed := by
  refine mem_ready.2 ⟨h.high k (Nat.le_refl _) hk, l[k], by rw [List.getElem?_toArray]; exact List.getElem?_eq_getElem hk, fun e he hb => h.low _ ?_⟩
  exact (mid_edge hT (List.getElem?_eq_getElem hk)).1 e he hb
theorem wpAnyQ_more {ops : Array Oper} {Q : Act → Prop} (d : Nat) : ∀ (f : Nat) (listed : Array Bool) (a : Act), wpAnyQ P md ops C Q f listed a → wpAnyQ P md ops C Q (f + d) listed a
  | 0, listed, a, h => by
    rw [Nat.zero_add]
    cases d with
    | zero => exact h
    | succ d => exact ⟨fun _ => h.2, fun i hi => by rw [h.1] at hi; cases hi⟩
  | f + 1, listed, a, h => by
    rw [show f + 1 + d = (f + d) + 1 by omega]
    exact ⟨h.1, fun i hi => qOp_mono (fun a' h' => wpAnyQ_more d f _ a' h') (h.2 i hi)⟩
theorem mid_fuel {l : List Oper} {n : Nat} (hT : midB md l n = true) {Q : Act → Prop} : ∀ (fuel k : Nat) (listed : Array Bool) (a : Act), n ≤ k → k ≤ l.length → AtTail l k listed →
    wpAnyQ P md (dulled l n).toArray C Q fuel listed a → l.length ≤ k + fuel ∧ Q a
  | 0, k, listed, a, hn, hk, hA, h => by
    have h0 := h.1
    rw [ready_dulled] at h0
    refine ⟨?_, h.2⟩
    rcases Nat.lt_or_ge k l.length with hlt | hge
    · have := hA.readyM hT hlt
      rw [h0] at this
      cases this
    · omega
  | fuel + 1, k, listed, a, hn, hk, hA, h => by
    rcases Nat.lt_or_ge k l.length with hlt | hge
    · have hr := hA.readyM hT hlt
      have h2 := h.2 k (by rw [ready_dulled]; exact hr)
      have hok : (dulled l n).toArray[k]? = some (dull l[k]) := by
        rw [List.getElem?_toArray, dulled_ge hn, List.getElem?_eq_getElem hlt]; rfl
      unfold qOp at h2
      simp only [hok] at h2
      have hw : Region.wanted (dull l[k]) (yielded (dulled l n).toArray a.tmps) = true := rfl
      rw [if_pos hw] at h2
      obtain ⟨v, _, h3⟩ := h2
      have ih := mid_fuel hT fuel (k + 1) _ a (by omega) (by omega) (hA.next hlt) h3
      exact ⟨by omega, ih.2⟩
    · have h0 : Region.ready md l.toArray listed = [] := by
        cases hh : Region.ready md l.toArray listed with
        | nil => rfl
        | cons i rest =>
          have hi : i ∈ Region.ready md l.toArray listed := by rw [hh]; exact List.mem_cons_self
          obtain ⟨h0, o, ho, _⟩ := mem_ready.1 hi
          rw [List.getElem?_toArray] at ho
          have hil := (List.getElem?_eq_some_iff.1 ho).1
          rw [getD_flip (by rw [hA.size]; exact hil), hA.low i (by omega)] at h0
          cases h0
      exact ⟨by omega, h.1 (by rw [ready_dulled]; exact h0)⟩
/-- what stands behind operation n -/
def midQ (P : Program) (l : List Oper) (n : Nat) (Q' : Exit → Act → World → Prop) : Exit → Act → World → Prop
  | .normal, a, w => wpQuiet P l.toArray (fun v => v = w) (fun a' => Q' .normal a' w) (l.drop (n + 1)) a
  | ex, a, w => Q' ex a w
theorem letsOut_mid {l : List Oper} {n : Nat} {Q' : Exit → Act → World → Prop} (h : LetsOut (midQ P l n Q')) : LetsOut Q' := h
theorem Oper.wp_mid {o : Oper} {a : Act} {w : World} {l : List Oper} {n : Nat} {Q' : Exit → Act → World → Prop} {K K' : Act → World → Prop} (h : ∀ a w, K a w → K' a w)
    (hh : o.wp P a w K (midQ P l n Q')) : o.wp P a w K' Q' := by
  unfold Oper.wp at *
  generalize (execOp a.eval o).run P w = r at *
  cases r with
  | ok n w' =>
    cases n <;> simp only [Oper.upon] at hh ⊢ <;>
      first
        | exact h _ _ hh
        | exact Calls.mono hh (fun e w'' he => by cases e <;> first | exact h _ _ he | exact he)
        | exact Rows.mono hh (fun _ _ he => h _ _ he)
  | halt x w' => cases x <;> simp only [Oper.upon] at hh ⊢ <;> exact hh
theorem head_run3 {l : List Oper} {n : Nat} (hT : midB md l n = true) (hS : Region.noSelect l.toArray = true) (hn : n < l.length) {Q' : Exit → Act → World → Prop} : ∀ (fuel : Nat) (listed : Array Bool) (a : Act) (w : World), listed.size = l.length → (∀ t, n ≤ t → t < l.length → listed.getD t true = false) → ClosedL md l listed → C w →
    wpAnyQ P md (dulled l n).toArray C (fun a' => ∀ w', C w' → wpList P l.toArray (midQ P l n Q') [l[n]] a' w') fuel listed a → wpAny P md l.toArray Q' fuel listed a w
  | 0, listed, a, w, hs, htl, _, _, h => by
    have h0 := h.1
    rw [ready_dulled] at h0
    exact absurd h0 (mid_some hT hs n hn (htl n (Nat.le_refl _) hn))
  | fuel + 1, listed, a, w, hs, htl, hcl, hC, h => by
    refine ⟨fun h0 => absurd h0 (mid_some hT hs n hn (htl n (Nat.le_refl _) hn)), fun i hi => ?_⟩
    rcases Nat.lt_or_ge i n with hin | hin
    · have h2 := h.2 i (by rw [ready_dulled]; exact hi)
      obtain ⟨_, o, ho, _⟩ := mem_ready.1 hi
      have ho' : l[i]? = some o := by rwa [List.getElem?_toArray] at ho
      have hod : (dulled l n).toArray[i]? = some o := by rw [List.getElem?_toArray, dulled_lt hin]; exact ho'
      have hq : qOp P l.toArray C i (wpAnyQ P md (dulled l n).toArray C (fun a' => ∀ w', C w' → wpList P l.toArray (midQ P l n Q') [l[n]] a' w') fuel (listed.setIfInBounds i true)) a := by
        unfold qOp at h2 ⊢
        simp only [hod] at h2
        simp only [ho]
        have hw : Region.wanted o (yielded (dulled l n).toArray a.tmps) = Region.wanted o (yielded l.toArray a.tmps) := by
          unfold Region.wanted
          cases hg : o.guard with
          | none => rfl
          | some p =>
            obtain ⟨j, b⟩ := p
            simp only
            rw [yielded_dulled ((mid_edge hT ho').2 hin j b hg)]
        rw [hw] at h2
        exact h2
      exact wpOp_of_qOp hC (fun a' w' hC' hh => head_run3 hT hS hn fuel _ a' w' (by simp [hs]) (fun t ht htt => by rw [getD_set_ne true (by omega)]; exact htl t ht htt) (hcl.next hi) hC' hh) hq
    · have hil : i < l.length := by
        obtain ⟨_, o, ho, _⟩ := mem_ready.1 hi
        rw [List.getElem?_toArray] at ho
        exact (List.getElem?_eq_some_iff.1 ho).1
      have hin' : i = n := by
        rcases Nat.lt_or_ge n i with h1 | h1
        · obtain ⟨j, hj1, hj2, hj3⟩ := mid_later hT hil h1
          have h2 := waits_spec hj3 hi
          have h3 := htl j hj1 (by omega)
          rw [getD_flip (by rw [hs]; omega), h2] at h3
          cases h3
        · omega
      subst hin'
      have hA : AtTail l i listed := ⟨hs, fun j hj => hcl.mid hT hi (i - j) j (by omega) hj, htl⟩
      obtain ⟨hf, hq⟩ := mid_fuel hT (fuel + 1) i listed a (Nat.le_refl _) (by omega) hA h
      have hq2 := hq w hC
      have hA2 := hA.next hil
      have heq := hA2.eq (by omega)
      have hlex : Region.lexFrom md l.toArray (l.length - (i + 1)) (i + 1) (lstK l.length (i + 1)) = true := by
        simp only [midB, Bool.and_eq_true] at hT
        exact hT.2
      have key : ∀ a' w', wpQuiet P l.toArray (fun v => v = w') (fun a3 => Q' .normal a3 w') (l.drop (i + 1)) a' → wpAny P md l.toArray Q' fuel (listed.setIfInBounds i true) a' w' := by
        intro a' w' hw
        rw [heq]
        have h1 := wpAnyQ_lex (P := P) (C := fun v => v = w') (md := md) hS (l.drop (i + 1)) (i + 1) (lstK l.length (i + 1)) a' (fun j => by simp) (by simpa using hlex) hw
        have h2 := wpAnyQ_more (fuel - (l.drop (i + 1)).length) _ _ _ h1
        rw [show (l.drop (i + 1)).length + (fuel - (l.drop (i + 1)).length) = fuel by simp; omega] at h2
        exact wpAny_of_quiet (C := fun v => v = w') (fun a3 w3 e h => by subst e; exact h) _ _ _ _ rfl h2
      have hok' : l.toArray[i]? = some l[i] := by rw [List.getElem?_toArray]; exact List.getElem?_eq_getElem hil
      unfold wpList at hq2
      unfold wpOp
      simp only [hok']
      split
      · rename_i hwant
        rw [if_pos hwant] at hq2
        rcases hq2 with hq2 | hq2
        · exact .inl (Oper.wp_mid (fun a w hh => key a w hh) hq2)
        · exact .inr ⟨hq2.1, letsOut_mid hq2.2⟩
      · rename_i hwant
        rw [if_neg hwant] at hq2
        exact key _ _ hq2
theorem wpQuiet_ops3 {l : List Oper} {n : Nat} (hT : midB md l n = true) {Q : Act → Prop} : ∀ (r : List Oper) (k : Nat) (a : Act), (∀ j, r[j]? = if j + k < n then l[j + k]? else none) → wpQuiet P l.toArray C Q r a → wpQuiet P (dulled l n).toArray C Q r a
  | [], _, _, _, h => h
  | o :: r, k, a, hr, h => by
    have h0 := hr 0
    simp only [List.getElem?_cons_zero, Nat.zero_add] at h0
    have hk : k < n := by
      rcases Nat.lt_or_ge k n with h1 | h1
      · exact h1
      · rw [if_neg (by omega)] at h0; cases h0
    rw [if_pos hk] at h0
    have hw : Region.wanted o (yielded (dulled l n).toArray a.tmps) = Region.wanted o (yielded l.toArray a.tmps) := by
      unfold Region.wanted
      cases hg : o.guard with
      | none => rfl
      | some p =>
        obtain ⟨j, b⟩ := p
        simp only
        rw [yielded_dulled ((mid_edge hT h0.symm).2 hk j b hg)]
    have hr' : ∀ j, r[j]? = if j + (k + 1) < n then l[j + (k + 1)]? else none := fun j => by
      have := hr (j + 1)
      simpa [Nat.add_assoc, Nat.add_comm 1 k] using this
    simp only [wpQuiet] at h ⊢
    rw [hw]
    split
    · rename_i hw'
      rw [if_pos hw'] at h
      obtain ⟨v, h1, h2⟩ := h
      exact ⟨v, h1, wpQuiet_ops3 hT r (k + 1) _ hr' h2⟩
    · rename_i hw'
      rw [if_neg hw'] at h
      exact wpQuiet_ops3 hT r (k + 1) _ hr' h
theorem wp_region_mid {id : Nat} {Q : Exit → Act → World → Prop} {a : Act} {w : World} {l : List Oper} (n : Nat) (o : Oper) (ho : l[n]? = some o) (hm : P.follows .mixedOrders = true) (hB : (Region.lexB .any (dulled l n).toArray && midB .any l n && Region.noSelect l.toArray) = true) (hC : C { w with drawn := w.drawn + 1 })
    (h : wpQuiet P l.toArray C (fun a' => ∀ w', C w' → wpList P l.toArray (midQ P l n Q) [o] a' w') (l.take n) a) : (Code.region id l.toArray true).wp P Q a w := by
  simp only [Bool.and_eq_true] at hB
  obtain ⟨⟨hL, hT⟩, hS⟩ := hB
  have hn : n < l.length := (List.getElem?_eq_some_iff.1 ho).1
  obtain rfl : l[n] = o := (List.getElem?_eq_some_iff.1 ho).2
  simp only [Region.lexB, Bool.and_eq_true] at hL
  refine wp_region_any hm ?_
  have h1 : wpQuiet P (dulled l n).toArray C (fun a' => ∀ w', C w' → wpList P l.toArray (midQ P l n Q) [l[n]] a' w') (dulled l n) a := by
    refine wpQuiet_append _ _ _ ?_
    refine wpQuiet_ops3 hT (l.take n) 0 a (fun j => by simp [List.getElem?_take]) ?_
    refine wpQuiet_mono (fun a' h' => wpQuiet_dull _ a' h') _ _ h
  have h2 := wpAnyQ_lex (P := P) (C := C) (md := .any) hL.1 (dulled l n) 0 (Array.replicate (dulled l n).toArray.size false) a (by simp) (by simpa using hL.2) h1
  have h3 := head_run3 hT hS hn (Q' := Q) _ _ a { w with drawn := w.drawn + 1 } (by simp [dulled_len]) (fun t _ ht => by simp [dulled_len, ht]) (fun t j ht _ => by exfalso; simp [Array.getD] at ht) hC h2
  simpa [dulled_len] using h3
end
/-- the same in the worlds that go on from w -/
theorem wp_region_overM {P : Program} {id : Nat} {Q : Exit → Act → World → Prop} {a : Act} {w : World} {l : List Oper} (n : Nat) (o : Oper) (ho : l[n]? = some o) (hm : P.follows .mixedOrders = true) (hB : (Region.lexB .any (dulled l n).toArray && midB .any l n && Region.noSelect l.toArray) = true)
    (h : wpQuiet P l.toArray (fun w' => ∃ X, w' = over w X) (fun a' => ∀ w', Below w.heap.size w w' → wpList P l.toArray (midQ P l n Q) [o] a' w') (l.take n) a) : (Code.region id l.toArray true).wp P Q a w := by
  refine wp_region_mid (C := fun w' => ∃ X, w' = over w X) n o ho hm hB ⟨w.drew, over_of_below (Below.refl _ _).drew⟩ ?_
  have e : (fun a' : Act => ∀ w', Below w.heap.size w w' → wpList P l.toArray (midQ P l n Q) [o] a' w') = (fun a' => ∀ w', (∃ X, w' = over w X) → wpList P l.toArray (midQ P l n Q) [o] a' w') := by
    funext a'
    apply propext
    constructor
    · rintro g w' ⟨X, rfl⟩; exact g _ (over_below w X)
    · intro g w' hb; exact g w' ⟨w', over_of_below hb⟩
  rw [e] at h
  exact h
end Go.Proofs.Ytbmbdenjlbelaaa
