import Derived.Test.YtcgamkldlmmdnaaCut
namespace Go.Proofs.Ytcgamkldlmmdnaa
open Go.RowKit
/-! The cut of a drawn region at a tail whose first operation waits for the whole head, be it through others. -/
section
variable {P : Program} {md : Region.Mode}
def tailC (md : Region.Mode) (l : List Oper) (n : Nat) : Bool :=
  ((List.range l.length).all fun i =>
    (match l[i]? with
      | some o => o.after.all (fun e => decide (e.on < i)) && (decide (n ≤ i) || match o.guard with | none => true | some (j, _) => decide (j < n))
      | none => true) &&
    (decide (i ≤ n) || waitsB md l i (i - 1))) &&
  (List.range n).all fun j => waitsB md l n j || (List.range n).any fun m => decide (j < m) && waitsB md l m j
structure TailP (md : Region.Mode) (l : List Oper) (n : Nat) : Prop where
  edge : ∀ {i : Nat} {o : Oper}, l[i]? = some o → (∀ e ∈ o.after, e.on < i) ∧ (i < n → ∀ j b, o.guard = some (j, b) → j < n)
  chain : ∀ {i : Nat}, i < l.length → n < i → waitsB md l i (i - 1) = true
  cover : ∀ j, j < n → waitsB md l n j = true ∨ ∃ m, j < m ∧ m < n ∧ waitsB md l m j = true
theorem tailC_p {l : List Oper} {n : Nat} (h : tailC md l n = true) : TailP md l n := by
  unfold tailC at h
  rw [Bool.and_eq_true] at h
  obtain ⟨h, h'⟩ := h
  refine ⟨fun {i} {o} hi => ?_, fun {i} hil hin => ?_, fun j hj => ?_⟩
  · have hlt : i < l.length := (List.getElem?_eq_some_iff.1 hi).1
    have h1 := List.all_eq_true.1 h i (List.mem_range.2 hlt)
    simp only [hi, Bool.and_eq_true] at h1
    refine ⟨fun e he => ?_, fun hin j b hg => ?_⟩
    · have := Array.all_eq_true'.1 h1.1.1 e he
      simpa using this
    · have h2 := h1.1.2
      rw [hg] at h2
      simp at h2
      omega
  · have h1 := List.all_eq_true.1 h i (List.mem_range.2 hil)
    simp only [Bool.and_eq_true] at h1
    have h2 := h1.2
    simp at h2
    rcases h2 with h2 | h2
    · omega
    · exact h2
  · have h1 := List.all_eq_true.1 h' j (List.mem_range.2 hj)
    simp only [Bool.or_eq_true, List.any_eq_true, List.mem_range, Bool.and_eq_true, decide_eq_true_eq] at h1
    rcases h1 with h1 | ⟨m, hm, hjm, hw⟩
    · exact .inl h1
    · exact .inr ⟨m, hjm, hm, hw⟩
/-- what is listed has all that it waits for listed -/
def Clo (md : Region.Mode) (l : List Oper) (listed : Array Bool) : Prop := ∀ i j, i < l.length → listed.getD i false = true → waitsB md l i j = true → listed.getD j false = true
theorem Clo.step {l : List Oper} {listed : Array Bool} {i : Nat} (h : Clo md l listed) (hi : i ∈ Region.ready md l.toArray listed) : Clo md l (listed.setIfInBounds i true) := by
  have up : ∀ j, listed.getD j false = true → (listed.setIfInBounds i true).getD j false = true := fun j hj => by
    by_cases e : i = j
    · subst e
      by_cases hs : i < listed.size
      · simp [hs]
      · rw [Array.getD_eq_getD_getElem?, Array.getElem?_eq_none (by omega)] at hj
        simp at hj
    · rw [getD_set_ne false e]; exact hj
  intro p j hp hl hw
  by_cases e : i = p
  · subst e
    exact up j (waits_spec hw hi)
  · rw [getD_set_ne false e] at hl
    exact up j (h p j hp hl hw)
theorem TailP.all {l : List Oper} {n : Nat} {listed : Array Bool} (h : TailP md l n) (hc : Clo md l listed) (hn : n < l.length) (hi : n ∈ Region.ready md l.toArray listed) : ∀ j, j < n → listed.getD j false = true := by
  have key : ∀ d j, j + d + 1 = n → listed.getD j false = true := by
    intro d
    induction d using Nat.strongRecOn with
    | _ d ih =>
      intro j hj
      rcases h.cover j (by omega) with hw | ⟨m, h1, h2, hw⟩
      · exact waits_spec hw hi
      · exact hc m j (by omega) (ih (n - m - 1) (by omega) m (by omega)) hw
  intro j hj
  exact key (n - j - 1) j (by omega)
theorem ready_someC {l : List Oper} {n : Nat} (hT : TailP md l n) {listed : Array Bool} (hs : listed.size = l.length) : ∀ k, k < l.length → listed.getD k true = false → Region.ready md l.toArray listed ≠ [] := by
  intro k
  induction k using Nat.strongRecOn with
  | _ k ih =>
    intro hk hun h0
    have hok : l[k]? = some l[k] := List.getElem?_eq_getElem hk
    by_cases hall : ∀ e ∈ l[k].after, Region.binds md e = true → listed.getD e.on false = true
    · have : k ∈ Region.ready md l.toArray listed := mem_ready.2 ⟨hun, l[k], by rw [List.getElem?_toArray]; exact hok, hall⟩
      rw [h0] at this
      cases this
    · have ⟨e, he⟩ : ∃ e, ¬ (e ∈ l[k].after → Region.binds md e = true → listed.getD e.on false = true) := Classical.not_forall.1 hall
      have hm : e ∈ l[k].after := Classical.byContradiction fun h => he (fun h' => absurd h' h)
      have hlt := (hT.edge hok).1 e hm
      have hf : listed.getD e.on false = false := by
        cases hh : listed.getD e.on false with
        | false => rfl
        | true => exact absurd (fun _ _ => hh) he
      exact ih e.on hlt (by omega) (by rw [getD_flip (by omega)]; exact hf) h0
theorem AtTail.readyC {l : List Oper} {n k : Nat} {listed : Array Bool} (hT : TailP md l n) (h : AtTail l k listed) (hk : k < l.length) : k ∈ Region.ready md l.toArray listed := by
  refine mem_ready.2 ⟨h.high k (Nat.le_refl _) hk, l[k], by rw [List.getElem?_toArray]; exact List.getElem?_eq_getElem hk, fun e he _ => h.low _ ?_⟩
  exact (hT.edge (List.getElem?_eq_getElem hk)).1 e he
theorem AtTail.onlyC {l : List Oper} {n k i : Nat} {listed : Array Bool} (hT : TailP md l n) (h : AtTail l k listed) (hn : n ≤ k) (hi : i ∈ Region.ready md l.toArray listed) : i = k := by
  obtain ⟨h0, o, ho, _⟩ := mem_ready.1 hi
  rw [List.getElem?_toArray] at ho
  have hil : i < l.length := (List.getElem?_eq_some_iff.1 ho).1
  rcases Nat.lt_trichotomy i k with h1 | h1 | h1
  · rw [getD_flip (by rw [h.size]; exact hil), h.low i h1] at h0; cases h0
  · exact h1
  · have h2 := waits_spec (hT.chain hil (by omega)) hi
    have h3 := h.high (i - 1) (by omega) (by omega)
    rw [getD_flip (by rw [h.size]; omega), h2] at h3
    cases h3
theorem tail_runA2 {l : List Oper} {n : Nat} (hT : TailP md l n) {Q : Exit → Act → World → Prop} : ∀ (fuel k : Nat) (listed : Array Bool) (a : Act) (w : World), n ≤ k → k ≤ l.length → AtTail l k listed →
    wpAny P md (dulled l n).toArray (cutQ P l n Q) fuel listed a w → wpList P l.toArray Q (l.drop n) a w ∧ ∀ a' w', wpList P l.toArray Q (l.drop k) a' w' → wpAny P md l.toArray Q fuel listed a' w'
  | 0, k, listed, a, w, hn, hk, hA, h => by
    refine ⟨h.2, fun a' w' hw => ?_⟩
    have h0 := h.1
    rw [ready_dulled] at h0
    rcases Nat.lt_or_ge k l.length with hlt | hge
    · have := hA.readyC hT hlt
      rw [h0] at this
      cases this
    · rw [List.drop_eq_nil_of_le hge] at hw
      exact ⟨h0, hw⟩
  | fuel + 1, k, listed, a, w, hn, hk, hA, h => by
    rcases Nat.lt_or_ge k l.length with hlt | hge
    · have hr := hA.readyC hT hlt
      have h2 := h.2 k (by rw [ready_dulled]; exact hr)
      have hok : (dulled l n).toArray[k]? = some (dull l[k]) := by
        rw [List.getElem?_toArray, dulled_ge hn, List.getElem?_eq_getElem hlt]; rfl
      unfold wpOp at h2
      simp only [hok] at h2
      have hw : Region.wanted (dull l[k]) (yielded (dulled l n).toArray a.tmps) = true := rfl
      rw [if_pos hw] at h2
      have h3 : wpAny P md (dulled l n).toArray (cutQ P l n Q) fuel (listed.setIfInBounds k true) a w := by
        rcases h2 with h2 | ⟨h2, _⟩
        · exact h2
        · exact absurd h2.1 (no_asks a w _)
      have ih := tail_runA2 hT fuel (k + 1) _ a w (by omega) (by omega) (hA.next hlt) h3
      refine ⟨ih.1, fun a' w' hl => ⟨fun h0 => (by rw [h0] at hr; cases hr), fun i hi => ?_⟩⟩
      obtain rfl := hA.onlyC hT hn hi
      have hok' : l.toArray[i]? = some l[i] := by rw [List.getElem?_toArray]; exact List.getElem?_eq_getElem hlt
      rw [List.drop_eq_getElem_cons hlt] at hl
      unfold wpList at hl
      unfold wpOp
      simp only [hok']
      split
      · rename_i hwant
        rw [if_pos hwant] at hl
        rcases hl with hl | hl
        · exact .inl (Oper.wp_mono (fun a w hh => ih.2 a w hh) hl)
        · exact .inr hl
      · rename_i hwant
        rw [if_neg hwant] at hl
        exact ih.2 _ _ hl
    · have h0 : Region.ready md l.toArray listed = [] := by
        cases hh : Region.ready md l.toArray listed with
        | nil => rfl
        | cons i rest =>
          have hi : i ∈ Region.ready md l.toArray listed := by rw [hh]; exact List.mem_cons_self
          have := hA.onlyC hT hn hi
          obtain ⟨_, o, ho, _⟩ := mem_ready.1 hi
          rw [List.getElem?_toArray] at ho
          have := (List.getElem?_eq_some_iff.1 ho).1
          omega
      refine ⟨h.1 (by rw [ready_dulled]; exact h0), fun a' w' hl => ?_⟩
      rw [List.drop_eq_nil_of_le hge] at hl
      exact ⟨fun _ => hl, fun i hi => by rw [h0] at hi; cases hi⟩
theorem head_runA2 {l : List Oper} {n : Nat} (hT : TailP md l n) (hn : n < l.length) {Q : Exit → Act → World → Prop} : ∀ (fuel : Nat) (listed : Array Bool) (a : Act) (w : World), listed.size = l.length → (∀ t, n ≤ t → t < l.length → listed.getD t true = false) → Clo md l listed →
    wpAny P md (dulled l n).toArray (cutQ P l n Q) fuel listed a w → wpAny P md l.toArray Q fuel listed a w
  | 0, listed, a, w, hs, htl, hc, h => by
    have h0 := h.1
    rw [ready_dulled] at h0
    exact absurd h0 (ready_someC hT hs n hn (htl n (Nat.le_refl _) hn))
  | fuel + 1, listed, a, w, hs, htl, hc, h => by
    refine ⟨fun h0 => absurd h0 (ready_someC hT hs n hn (htl n (Nat.le_refl _) hn)), fun i hi => ?_⟩
    rcases Nat.lt_or_ge i n with hin | hin
    · have h2 := h.2 i (by rw [ready_dulled]; exact hi)
      obtain ⟨_, o, ho, _⟩ := mem_ready.1 hi
      have ho' : l[i]? = some o := by rwa [List.getElem?_toArray] at ho
      have hod : (dulled l n).toArray[i]? = some o := by rw [List.getElem?_toArray, dulled_lt hin]; exact ho'
      have hw : Region.wanted o (yielded (dulled l n).toArray a.tmps) = Region.wanted o (yielded l.toArray a.tmps) := by
        unfold Region.wanted
        cases hg : o.guard with
        | none => rfl
        | some p =>
          obtain ⟨j, b⟩ := p
          simp only
          rw [yielded_dulled ((hT.edge ho').2 hin j b hg)]
      have go : ∀ a' w', wpAny P md (dulled l n).toArray (cutQ P l n Q) fuel (listed.setIfInBounds i true) a' w' → wpAny P md l.toArray Q fuel (listed.setIfInBounds i true) a' w' := fun a' w' hh =>
        head_runA2 hT hn fuel _ a' w' (by simp [hs]) (fun t ht htt => by rw [getD_set_ne true (by omega)]; exact htl t ht htt) (hc.step hi) hh
      unfold wpOp at h2 ⊢
      simp only [hod] at h2
      simp only [ho]
      rw [hw] at h2
      split
      · rename_i hwant
        rw [if_pos hwant] at h2
        rcases h2 with h2 | ⟨h2, a0, w0, h3⟩
        · exact .inl (wp_cut go h2)
        · exact .inr ⟨h2, a0, w0, h3⟩
      · rename_i hwant
        rw [if_neg hwant] at h2
        exact go _ _ h2
    · have hil : i < l.length := by
        obtain ⟨_, o, ho, _⟩ := mem_ready.1 hi
        rw [List.getElem?_toArray] at ho
        exact (List.getElem?_eq_some_iff.1 ho).1
      have hin' : i = n := by
        rcases Nat.lt_or_ge n i with h1 | h1
        · have h2 := waits_spec (hT.chain hil h1) hi
          have h3 := htl (i - 1) (by omega) (by omega)
          rw [getD_flip (by rw [hs]; omega), h2] at h3
          cases h3
        · omega
      subst hin'
      have hA : AtTail l i listed := ⟨hs, hT.all hc hil hi, htl⟩
      have hr := tail_runA2 (Q := Q) hT (fuel + 1) i listed a w (Nat.le_refl _) (by omega) hA h
      exact (hr.2 a w hr.1).2 i hi
/-- the cut at the level of a drawn region's start: for 'wp_region_any' on the left, and a walk of the head's region (its tail dulled) on the right -/
theorem wp_region_cut2 {id : Nat} {Q : Exit → Act → World → Prop} {a : Act} {w : World} {l : List Oper} (n : Nat) (hm : P.follows .mixedOrders = true) (hB : (tailC .any l n && decide (n < l.length)) = true)
    (h : wpAny P .any (dulled l n).toArray (cutQ P l n Q) l.toArray.size (Array.replicate l.toArray.size false) a { w with drawn := w.drawn + 1 }) : (Code.region id l.toArray true).wp P Q a w := by
  simp only [Bool.and_eq_true, decide_eq_true_eq] at hB
  obtain ⟨hT, hn⟩ := hB
  refine wp_region_any hm ?_
  exact head_runA2 (tailC_p hT) hn _ _ a _ (by simp) (fun t _ ht => by simp [ht]) (fun i j hi hl _ => by simp [hi] at hl) h
end
end Go.Proofs.Ytcgamkldlmmdnaa
