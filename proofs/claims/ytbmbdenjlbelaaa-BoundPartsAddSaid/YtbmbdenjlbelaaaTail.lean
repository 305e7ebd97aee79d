import Derived.Test.YtbmbdenjlbelaaaOver
namespace Go.Proofs.Ytbmbdenjlbelaaa
open Go.RowKit

/-! A region that draws its order: a head of operations that read, or call what turns nothing that was there, and a tail that waits for the whole head and is carried out in the order of the text. -/

section
variable {P : Program} {md : Region.Mode} {C : World → Prop}

/-- an operation without its work -/
def dull (o : Oper) : Oper := { o with op := .move (.const (.bool false)), dst := none, guard := none }
/-- operation i waits for operation j -/
def waitsB (md : Region.Mode) (l : List Oper) (i j : Nat) : Bool :=
  match l[i]? with
  | some o => o.after.any fun e => Region.binds md e && e.on == j
  | none => false
/-- every edge leads back; guards of the head lie in the head; the first of the tail waits for all the head, each later one for the one before it -/
def tailB (md : Region.Mode) (l : List Oper) (n : Nat) : Bool :=
  (List.range l.length).all fun i =>
    (match l[i]? with
      | some o => o.after.all (fun e => decide (e.on < i)) && (decide (n ≤ i) || match o.guard with | none => true | some (j, _) => decide (j < n))
      | none => true) &&
    (if i = n then (List.range n).all (fun j => waitsB md l n j) else decide (i < n) || waitsB md l i (i - 1))

def dulled (l : List Oper) (n : Nat) : List Oper := l.take n ++ (l.drop n).map dull

theorem dulled_len (l : List Oper) (n : Nat) : (dulled l n).length = l.length := by
  simp only [dulled, List.length_append, List.length_map, List.length_take, List.length_drop]
  omega
theorem dulled_lt {l : List Oper} {n i : Nat} (h : i < n) : (dulled l n)[i]? = l[i]? := by
  unfold dulled
  rcases Nat.lt_or_ge i l.length with hl | hl
  · rw [List.getElem?_append_left (by simp; omega), List.getElem?_take, if_pos h]
  · rw [List.getElem?_eq_none (by rw [← dulled] ; rw [dulled_len]; exact hl), List.getElem?_eq_none hl]
theorem dulled_ge {l : List Oper} {n i : Nat} (h : n ≤ i) : (dulled l n)[i]? = (l[i]?).map dull := by
  unfold dulled
  rcases Nat.lt_or_ge n l.length with hl | hl
  · rw [List.getElem?_append_right (by simp; omega)]
    simp only [List.length_take, Nat.min_eq_left (Nat.le_of_lt hl), List.getElem?_map, List.getElem?_drop]
    rw [Nat.add_sub_cancel' h]
  · rw [List.getElem?_eq_none (by rw [← dulled, dulled_len]; omega), List.getElem?_eq_none (by omega)]; rfl
theorem dulled_after (l : List Oper) (n i : Nat) : ((dulled l n)[i]?).map (·.after) = (l[i]?).map (·.after) := by
  rcases Nat.lt_or_ge i n with h | h
  · rw [dulled_lt h]
  · rw [dulled_ge h]; cases l[i]? <;> rfl
theorem ready_dulled (l : List Oper) (n : Nat) (listed : Array Bool) : Region.ready md (dulled l n).toArray listed = Region.ready md l.toArray listed := by
  unfold Region.ready
  simp only [List.size_toArray, dulled_len]
  congr 1
  funext i
  have h := dulled_after l n i
  simp only [List.getElem?_toArray]
  revert h
  cases (dulled l n)[i]? <;> cases l[i]? <;> intro h <;> simp at h ⊢
  rw [h]

theorem tail_edge {l : List Oper} {n i : Nat} {o : Oper} (h : tailB md l n = true) (hi : l[i]? = some o) : (∀ e ∈ o.after, e.on < i) ∧ (i < n → ∀ j b, o.guard = some (j, b) → j < n) := by
  have hlt : i < l.length := (List.getElem?_eq_some_iff.1 hi).1
  have h1 := List.all_eq_true.1 h i (List.mem_range.2 hlt)
  simp only [hi, Bool.and_eq_true] at h1
  refine ⟨fun e he => ?_, fun hin j b hg => ?_⟩
  · have := Array.all_eq_true'.1 h1.1.1 e he
    simpa using this
  · have h2 := h1.1.2
    rw [hg] at h2
    simp at h2
    omega
theorem tail_first {l : List Oper} {n j : Nat} (h : tailB md l n = true) (hn : n < l.length) (hj : j < n) : waitsB md l n j = true := by
  have h1 := List.all_eq_true.1 h n (List.mem_range.2 hn)
  simp only [Bool.and_eq_true, if_true] at h1
  exact List.all_eq_true.1 h1.2 j (List.mem_range.2 hj)
theorem tail_chain {l : List Oper} {n i : Nat} (h : tailB md l n = true) (hn : i < l.length) (hj : n < i) : waitsB md l i (i - 1) = true := by
  have h1 := List.all_eq_true.1 h i (List.mem_range.2 hn)
  simp only [Bool.and_eq_true] at h1
  have h2 := h1.2
  rw [if_neg (by omega)] at h2
  simp at h2
  rcases h2 with h2 | h2
  · omega
  · exact h2
theorem waits_spec {l : List Oper} {i j : Nat} {listed : Array Bool} (h : waitsB md l i j = true) (hr : i ∈ Region.ready md l.toArray listed) : listed.getD j false = true := by
  obtain ⟨_, o, ho, hall⟩ := mem_ready.1 hr
  unfold waitsB at h
  rw [List.getElem?_toArray] at ho
  rw [ho] at h
  obtain ⟨e, he, hb⟩ := Array.any_eq_true'.1 h
  simp only [Bool.and_eq_true, beq_iff_eq] at hb
  rw [← hb.2]
  exact hall e he hb.1

theorem getD_flip {listed : Array Bool} {i : Nat} (hi : i < listed.size) : listed.getD i true = listed.getD i false := by simp [hi]

/-- something is ready while something is unlisted -/
theorem ready_some {l : List Oper} {n : Nat} (hT : tailB md l n = true) {listed : Array Bool} (hs : listed.size = l.length) : ∀ k, k < l.length → listed.getD k true = false → Region.ready md l.toArray listed ≠ [] := by
  intro k
  induction k using Nat.strongRecOn with
  | _ k ih =>
    intro hk hun h0
    have hok : l[k]? = some l[k] := List.getElem?_eq_getElem hk
    by_cases hall : ∀ e ∈ l[k].after, Region.binds md e = true → listed.getD e.on false = true
    · have : k ∈ Region.ready md l.toArray listed := mem_ready.2 ⟨hun, l[k], by rw [List.getElem?_toArray]; exact hok, hall⟩
      rw [h0] at this
      cases this
    · have ⟨e, he⟩ : ∃ e, ¬ (e ∈ l[k].after → Region.binds md e = true → listed.getD e.on false = true) := Classical.not_forall.1 hall
      have hm : e ∈ l[k].after := Classical.byContradiction fun h => he (fun h' => absurd h' h)
      have hlt := (tail_edge hT hok).1 e hm
      have hf : listed.getD e.on false = false := by
        cases hh : listed.getD e.on false with
        | false => rfl
        | true => exact absurd (fun _ _ => hh) he
      exact ih e.on hlt (by omega) (by rw [getD_flip (by omega)]; exact hf) h0

/-- the tail: all before k listed, nothing from k on -/
structure AtTail (l : List Oper) (k : Nat) (listed : Array Bool) : Prop where
  size : listed.size = l.length
  low : ∀ j, j < k → listed.getD j false = true
  high : ∀ t, k ≤ t → t < l.length → listed.getD t true = false
theorem AtTail.next {l : List Oper} {k : Nat} {listed : Array Bool} (h : AtTail l k listed) (hk : k < l.length) : AtTail l (k + 1) (listed.setIfInBounds k true) := by
  refine ⟨by simp [h.size], fun j hj => ?_, fun t ht htl => ?_⟩
  · by_cases hjk : k = j
    · subst hjk
      simp [h.size, hk]
    · rw [getD_set_ne false hjk]; exact h.low j (by omega)
  · rw [getD_set_ne true (by omega)]; exact h.high t (by omega) htl
theorem AtTail.ready {l : List Oper} {n k : Nat} {listed : Array Bool} (hT : tailB md l n = true) (h : AtTail l k listed) (hk : k < l.length) : k ∈ Region.ready md l.toArray listed := by
  refine mem_ready.2 ⟨h.high k (Nat.le_refl _) hk, l[k], by rw [List.getElem?_toArray]; exact List.getElem?_eq_getElem hk, fun e he _ => h.low _ ?_⟩
  exact (tail_edge hT (List.getElem?_eq_getElem hk)).1 e he
theorem AtTail.only {l : List Oper} {n k i : Nat} {listed : Array Bool} (hT : tailB md l n = true) (h : AtTail l k listed) (hn : n ≤ k) (hi : i ∈ Region.ready md l.toArray listed) : i = k := by
  obtain ⟨h0, o, ho, _⟩ := mem_ready.1 hi
  rw [List.getElem?_toArray] at ho
  have hil : i < l.length := (List.getElem?_eq_some_iff.1 ho).1
  rcases Nat.lt_trichotomy i k with h1 | h1 | h1
  · rw [getD_flip (by rw [h.size]; exact hil), h.low i h1] at h0; cases h0
  · exact h1
  · have h2 := waits_spec (tail_chain hT hil (by omega)) hi
    have h3 := h.high (i - 1) (by omega) (by omega)
    rw [getD_flip (by rw [h.size]; omega), h2] at h3
    cases h3

theorem tail_run {l : List Oper} {n : Nat} (hT : tailB md l n = true) {Q : Act → Prop} {Q' : Exit → Act → World → Prop} : ∀ (fuel k : Nat) (listed : Array Bool) (a : Act), n ≤ k → k ≤ l.length → AtTail l k listed →
    wpAnyQ P md (dulled l n).toArray C Q fuel listed a → Q a ∧ ∀ a' w', wpList P l.toArray Q' (l.drop k) a' w' → wpAny P md l.toArray Q' fuel listed a' w'
  | 0, k, listed, a, hn, hk, hA, h => by
    refine ⟨h.2, fun a' w' hw => ?_⟩
    have h0 := h.1
    rw [ready_dulled] at h0
    rcases Nat.lt_or_ge k l.length with hlt | hge
    · have := hA.ready hT hlt
      rw [h0] at this
      cases this
    · rw [List.drop_eq_nil_of_le hge] at hw
      exact ⟨h0, hw⟩
  | fuel + 1, k, listed, a, hn, hk, hA, h => by
    rcases Nat.lt_or_ge k l.length with hlt | hge
    · have hr := hA.ready hT hlt
      have h2 := h.2 k (by rw [ready_dulled]; exact hr)
      have hok : (dulled l n).toArray[k]? = some (dull l[k]) := by
        rw [List.getElem?_toArray, dulled_ge hn, List.getElem?_eq_getElem hlt]; rfl
      unfold qOp at h2
      simp only [hok] at h2
      have hw : Region.wanted (dull l[k]) (yielded (dulled l n).toArray a.tmps) = true := rfl
      rw [if_pos hw] at h2
      obtain ⟨v, _, h3⟩ := h2
      have ih := tail_run hT (Q' := Q') fuel (k + 1) _ a (by omega) (by omega) (hA.next hlt) h3
      refine ⟨ih.1, fun a' w' hl => ⟨fun h0 => (by rw [h0] at hr; cases hr), fun i hi => ?_⟩⟩
      obtain rfl := hA.only hT hn hi
      have hok' : l.toArray[i]? = some l[i] := by rw [List.getElem?_toArray]; exact List.getElem?_eq_getElem hlt
      rw [List.drop_eq_getElem_cons hlt] at hl
      unfold wpList at hl
      unfold wpOp
      simp only [hok']
      split
      · rename_i hwant
        rw [if_pos hwant] at hl
        rcases hl with hl | hl
        · exact .inl (Oper.wp_mono (fun a w hh => ih.2 a w hh) hl)
        · exact .inr hl
      · rename_i hwant
        rw [if_neg hwant] at hl
        exact ih.2 _ _ hl
    · have h0 : Region.ready md l.toArray listed = [] := by
        cases hh : Region.ready md l.toArray listed with
        | nil => rfl
        | cons i rest =>
          have hi : i ∈ Region.ready md l.toArray listed := by rw [hh]; exact List.mem_cons_self
          have := hA.only hT hn hi
          obtain ⟨_, o, ho, _⟩ := mem_ready.1 hi
          rw [List.getElem?_toArray] at ho
          have := (List.getElem?_eq_some_iff.1 ho).1
          omega
      refine ⟨h.1 (by rw [ready_dulled]; exact h0), fun a' w' hl => ?_⟩
      rw [List.drop_eq_nil_of_le hge] at hl
      exact ⟨fun _ => hl, fun i hi => by rw [h0] at hi; cases hi⟩

theorem yielded_dulled {l : List Oper} {n j : Nat} (h : j < n) (tmps : Array Value) : yielded (dulled l n).toArray tmps j = yielded l.toArray tmps j := by
  unfold yielded
  rw [List.getElem?_toArray, List.getElem?_toArray, dulled_lt h]

theorem head_run {l : List Oper} {n : Nat} (hT : tailB md l n = true) (hn : n < l.length) {Q' : Exit → Act → World → Prop} : ∀ (fuel : Nat) (listed : Array Bool) (a : Act) (w : World), listed.size = l.length → (∀ t, n ≤ t → t < l.length → listed.getD t true = false) → C w →
    wpAnyQ P md (dulled l n).toArray C (fun a' => ∀ w', C w' → wpList P l.toArray Q' (l.drop n) a' w') fuel listed a → wpAny P md l.toArray Q' fuel listed a w
  | 0, listed, a, w, hs, htl, _, h => by
    have h0 := h.1
    rw [ready_dulled] at h0
    exact absurd h0 (ready_some hT hs n hn (htl n (Nat.le_refl _) hn))
  | fuel + 1, listed, a, w, hs, htl, hC, h => by
    refine ⟨fun h0 => absurd h0 (ready_some hT hs n hn (htl n (Nat.le_refl _) hn)), fun i hi => ?_⟩
    rcases Nat.lt_or_ge i n with hin | hin
    · have h2 := h.2 i (by rw [ready_dulled]; exact hi)
      obtain ⟨_, o, ho, _⟩ := mem_ready.1 hi
      have ho' : l[i]? = some o := by rwa [List.getElem?_toArray] at ho
      have hod : (dulled l n).toArray[i]? = some o := by rw [List.getElem?_toArray, dulled_lt hin]; exact ho'
      have hq : qOp P l.toArray C i (wpAnyQ P md (dulled l n).toArray C (fun a' => ∀ w', C w' → wpList P l.toArray Q' (l.drop n) a' w') fuel (listed.setIfInBounds i true)) a := by
        unfold qOp at h2 ⊢
        simp only [hod] at h2
        simp only [ho]
        have hw : Region.wanted o (yielded (dulled l n).toArray a.tmps) = Region.wanted o (yielded l.toArray a.tmps) := by
          unfold Region.wanted
          cases hg : o.guard with
          | none => rfl
          | some p =>
            obtain ⟨j, b⟩ := p
            simp only
            rw [yielded_dulled ((tail_edge hT ho').2 hin j b hg)]
        rw [hw] at h2
        exact h2
      exact wpOp_of_qOp hC (fun a' w' hC' hh => head_run hT hn fuel _ a' w' (by simp [hs]) (fun t ht htt => by rw [getD_set_ne true (by omega)]; exact htl t ht htt) hC' hh) hq
    · have hil : i < l.length := by
        obtain ⟨_, o, ho, _⟩ := mem_ready.1 hi
        rw [List.getElem?_toArray] at ho
        exact (List.getElem?_eq_some_iff.1 ho).1
      have hin' : i = n := by
        rcases Nat.lt_or_ge n i with h1 | h1
        · have h2 := waits_spec (tail_chain hT hil h1) hi
          have h3 := htl (i - 1) (by omega) (by omega)
          rw [getD_flip (by rw [hs]; omega), h2] at h3
          cases h3
        · omega
      subst hin'
      have hA : AtTail l i listed := ⟨hs, fun j hj => waits_spec (tail_first hT hil hj) hi, htl⟩
      have hr := tail_run (Q' := Q') hT (fuel + 1) i listed a (Nat.le_refl _) (by omega) hA h
      exact (hr.2 a w (hr.1 w hC)).2 i hi

theorem wpQuiet_append {ops : Array Oper} {Q : Act → Prop} : ∀ (l1 l2 : List Oper) (a : Act), wpQuiet P ops C (wpQuiet P ops C Q l2) l1 a → wpQuiet P ops C Q (l1 ++ l2) a
  | [], _, _, h => h
  | o :: l1, l2, a, h => by
    simp only [List.cons_append, wpQuiet] at h ⊢
    split
    · rename_i hw
      rw [if_pos hw] at h
      obtain ⟨v, h1, h2⟩ := h
      exact ⟨v, h1, wpQuiet_append l1 l2 _ h2⟩
    · rename_i hw
      rw [if_neg hw] at h
      exact wpQuiet_append l1 l2 _ h
theorem wpQuiet_mono {ops : Array Oper} {Q Q' : Act → Prop} (hQ : ∀ a, Q a → Q' a) : ∀ (l : List Oper) (a : Act), wpQuiet P ops C Q l a → wpQuiet P ops C Q' l a
  | [], _, h => hQ _ h
  | o :: l, a, h => by
    simp only [wpQuiet] at h ⊢
    split
    · rename_i hw
      rw [if_pos hw] at h
      obtain ⟨v, h1, h2⟩ := h
      exact ⟨v, h1, wpQuiet_mono hQ l _ h2⟩
    · rename_i hw
      rw [if_neg hw] at h
      exact wpQuiet_mono hQ l _ h
theorem wpQuiet_dull {ops : Array Oper} {Q : Act → Prop} : ∀ (l : List Oper) (a : Act), Q a → wpQuiet P ops C Q (l.map dull) a
  | [], _, h => h
  | o :: l, a, h => by
    simp only [List.map_cons, wpQuiet]
    have hw : Region.wanted (dull o) (yielded ops a.tmps) = true := rfl
    rw [if_pos hw]
    exact BigFrame.quiet_move (.const (.bool false)) rfl (wpQuiet_dull l a h)
theorem wpQuiet_ops {l : List Oper} {n : Nat} (hT : tailB md l n = true) {Q : Act → Prop} : ∀ (r : List Oper) (k : Nat) (a : Act), (∀ j, r[j]? = if j + k < n then l[j + k]? else none) → wpQuiet P l.toArray C Q r a → wpQuiet P (dulled l n).toArray C Q r a
  | [], _, _, _, h => h
  | o :: r, k, a, hr, h => by
    have h0 := hr 0
    simp only [List.getElem?_cons_zero, Nat.zero_add] at h0
    have hk : k < n := by
      rcases Nat.lt_or_ge k n with h1 | h1
      · exact h1
      · rw [if_neg (by omega)] at h0; cases h0
    rw [if_pos hk] at h0
    have hw : Region.wanted o (yielded (dulled l n).toArray a.tmps) = Region.wanted o (yielded l.toArray a.tmps) := by
      unfold Region.wanted
      cases hg : o.guard with
      | none => rfl
      | some p =>
        obtain ⟨j, b⟩ := p
        simp only
        rw [yielded_dulled ((tail_edge hT h0.symm).2 hk j b hg)]
    have hr' : ∀ j, r[j]? = if j + (k + 1) < n then l[j + (k + 1)]? else none := fun j => by
      have := hr (j + 1)
      simpa [Nat.add_assoc, Nat.add_comm 1 k] using this
    simp only [wpQuiet] at h ⊢
    rw [hw]
    split
    · rename_i hw'
      rw [if_pos hw'] at h
      obtain ⟨v, h1, h2⟩ := h
      exact ⟨v, h1, wpQuiet_ops hT r (k + 1) _ hr' h2⟩
    · rename_i hw'
      rw [if_neg hw'] at h
      exact wpQuiet_ops hT r (k + 1) _ hr' h

theorem wp_region_tail {id : Nat} {Q : Exit → Act → World → Prop} {a : Act} {w : World} {l : List Oper} (n : Nat) (hm : P.follows .mixedOrders = true) (hB : (Region.lexB .any (dulled l n).toArray && tailB .any l n && decide (n < l.length)) = true) (hC : C { w with drawn := w.drawn + 1 })
    (h : wpQuiet P l.toArray C (fun a' => ∀ w', C w' → wpList P l.toArray Q (l.drop n) a' w') (l.take n) a) : (Code.region id l.toArray true).wp P Q a w := by
  simp only [Bool.and_eq_true, decide_eq_true_eq] at hB
  obtain ⟨⟨hL, hT⟩, hn⟩ := hB
  simp only [Region.lexB, Bool.and_eq_true] at hL
  refine wp_region_any hm ?_
  have h1 : wpQuiet P (dulled l n).toArray C (fun a' => ∀ w', C w' → wpList P l.toArray Q (l.drop n) a' w') (dulled l n) a := by
    refine wpQuiet_append _ _ _ ?_
    refine wpQuiet_ops hT (l.take n) 0 a (fun j => by simp [List.getElem?_take]) ?_
    refine wpQuiet_mono (fun a' h' => wpQuiet_dull _ a' h') _ _ h
  have h2 := wpAnyQ_lex (P := P) (C := C) (md := .any) hL.1 (dulled l n) 0 (Array.replicate (dulled l n).toArray.size false) a (by simp) (by simpa using hL.2) h1
  have h3 := head_run hT hn (Q' := Q) _ _ a { w with drawn := w.drawn + 1 } (by simp [dulled_len]) (fun t _ ht => by simp [dulled_len, ht]) hC h2
  simpa [dulled_len] using h3
end

/-- the same in the worlds that go on from w -/
theorem wp_region_overT {P : Program} {id : Nat} {Q : Exit → Act → World → Prop} {a : Act} {w : World} {l : List Oper} (n : Nat) (hm : P.follows .mixedOrders = true) (hB : (Region.lexB .any (dulled l n).toArray && tailB .any l n && decide (n < l.length)) = true)
    (h : wpQuiet P l.toArray (fun w' => ∃ X, w' = over w X) (fun a' => ∀ w', Below w.heap.size w w' → wpList P l.toArray Q (l.drop n) a' w') (l.take n) a) : (Code.region id l.toArray true).wp P Q a w := by
  refine wp_region_tail (C := fun w' => ∃ X, w' = over w X) n hm hB ⟨w.drew, over_of_below (Below.refl _ _).drew⟩ ?_
  have e : (fun a' : Act => ∀ w', Below w.heap.size w w' → wpList P l.toArray Q (l.drop n) a' w') = (fun a' => ∀ w', (∃ X, w' = over w X) → wpList P l.toArray Q (l.drop n) a' w') := by
    funext a'
    apply propext
    constructor
    · rintro g w' ⟨X, rfl⟩; exact g _ (over_below w X)
    · intro g w' hb; exact g w' ⟨w', over_of_below hb⟩
  rw [e] at h
  exact h
end Go.Proofs.Ytbmbdenjlbelaaa
