import Derived.Test.YtbmbdenjlbelaaaFdMath
namespace Go.Proofs.Ytbmbdenjlbelaaa

theorem nodup_sub : ∀ (l' l : List Int), l'.Nodup → (∀ x ∈ l', x ∈ l) → l'.length ≤ l.length
  | [], _, _, _ => by simp
  | x :: t, l, hn, h => by
    rw [List.nodup_cons] at hn
    have hx := h x List.mem_cons_self
    have ih := nodup_sub t (l.erase x) hn.2 (fun y hy => (List.mem_erase_of_ne (fun e => hn.1 (by rw [← e]; exact hy))).2 (h y (List.mem_cons_of_mem _ hy)))
    have h2 := List.length_erase (a := x) (l := l)
    rw [if_pos hx] at h2
    have : 0 < l.length := List.length_pos_of_mem hx
    simp
    omega
/-- the arcs of the list join x and y -/
inductive Conn (acts : List Act) (tree : List Int) : Int → Int → Prop
  | refl (x : Int) : Conn acts tree x x
  | arc {t : Int} (h : t ∈ tree) : Conn acts tree (ag acts t).fr (ag acts t).tt
  | symm {x y : Int} : Conn acts tree x y → Conn acts tree y x
  | trans {x y z : Int} : Conn acts tree x y → Conn acts tree y z → Conn acts tree x z
structure TreeOk (ne : Nat) (acts : List Act) (tree : List Int) : Prop where
  rg : ∀ t ∈ tree, 0 ≤ t ∧ t < (acts.length : Int)
  a : ∀ x ∈ acts, 0 ≤ x.fr ∧ x.fr < (ne : Int) ∧ 0 ≤ x.tt ∧ x.tt < (ne : Int) ∧ x.fr ≠ x.tt
theorem TreeOk.arc {ne : Nat} {acts : List Act} {tree : List Int} (h : TreeOk ne acts tree) {t : Int} (ht : t ∈ tree) : 0 ≤ (ag acts t).fr ∧ (ag acts t).fr < (ne : Int) ∧ 0 ≤ (ag acts t).tt ∧ (ag acts t).tt < (ne : Int) ∧ (ag acts t).fr ≠ (ag acts t).tt :=
  h.a _ (ag_mem acts t (h.rg t ht).1 (h.rg t ht).2)
theorem gi_mem {tree : List Int} {k : Nat} (h : k < tree.length) : gi tree k ∈ tree := by rw [gi_nat tree k h]; exact List.getElem_mem h
/-- the search: found in this order -/
structure PSt (ne : Nat) (acts : List Act) (tree : List Int) (from_ : Int) (s : List Bool × List Int) (ord : List Int) : Prop where
  l1 : s.1.length = ne
  l2 : s.2.length = ne
  nd : ord.Nodup
  rg : ∀ x ∈ ord, 0 ≤ x ∧ x < (ne : Int)
  hd : ord[0]? = some from_
  mem : ∀ x : Int, 0 ≤ x → x < (ne : Int) → (gb s.1 x = true ↔ x ∈ ord)
  par : ∀ t (h : t < ord.length), 0 < t → gi s.2 ord[t] ∈ tree ∧ (((ag acts (gi s.2 ord[t])).fr = ord[t] ∧ (ag acts (gi s.2 ord[t])).tt ∈ ord.take t) ∨ ((ag acts (gi s.2 ord[t])).tt = ord[t] ∧ (ag acts (gi s.2 ord[t])).fr ∈ ord.take t))
section
variable {ne : Nat} {acts : List Act} {tree : List Int} {from_ : Int} {s : List Bool × List Int} {ord : List Int}
theorem PSt.start (h0 : 0 ≤ from_) (h1 : from_ < (ne : Int)) : PSt ne acts tree from_ (pAll ne acts tree from_ 0) [from_] := by
  refine ⟨by simp [pAll], by simp [pAll], by simp, fun x hx => by simp at hx; subst hx; exact ⟨h0, h1⟩, rfl, fun x hx0 hx1 => ?_, fun t ht h => by simp at ht; omega⟩
  have := gb_set (List.replicate ne false) from_ x true h0 (by simp; exact h1) hx0
  show gb ((List.replicate ne false).set from_.toNat true) x = true ↔ _
  rw [this, gb_rep]
  by_cases e : x = from_ <;> simp [e]
/-- a new event v, found from u by arc t -/
theorem PSt.add (h : PSt ne acts tree from_ s ord) (t : Int) (ht : t ∈ tree) (u v : Int) (hv0 : 0 ≤ v) (hv1 : v < (ne : Int)) (hu : u ∈ ord) (hv : gb s.1 v = false)
    (ha : ((ag acts t).fr = v ∧ (ag acts t).tt = u) ∨ ((ag acts t).tt = v ∧ (ag acts t).fr = u)) : PSt ne acts tree from_ (s.1.set v.toNat true, s.2.set v.toNat t) (ord ++ [v]) := by
  have hno : v ∉ ord := fun hm => by have := (h.mem v hv0 hv1).2 hm; rw [hv] at this; cases this
  have hpos : 0 < ord.length := List.length_pos_of_mem hu
  refine ⟨by simp [h.l1], by simp [h.l2], ?_, fun x hx => ?_, by rw [List.getElem?_append_left hpos]; exact h.hd, fun x hx0 hx1 => ?_, fun k hk h0 => ?_⟩
  · rw [List.nodup_append]
    exact ⟨h.nd, by simp, fun y hy z hz => by simp at hz; subst hz; intro e; subst e; exact hno hy⟩
  · rcases List.mem_append.1 hx with hx | hx
    · exact h.rg x hx
    · simp at hx; subst hx; exact ⟨hv0, hv1⟩
  · simp only
    rw [gb_set s.1 v x true hv0 (by rw [h.l1]; exact hv1) hx0, List.mem_append]
    by_cases e : x = v
    · simp [e]
    · rw [if_neg e, h.mem x hx0 hx1]; simp [e]
  · simp only
    rcases Nat.lt_or_ge k ord.length with h1 | h1
    · rw [List.getElem_append_left h1, List.take_append_of_le_length (by omega)]
      have hm := List.getElem_mem h1
      have hne : ord[k] ≠ v := fun e => hno (by rw [← e]; exact hm)
      have hr := h.rg _ hm
      rw [gi_set s.2 v ord[k] t hv0 (by rw [h.l2]; exact hv1) hr.1, if_neg hne]
      exact h.par k h1 h0
    · have hkk : k = ord.length := by simp at hk; omega
      subst hkk
      rw [List.getElem_append_right (by omega), List.take_append_of_le_length (by omega), List.take_length]
      simp only [Nat.sub_self, List.getElem_cons_zero]
      rw [gi_set s.2 v v t hv0 (by rw [h.l2]; exact hv1) hv0, if_pos rfl]
      refine ⟨ht, ?_⟩
      rcases ha with ⟨e1, e2⟩ | ⟨e1, e2⟩
      · exact .inl ⟨e1, by rw [e2]; exact hu⟩
      · exact .inr ⟨e1, by rw [e2]; exact hu⟩
/-- one arc: nothing new and the arc is balanced, or one event more -/
theorem PSt.step (h : PSt ne acts tree from_ s ord) (hT : TreeOk ne acts tree) (t : Int) (ht : t ∈ tree) :
    (pStep acts t s = s ∧ gb s.1 (ag acts t).fr = gb s.1 (ag acts t).tt) ∨ ∃ v, PSt ne acts tree from_ (pStep acts t s) (ord ++ [v]) := by
  have ha := hT.arc ht
  unfold pStep
  by_cases c1 : gb s.1 (ag acts t).fr = true ∧ gb s.1 (ag acts t).tt = false
  · rw [if_pos c1]
    exact .inr ⟨(ag acts t).tt, h.add t ht (ag acts t).fr (ag acts t).tt ha.2.2.1 ha.2.2.2.1 ((h.mem _ ha.1 ha.2.1).1 c1.1) c1.2 (.inr ⟨rfl, rfl⟩)⟩
  · rw [if_neg c1]
    by_cases c2 : gb s.1 (ag acts t).tt = true ∧ gb s.1 (ag acts t).fr = false
    · rw [if_pos c2]
      exact .inr ⟨(ag acts t).fr, h.add t ht (ag acts t).tt (ag acts t).fr ha.1 ha.2.1 ((h.mem _ ha.2.2.1 ha.2.2.2.1).1 c2.1) c2.2 (.inl ⟨rfl, rfl⟩)⟩
    · rw [if_neg c2]
      refine .inl ⟨rfl, ?_⟩
      cases e1 : gb s.1 (ag acts t).fr <;> cases e2 : gb s.1 (ag acts t).tt <;> simp_all
theorem PSt.row (h : PSt ne acts tree from_ s ord) (hT : TreeOk ne acts tree) : ∀ k, k ≤ tree.length →
    (pRow acts tree s k = s ∧ ∀ i, i < k → gb s.1 (ag acts (gi tree i)).fr = gb s.1 (ag acts (gi tree i)).tt) ∨ ∃ ord', PSt ne acts tree from_ (pRow acts tree s k) ord' ∧ ord.length + 1 ≤ ord'.length
  | 0, _ => .inl ⟨rfl, fun i hi => by omega⟩
  | k + 1, hk => by
    rcases PSt.row h hT k (by omega) with ⟨e, hb⟩ | ⟨ord', h', hl⟩
    · rcases (show PSt ne acts tree from_ (pRow acts tree s k) ord by rw [e]; exact h).step hT (gi tree k) (gi_mem (by omega)) with ⟨e2, hb2⟩ | ⟨v, h2⟩
      · rw [e] at e2 hb2
        refine .inl ⟨by show pStep acts (gi tree k) (pRow acts tree s k) = s; rw [e]; exact e2, fun i hi => ?_⟩
        rcases Nat.lt_or_ge i k with h1 | h1
        · exact hb i h1
        · obtain rfl : i = k := by omega
          exact hb2
      · exact .inr ⟨_, h2, by simp⟩
    · rcases h'.step hT (gi tree k) (gi_mem (by omega)) with ⟨e2, _⟩ | ⟨v, h2⟩
      · exact .inr ⟨ord', by show PSt ne acts tree from_ (pStep acts (gi tree k) (pRow acts tree s k)) ord'; rw [e2]; exact h', hl⟩
      · exact .inr ⟨_, h2, by simp; omega⟩
def closedP (acts : List Act) (tree : List Int) (s : List Bool × List Int) : Prop := ∀ t ∈ tree, gb s.1 (ag acts t).fr = gb s.1 (ag acts t).tt
theorem PSt.all (hT : TreeOk ne acts tree) (h0 : 0 ≤ from_) (h1 : from_ < (ne : Int)) : ∀ r, ∃ ord, PSt ne acts tree from_ (pAll ne acts tree from_ r) ord ∧ (closedP acts tree (pAll ne acts tree from_ r) ∨ r + 1 ≤ ord.length)
  | 0 => ⟨_, PSt.start h0 h1, .inr (by simp)⟩
  | r + 1 => by
    obtain ⟨ord, h, hc⟩ := PSt.all hT h0 h1 r
    rcases h.row hT tree.length (Nat.le_refl _) with ⟨e, hb⟩ | ⟨ord', h', hl⟩
    · refine ⟨ord, by show PSt ne acts tree from_ (pRow acts tree (pAll ne acts tree from_ r) tree.length) ord; rw [e]; exact h, .inl ?_⟩
      show closedP acts tree (pRow acts tree (pAll ne acts tree from_ r) tree.length)
      rw [e]
      intro t ht
      obtain ⟨i, hi, rfl⟩ := List.getElem_of_mem ht
      have := hb i hi
      rw [gi_nat tree i hi] at this
      exact this
    · refine ⟨ord', h', ?_⟩
      rcases hc with hc | hc
      · exfalso
        have key : ∀ k, k ≤ tree.length → pRow acts tree (pAll ne acts tree from_ r) k = pAll ne acts tree from_ r := by
          intro k
          induction k with
          | zero => intro _; rfl
          | succ k ih =>
            intro hk
            show pStep acts (gi tree k) (pRow acts tree (pAll ne acts tree from_ r) k) = _
            rw [ih (by omega)]
            have hb := hc (gi tree k) (gi_mem (by omega))
            unfold pStep
            rw [hb, if_neg (fun h => by rw [h.1] at h; exact absurd h.2 (by simp)), if_neg (fun h => by rw [h.1] at h; exact absurd h.2 (by simp))]
        rw [key tree.length (Nat.le_refl _)] at h'
        have e1 : ord'.length ≤ ord.length := by
          have hs : ∀ x ∈ ord', x ∈ ord := fun x hx => (h.mem x (h'.rg x hx).1 (h'.rg x hx).2).1 ((h'.mem x (h'.rg x hx).1 (h'.rg x hx).2).2 hx)
          exact nodup_sub ord' ord h'.nd hs
        omega
      · exact .inr (by omega)
/-- after as many rounds as there are events nothing is left to be found -/
theorem PSt.done (hT : TreeOk ne acts tree) (h0 : 0 ≤ from_) (h1 : from_ < (ne : Int)) : ∃ ord, PSt ne acts tree from_ (pAll ne acts tree from_ ne) ord ∧ closedP acts tree (pAll ne acts tree from_ ne) := by
  obtain ⟨ord, h, hc⟩ := PSt.all hT h0 h1 ne
  refine ⟨ord, h, ?_⟩
  rcases hc with hc | hc
  · exact hc
  · have := nodup_le2 ne ord h.nd h.rg
    omega
theorem closed_conn (hc : closedP acts tree s) {x y : Int} (h : Conn acts tree x y) : gb s.1 x = gb s.1 y := by
  induction h with
  | refl => rfl
  | arc h => exact hc _ h
  | symm _ ih => exact ih.symm
  | trans _ _ ih1 ih2 => exact ih1.trans ih2
/-- labels that agree are joined -/
theorem frRoot_conn {acts : List Act} {tree : List Int} {ne : Nat} (hT : ∀ x ∈ acts, 0 ≤ x.fr ∧ x.fr < (ne : Int) ∧ 0 ≤ x.tt ∧ x.tt < (ne : Int)) : ∀ {j : Nat} {r : List Int}, j ≤ tree.length → frRoot ne acts tree j = some r →
    (∀ k, k < j → 0 ≤ gi tree k ∧ gi tree k < (acts.length : Int)) ∧ ∀ x y : Int, 0 ≤ x → x < (ne : Int) → 0 ≤ y → y < (ne : Int) → gi r x = gi r y → Conn acts tree x y
  | 0, r, _, h => by
    injection h with h
    subst h
    refine ⟨fun k hk => by omega, fun x y hx0 hx1 hy0 hy1 e => ?_⟩
    obtain ⟨x, rfl⟩ := Int.eq_ofNat_of_zero_le hx0
    obtain ⟨y, rfl⟩ := Int.eq_ofNat_of_zero_le hy0
    rw [gi_nat _ x (by rw [iotaL_len]; omega), gi_nat _ y (by rw [iotaL_len]; omega), iotaL_get ne x (by omega), iotaL_get ne y (by omega)] at e
    rw [e]
    exact .refl _
  | j + 1, r, hj, h => by
    unfold frRoot at h
    cases hr : frRoot ne acts tree j with
    | none => rw [hr] at h; cases h
    | some r' =>
      rw [hr] at h
      simp only at h
      split at h
      case isFalse => cases h
      case isTrue ht =>
      injection h with h
      obtain ⟨ih1, ih2⟩ := frRoot_conn hT (by omega) hr
      have hlen := frRoot_len hr
      unfold frTest at ht
      simp only [Bool.and_eq_true, decide_eq_true_eq] at ht
      have hrg : 0 ≤ gi tree j ∧ gi tree j < (acts.length : Int) := ⟨ht.1.1.1, by have := ht.1.1.2; omega⟩
      refine ⟨fun k hk => ?_, fun x y hx0 hx1 hy0 hy1 e => ?_⟩
      · rcases Nat.lt_or_ge k j with h1 | h1
        · exact ih1 k h1
        · obtain rfl : k = j := by omega
          exact hrg
      · have harc := hT _ (ag_mem acts _ hrg.1 hrg.2)
        have hA : Conn acts tree (ag acts (gi tree j)).fr (ag acts (gi tree j)).tt := .arc (gi_mem (by omega))
        generalize ag acts (gi tree j) = a at *
        rw [← h] at e
        unfold mergeR at e
        split at e
        · exact ih2 x y hx0 hx1 hy0 hy1 e
        · have hm : ∀ z : Int, 0 ≤ z → z < (ne : Int) → gi (mergeL r' (gi r' a.fr) (gi r' a.tt)) z = if gi r' z = gi r' a.tt then gi r' a.fr else gi r' z := fun z hz0 hz1 => by
            obtain ⟨z, rfl⟩ := Int.eq_ofNat_of_zero_le hz0
            rw [gi_nat _ z (by rw [mergeL_len]; omega), gi_nat r' z (by omega)]
            simp [mergeL]
          rw [hm x hx0 hx1, hm y hy0 hy1] at e
          have cx : ∀ z : Int, 0 ≤ z → z < (ne : Int) → gi r' z = gi r' a.tt → Conn acts tree z a.fr := fun z hz0 hz1 e => (ih2 z a.tt hz0 hz1 harc.2.2.1 harc.2.2.2 e).trans hA.symm
          by_cases c1 : gi r' x = gi r' a.tt
          · rw [if_pos c1] at e
            by_cases c2 : gi r' y = gi r' a.tt
            · exact (cx x hx0 hx1 c1).trans (cx y hy0 hy1 c2).symm
            · rw [if_neg c2] at e
              exact (cx x hx0 hx1 c1).trans (ih2 a.fr y harc.1 harc.2.1 hy0 hy1 e)
          · rw [if_neg c1] at e
            by_cases c2 : gi r' y = gi r' a.tt
            · rw [if_pos c2] at e
              exact (ih2 x a.fr hx0 hx1 harc.1 harc.2.1 e).trans (cx y hy0 hy1 c2).symm
            · rw [if_neg c2] at e
              exact ih2 x y hx0 hx1 hy0 hy1 e
theorem forest_ok {ne : Nat} {acts : List Act} {tree : List Int} (hT : ∀ x ∈ acts, 0 ≤ x.fr ∧ x.fr < (ne : Int) ∧ 0 ≤ x.tt ∧ x.tt < (ne : Int) ∧ x.fr ≠ x.tt) (h : forestB ne acts tree = true) :
    TreeOk ne acts tree ∧ ∀ i : Nat, i < acts.length → Conn acts tree (ag acts i).fr (ag acts i).tt := by
  unfold forestB at h
  cases hr : frRoot ne acts tree tree.length with
  | none => rw [hr] at h; cases h
  | some r =>
    rw [hr] at h
    simp only at h
    obtain ⟨h1, h2⟩ := frRoot_conn (fun x hx => by have := hT x hx; omega) (Nat.le_refl _) hr
    refine ⟨⟨fun t ht => ?_, hT⟩, fun i hi => ?_⟩
    · obtain ⟨k, hk, rfl⟩ := List.getElem_of_mem ht
      have := h1 k hk
      rw [gi_nat tree k hk] at this
      exact this
    · have ha := hT _ (ag_mem acts i (by omega) (by omega))
      have := List.all_eq_true.1 h i (List.mem_range.2 hi)
      exact h2 _ _ ha.1 ha.2.1 ha.2.2.1 ha.2.2.2.1 (by simpa using this)
/-- back along the finders -/
def chF (acts : List Act) (via : List Int) (from_ : Int) : Nat → Int → List Int → List Int → List Int × List Int
  | 0, _, as, ss => (as, ss)
  | k + 1, x, as, ss => if x = from_ then (as, ss) else chF acts via from_ k ((ag acts (gi via x)).fr + (ag acts (gi via x)).tt - x) (gi via x :: as) ((if (ag acts (gi via x)).fr = x then -1 else 1) :: ss)
theorem idx_lt {l : List Int} {x : Int} {t : Nat} (h : x ∈ l.take t) : l.idxOf x < t := by
  have h2 : (l.take t).idxOf x < (l.take t).length := List.idxOf_lt_length_of_mem h
  have h3 : l.idxOf x = (l.take t).idxOf x := by
    conv => lhs; rw [← List.take_append_drop t l]
    rw [List.idxOf_append, if_pos h]
  simp at h2
  omega
/-- one step back -/
theorem PSt.back {ne : Nat} {acts : List Act} {tree : List Int} {from_ : Int} {s : List Bool × List Int} {ord : List Int} (h : PSt ne acts tree from_ s ord) {x : Int} (hx : x ∈ ord) (hne : x ≠ from_) :
    gi s.2 x ∈ tree ∧ (ag acts (gi s.2 x)).fr + (ag acts (gi s.2 x)).tt - x ∈ ord ∧ ord.idxOf ((ag acts (gi s.2 x)).fr + (ag acts (gi s.2 x)).tt - x) < ord.idxOf x ∧
      stE (ag acts (gi s.2 x)) (if (ag acts (gi s.2 x)).fr = x then -1 else 1) = (ag acts (gi s.2 x)).fr + (ag acts (gi s.2 x)).tt - x ∧ enE (ag acts (gi s.2 x)) (if (ag acts (gi s.2 x)).fr = x then -1 else 1) = x := by
  have hi : ord.idxOf x < ord.length := List.idxOf_lt_length_of_mem hx
  have hg : ord[ord.idxOf x] = x := by simp
  have hpos : 0 < ord.idxOf x := by
    rcases Nat.eq_zero_or_pos (ord.idxOf x) with e | e
    · exfalso
      have h0 := h.hd
      rw [List.getElem?_eq_getElem (by omega)] at h0
      injection h0 with h0
      apply hne
      rw [← hg, ← h0]
      congr 1
    · exact e
  obtain ⟨h1, h2⟩ := h.par (ord.idxOf x) hi hpos
  rw [hg] at h1 h2
  generalize ag acts (gi s.2 x) = a at *
  refine ⟨h1, ?_⟩
  rcases h2 with ⟨e, hm⟩ | ⟨e, hm⟩
  · have e2 : a.fr + a.tt - x = a.tt := by omega
    rw [e2]
    refine ⟨List.mem_of_mem_take hm, idx_lt hm, ?_, ?_⟩
    · unfold stE; rw [if_pos e, if_pos (by omega)]
    · unfold enE; rw [if_pos e, if_pos (by omega)]; exact e
  · have e2 : a.fr + a.tt - x = a.fr := by omega
    rw [e2]
    have hlt := idx_lt hm
    have hfx : ¬ a.fr = x := fun e3 => by rw [e3] at hlt; omega
    refine ⟨List.mem_of_mem_take hm, hlt, ?_, ?_⟩
    · unfold stE; rw [if_neg hfx, if_neg (by omega)]
    · unfold enE; rw [if_neg hfx, if_neg (by omega)]; exact e
end
end Go.Proofs.Ytbmbdenjlbelaaa
