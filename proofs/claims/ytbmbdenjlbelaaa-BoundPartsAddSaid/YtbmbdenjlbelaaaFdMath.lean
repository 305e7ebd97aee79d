import Derived.Test.YtbmbdenjlbelaaaPathMath
namespace Go.Proofs.Ytbmbdenjlbelaaa

/-! What Tree, Forest, path and Fundamental of the reference reckon, as functions. -/
def iotaL (n : Nat) : List Int := (List.range n).map Int.ofNat
theorem iotaL_len (n : Nat) : (iotaL n).length = n := by simp [iotaL]
theorem iotaL_get (n i : Nat) (h : i < n) : (iotaL n)[i]'(by rw [iotaL_len]; exact h) = (i : Int) := by simp [iotaL]
def mergeL (r : List Int) (x y : Int) : List Int := r.map fun v => if v = y then x else v
theorem mergeL_len (r : List Int) (x y : Int) : (mergeL r x y).length = r.length := by simp [mergeL]
def mergeR (r : List Int) (a : Act) : List Int := if gi r a.fr = gi r a.tt then r else mergeL r (gi r a.fr) (gi r a.tt)
def mergeB (r : List Int) (a : Act) : Bool := !(gi r a.fr == gi r a.tt)
theorem mergeR_len (r : List Int) (a : Act) : (mergeR r a).length = r.length := by unfold mergeR; split <;> simp [mergeL]
/-- of the labels the first i turned -/
def mrgT (r : List Int) (x y : Int) (i : Nat) : List Int := mergeL (r.take i) x y ++ r.drop i
theorem mrgT_zero (r : List Int) (x y : Int) : mrgT r x y 0 = r := by simp [mrgT, mergeL]
theorem mrgT_len (r : List Int) (x y : Int) (i : Nat) : (mrgT r x y i).length = r.length := by simp [mrgT, mergeL]; omega
theorem mrgT_all (r : List Int) (x y : Int) (i : Nat) (h : r.length ≤ i) : mrgT r x y i = mergeL r x y := by unfold mrgT; rw [List.take_of_length_le h, List.drop_eq_nil_of_le h]; simp
theorem mrgT_get (r : List Int) (x y : Int) (i : Nat) (h : i < r.length) : (mrgT r x y i)[i]'(by rw [mrgT_len]; exact h) = r[i] := by
  unfold mrgT
  rw [List.getElem_append_right (by simp [mergeL]; omega)]
  simp [mergeL, Nat.min_eq_left (Nat.le_of_lt h)]
theorem mrgT_set (r : List Int) (x y : Int) (i : Nat) (h : i < r.length) (e : r[i] = y) : (mrgT r x y i).set i x = mrgT r x y (i + 1) := by
  unfold mrgT mergeL
  rw [List.take_succ_eq_append_getElem h, List.map_append, List.drop_eq_getElem_cons h, List.set_append_right _ _ (by simp; omega)]
  simp only [List.length_map, List.length_take, Nat.min_eq_left (Nat.le_of_lt h), Nat.sub_self, List.set_cons_zero, List.map_cons, List.map_nil, if_pos e, List.append_assoc, List.cons_append, List.nil_append]
theorem mrgT_skip (r : List Int) (x y : Int) (i : Nat) (h : i < r.length) (e : r[i] ≠ y) : mrgT r x y i = mrgT r x y (i + 1) := by
  unfold mrgT mergeL
  rw [List.take_succ_eq_append_getElem h, List.map_append, List.drop_eq_getElem_cons h]
  simp only [List.map_cons, List.map_nil, if_neg e, List.append_assoc, List.cons_append, List.nil_append]
/-- Tree -/
def trStep (span : Int) (a : Act) (i : Nat) (s : List Int × List Bool) : List Int × List Bool :=
  if a.mx - a.mn = span then (mergeR s.1 a, if mergeB s.1 a = true then s.2.set i true else s.2) else s
def trRow (acts : List Act) (span : Int) (s : List Int × List Bool) : Nat → List Int × List Bool
  | 0 => s
  | k + 1 => trStep span (ag acts k) k (trRow acts span s k)
def trAll (ne : Nat) (acts : List Act) : Nat → List Int × List Bool
  | 0 => (iotaL ne, List.replicate acts.length false)
  | t + 1 => trRow acts t (trAll ne acts t) acts.length
theorem trStep_len (span : Int) (a : Act) (i : Nat) (s : List Int × List Bool) : (trStep span a i s).1.length = s.1.length ∧ (trStep span a i s).2.length = s.2.length := by
  unfold trStep
  split
  · refine ⟨mergeR_len _ _, ?_⟩
    simp only
    split <;> simp
  · exact ⟨rfl, rfl⟩
theorem trRow_len (acts : List Act) (span : Int) (s : List Int × List Bool) : ∀ k, (trRow acts span s k).1.length = s.1.length ∧ (trRow acts span s k).2.length = s.2.length
  | 0 => ⟨rfl, rfl⟩
  | k + 1 => by
    have h := trStep_len span (ag acts k) k (trRow acts span s k)
    have ih := trRow_len acts span s k
    exact ⟨h.1.trans ih.1, h.2.trans ih.2⟩
theorem trAll_len (ne : Nat) (acts : List Act) : ∀ t, (trAll ne acts t).1.length = ne ∧ (trAll ne acts t).2.length = acts.length
  | 0 => ⟨iotaL_len ne, by simp [trAll]⟩
  | t + 1 => by
    have h := trRow_len acts t (trAll ne acts t) acts.length
    have ih := trAll_len ne acts t
    exact ⟨h.1.trans ih.1, h.2.trans ih.2⟩
def takL (dn : List Bool) (k : Nat) : List Int := ((List.range k).map Int.ofNat).filter fun i => gb dn i
theorem takL_succ (dn : List Bool) (k : Nat) : takL dn (k + 1) = if gb dn k = true then takL dn k ++ [(k : Int)] else takL dn k := by
  unfold takL
  rw [List.range_succ, List.map_append, List.filter_append]
  by_cases h : gb dn k = true
  · rw [if_pos h]; simp [h]
  · rw [if_neg h]; simp at h; simp [h]
theorem takL_len (dn : List Bool) (k : Nat) : (takL dn k).length ≤ k := by
  unfold takL
  refine Nat.le_trans (List.length_filter_le _ _) (by simp)
def treeF (T : Int) (ne : Nat) (acts : List Act) : List Int := takL (trAll ne acts T.toNat).2 acts.length
/-- Forest -/
def frTest (acts : List Act) (tree r : List Int) (j : Nat) : Bool :=
  decide (0 ≤ gi tree j ∧ gi tree j ≤ (acts.length : Int) - 1) && (decide (j = 0) || decide (gi tree ((j : Int) - 1) < gi tree j)) && mergeB r (ag acts (gi tree j))
def frRoot (ne : Nat) (acts : List Act) (tree : List Int) : Nat → Option (List Int)
  | 0 => some (iotaL ne)
  | j + 1 => match frRoot ne acts tree j with
    | none => none
    | some r => if frTest acts tree r j = true then some (mergeR r (ag acts (gi tree j))) else none
theorem frRoot_none {ne : Nat} {acts : List Act} {tree : List Int} {j : Nat} (h : frRoot ne acts tree j = none) : ∀ k, j ≤ k → frRoot ne acts tree k = none := by
  intro k hk
  induction k with
  | zero => obtain rfl : j = 0 := by omega
            exact h
  | succ k ih =>
    by_cases e : j = k + 1
    · rw [← e]; exact h
    · show (match frRoot ne acts tree k with | none => none | some r => _) = none
      rw [ih (by omega)]
theorem frRoot_len {ne : Nat} {acts : List Act} {tree : List Int} : ∀ {j : Nat} {r : List Int}, frRoot ne acts tree j = some r → r.length = ne
  | 0, r, h => by injection h with h; rw [← h]; exact iotaL_len ne
  | j + 1, r, h => by
    unfold frRoot at h
    cases hr : frRoot ne acts tree j with
    | none => rw [hr] at h; cases h
    | some r' =>
      rw [hr] at h
      simp only at h
      split at h
      · injection h with h; rw [← h, mergeR_len]; exact frRoot_len hr
      · cases h
def frAll (acts : List Act) (r : List Int) (k : Nat) : Bool := (List.range k).all fun i => gi r (ag acts i).fr == gi r (ag acts i).tt
theorem frAll_succ (acts : List Act) (r : List Int) (k : Nat) : frAll acts r (k + 1) = (frAll acts r k && (gi r (ag acts k).fr == gi r (ag acts k).tt)) := by
  unfold frAll; rw [List.range_succ, List.all_append]; simp
def forestB (ne : Nat) (acts : List Act) (tree : List Int) : Bool :=
  match frRoot ne acts tree tree.length with
  | none => false
  | some r => frAll acts r acts.length
/-- path -/
def pStep (acts : List Act) (t : Int) (s : List Bool × List Int) : List Bool × List Int :=
  if gb s.1 (ag acts t).fr = true ∧ gb s.1 (ag acts t).tt = false then (s.1.set (ag acts t).tt.toNat true, s.2.set (ag acts t).tt.toNat t)
  else if gb s.1 (ag acts t).tt = true ∧ gb s.1 (ag acts t).fr = false then (s.1.set (ag acts t).fr.toNat true, s.2.set (ag acts t).fr.toNat t)
  else s
def pRow (acts : List Act) (tree : List Int) (s : List Bool × List Int) : Nat → List Bool × List Int
  | 0 => s
  | k + 1 => pStep acts (gi tree k) (pRow acts tree s k)
def pAll (ne : Nat) (acts : List Act) (tree : List Int) (from_ : Int) : Nat → List Bool × List Int
  | 0 => ((List.replicate ne false).set from_.toNat true, List.replicate ne (-1))
  | r + 1 => pRow acts tree (pAll ne acts tree from_ r) tree.length
theorem pStep_len (acts : List Act) (t : Int) (s : List Bool × List Int) : (pStep acts t s).1.length = s.1.length ∧ (pStep acts t s).2.length = s.2.length := by
  unfold pStep
  split
  · simp
  · split <;> simp
theorem pRow_len (acts : List Act) (tree : List Int) (s : List Bool × List Int) : ∀ k, (pRow acts tree s k).1.length = s.1.length ∧ (pRow acts tree s k).2.length = s.2.length
  | 0 => ⟨rfl, rfl⟩
  | k + 1 => by
    have h := pStep_len acts (gi tree k) (pRow acts tree s k)
    have ih := pRow_len acts tree s k
    exact ⟨h.1.trans ih.1, h.2.trans ih.2⟩
theorem pAll_len (ne : Nat) (acts : List Act) (tree : List Int) (from_ : Int) : ∀ r, (pAll ne acts tree from_ r).1.length = ne ∧ (pAll ne acts tree from_ r).2.length = ne
  | 0 => by simp [pAll]
  | r + 1 => by
    have h := pRow_len acts tree (pAll ne acts tree from_ r) tree.length
    have ih := pAll_len ne acts tree from_ r
    exact ⟨h.1.trans ih.1, h.2.trans ih.2⟩
end Go.Proofs.Ytbmbdenjlbelaaa
