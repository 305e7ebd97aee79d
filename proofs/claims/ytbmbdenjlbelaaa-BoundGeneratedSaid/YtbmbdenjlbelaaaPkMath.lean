import Derived.Test.YtbmbdenjlbelaaaBdMath2
namespace Go.Proofs.Ytbmbdenjlbelaaa
/-! Pack, as a function of the cycles' arcs and signs. -/
structure PkSt where
  left : List Int
  out : List (List Int × List Int × Int)
  bnd : Int
def minA (left arcs : List Int) : Nat → Int
  | 0 => gi left (gi arcs 0)
  | k + 1 => min (minA left arcs k) (gi left (gi arcs k))
section
variable (T : Int) (ne : Nat) (acts : List Act)
noncomputable def pkStep (arcs signs : List Int) (s : PkSt) : PkSt :=
  if minA s.left arcs arcs.length < 1 ∨ gapV T ne acts arcs signs < 1 then s
  else ⟨addL (-minA s.left arcs arcs.length) s.left arcs, s.out ++ [(arcs, signs, minA s.left arcs arcs.length)], s.bnd + minA s.left arcs arcs.length * gapV T ne acts arcs signs⟩
def pkInit : PkSt := ⟨acts.map (·.wt), [], baseS acts⟩
noncomputable def pkAll (l : List Cyc) : Nat → PkSt
  | 0 => pkInit acts
  | k + 1 => match l[k]? with | some c => pkStep T ne acts c.arcs c.signs (pkAll l k) | none => pkAll l k
noncomputable def pkErr : List Cyc → Int
  | [] => 0
  | c :: r => if gapE T ne acts c.arcs c.signs = 0 then pkErr r else gapE T ne acts c.arcs c.signs
noncomputable def packE (l : List Cyc) : Int := if netB T ne acts = true then pkErr T ne acts l else 1
noncomputable def packO (l : List Cyc) : List (List Int × List Int × Int) := if packE T ne acts l = 0 then (pkAll T ne acts l l.length).out else []
noncomputable def packB (l : List Cyc) : Int := if packE T ne acts l = 0 then (pkAll T ne acts l l.length).bnd else 0
end
section
variable {T : Int} {ne : Nat} {acts : List Act} {arcs signs : List Int}
theorem minA_le (left arcs : List Int) : ∀ (k i : Nat), i < k → minA left arcs k ≤ gi left (gi arcs i)
  | k + 1, i, h => by
    unfold minA
    rcases Nat.lt_or_ge i k with h1 | h1
    · have := minA_le left arcs k i h1; omega
    · obtain rfl : i = k := by omega
      omega
theorem minA_bd (left arcs : List Int) (h0 : ∀ i : Nat, i < arcs.length → 0 ≤ gi left (gi arcs i)) (hl : 0 < arcs.length) : ∀ k, k ≤ arcs.length → 0 ≤ minA left arcs k
  | 0, _ => h0 0 hl
  | k + 1, hk => by
    have h1 := minA_bd left arcs h0 hl k (by omega)
    have h2 := h0 k (by omega)
    unfold minA
    omega
/-- what is known of the state -/
structure PkOk (acts : List Act) (s : PkSt) : Prop where
  len : s.left.length = acts.length
  bd : ∀ i : Nat, i < acts.length → 0 ≤ gi s.left i ∧ gi s.left i ≤ (ag acts i).wt
  b0 : baseS acts ≤ s.bnd
  b1 : s.bnd ≤ baseS acts + 67108864 * (sumN (fun i => (ag acts i).wt) acts.length - allU acts s.left)
theorem pkInit_ok (hn : NetOk T ne acts) : PkOk acts (pkInit acts) := by
  have e : ∀ i : Nat, i < acts.length → gi (acts.map (·.wt)) i = (ag acts i).wt := fun i hi => by
    rw [gi_nat _ i (by simpa using hi), ag_nat acts i hi]; simp
  refine ⟨by simp [pkInit], fun i hi => ?_, Int.le_refl _, ?_⟩
  · show 0 ≤ gi (acts.map (·.wt)) i ∧ gi (acts.map (·.wt)) i ≤ _
    rw [e i hi]
    exact ⟨(hn.a _ (ag_mem acts i (by omega) (by omega))).w0, Int.le_refl _⟩
  · show baseS acts ≤ baseS acts + 67108864 * (_ - sumN (fun i => gi (acts.map (·.wt)) i) acts.length)
    rw [sumN_congr (fun i => gi (acts.map (·.wt)) i) (fun i => (ag acts i).wt) _ e]
    omega
theorem pkStep_ok {s : PkSt} (hc : CycOk T ne acts arcs signs) (h : PkOk acts s) : PkOk acts (pkStep T ne acts arcs signs s) := by
  unfold pkStep
  split
  · exact h
  · rename_i hlt
    have h2 := hc.two
    have hg := gapV_bd (T := T) (ne := ne) (acts := acts) (arcs := arcs) (signs := signs)
    have hrg : ∀ i : Nat, i < arcs.length → 0 ≤ gi arcs i ∧ gi arcs i < acts.length := fun i hi => ⟨(hc.arc i hi).a0, (hc.arc i hi).a1⟩
    have hge : ∀ i : Nat, i < arcs.length → 0 ≤ gi s.left (gi arcs i) := fun i hi => by
      have := h.bd (gi arcs i).toNat (by have := hrg i hi; omega)
      rw [Int.toNat_of_nonneg (hrg i hi).1] at this
      exact this.1
    have hm := minA_bd s.left arcs hge (by omega) arcs.length (Nat.le_refl _)
    have hle : ∀ a ∈ arcs, minA s.left arcs arcs.length ≤ gi s.left a := fun a ha => by
      obtain ⟨i, hi, rfl⟩ := List.getElem_of_mem ha
      have := minA_le s.left arcs arcs.length i hi
      rwa [gi_nat arcs i hi] at this
    generalize minA s.left arcs arcs.length = tm at *
    have e : ∀ i : Nat, i < acts.length → gi (addL (-tm) s.left arcs) i = gi s.left i + if (i : Int) ∈ arcs then -tm else 0 := fun i _ => addL_gi _ _ _ _ hc.nodup (by rw [h.len]; exact hc.range) (by omega)
    refine ⟨by show (addL _ _ _).length = _; rw [addL_len]; exact h.len, fun i hi => ?_, ?_, ?_⟩
    · show 0 ≤ gi (addL (-tm) s.left arcs) i ∧ gi (addL (-tm) s.left arcs) i ≤ _
      rw [e i hi]
      have := h.bd i hi
      split
      · rename_i hmem; have := hle _ hmem; omega
      · omega
    · show baseS acts ≤ s.bnd + tm * gapV T ne acts arcs signs
      have := h.b0
      have := Int.mul_nonneg hm hg.1
      omega
    · show s.bnd + tm * gapV T ne acts arcs signs ≤ baseS acts + 67108864 * (_ - allU acts (addL (-tm) s.left arcs))
      have hb1 := h.b1
      have hmg : tm * gapV T ne acts arcs signs ≤ tm * 67108864 := Int.mul_le_mul_of_nonneg_left hg.2 hm
      have hu : allU acts (addL (-tm) s.left arcs) + tm ≤ allU acts s.left := by
        unfold allU
        rw [sumN_congr _ _ _ e, sumN_add]
        have ha := hc.arc 0 (by omega)
        have h3 := sumN_one (fun i => if (i : Int) ∈ arcs then tm else 0) acts.length (gi arcs ((0 : Nat) : Int)).toNat (by have := ha.a0; have := ha.a1; omega) (fun i _ => by split <;> omega)
        rw [Int.toNat_of_nonneg ha.a0, if_pos (by rw [gi_nat arcs 0 (by omega)]; exact List.getElem_mem _)] at h3
        have h4 : sumN (fun i => if (i : Int) ∈ arcs then -tm else 0) acts.length = - sumN (fun i => if (i : Int) ∈ arcs then tm else 0) acts.length := by
          rw [← sumN_neg]
          apply sumN_congr
          intro i _
          split <;> omega
        omega
      omega
end
end Go.Proofs.Ytbmbdenjlbelaaa
