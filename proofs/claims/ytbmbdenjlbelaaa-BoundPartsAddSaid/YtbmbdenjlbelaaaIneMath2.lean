import Derived.Test.YtbmbdenjlbelaaaIneMath
namespace Go.Proofs.Ytbmbdenjlbelaaa
def gi (l : List Int) (i : Int) : Int := l.getD i.toNat 0
theorem gi_nat (l : List Int) (i : Nat) (h : i < l.length) : gi l i = l[i] := by simp [gi, h]
theorem gi_set (l : List Int) (i j : Int) (v : Int) (hi : 0 ≤ i) (hil : i < l.length) (hj : 0 ≤ j) : gi (l.set i.toNat v) j = if j = i then v else gi l j := by
  unfold gi
  rw [List.getD_eq_getElem?_getD, List.getD_eq_getElem?_getD, List.getElem?_set]
  by_cases h : j = i
  · subst h; rw [if_pos rfl, if_pos rfl, if_pos (by omega)]; rfl
  · rw [if_neg (by omega), if_neg h]
def gb (l : List Bool) (i : Int) : Bool := l.getD i.toNat false
theorem gb_nat (l : List Bool) (i : Nat) (h : i < l.length) : gb l i = l[i] := by simp [gb, h]
theorem gb_set (l : List Bool) (i j : Int) (v : Bool) (hi : 0 ≤ i) (hil : i < l.length) (hj : 0 ≤ j) : gb (l.set i.toNat v) j = if j = i then v else gb l j := by
  unfold gb
  rw [List.getD_eq_getElem?_getD, List.getD_eq_getElem?_getD, List.getElem?_set]
  by_cases h : j = i
  · subst h; rw [if_pos rfl, if_pos rfl, if_pos (by omega)]; rfl
  · rw [if_neg (by omega), if_neg h]
theorem gb_rep (n : Nat) (j : Int) : gb (List.replicate n false) j = false := by
  unfold gb; rw [List.getD_eq_getElem?_getD, List.getElem?_replicate]; split <;> rfl
def ag (acts : List Act) (i : Int) : Act := acts.getD i.toNat ⟨0, 0, 0, 0, 0, 0⟩
theorem ag_nat (acts : List Act) (i : Nat) (h : i < acts.length) : ag acts i = acts[i] := by simp [ag, h]
theorem ag_mem (acts : List Act) (i : Int) (h0 : 0 ≤ i) (h : i < acts.length) : ag acts i ∈ acts := by
  obtain ⟨i, rfl⟩ := Int.eq_ofNat_of_zero_le h0
  rw [ag_nat acts i (by omega)]; exact List.getElem_mem _
def stE (a : Act) (s : Int) : Int := if s < 0 then a.tt else a.fr
def enE (a : Act) (s : Int) : Int := if s < 0 then a.fr else a.tt
def stC (acts : List Act) (arcs signs : List Int) (k : Nat) : Int := stE (ag acts (gi arcs k)) (gi signs k)
def enC (acts : List Act) (arcs signs : List Int) (k : Nat) : Int := enE (ag acts (gi arcs k)) (gi signs k)
/-- the arcs and the signs of a cycle are permitted -/
structure ArcOk (acts : List Act) (arcs signs : List Int) (k : Nat) : Prop where
  a0 : 0 ≤ gi arcs k
  a1 : gi arcs k < acts.length
  s : gi signs k = 1 ∨ gi signs k = -1
  nd : ∀ i, i < k → gi arcs i ≠ gi arcs k
structure CycOk (T : Int) (ne : Nat) (acts : List Act) (arcs signs : List Int) : Prop where
  net : NetOk T ne acts
  len : arcs.length = signs.length
  two : 2 ≤ arcs.length
  arc : ∀ k, k < arcs.length → ArcOk acts arcs signs k
  cl : ∀ k, k < arcs.length → stC acts arcs signs ((k + 1) % arcs.length) = enC acts arcs signs k
  sd : ∀ i j, i < j → j < arcs.length → stC acts arcs signs i ≠ stC acts arcs signs j
open Classical in
noncomputable def cycB (T : Int) (ne : Nat) (acts : List Act) (arcs signs : List Int) : Bool := decide (CycOk T ne acts arcs signs)
section
variable {T : Int} {ne : Nat} {acts : List Act} {arcs signs : List Int}
theorem cycB_iff : cycB T ne acts arcs signs = true ↔ CycOk T ne acts arcs signs := by simp [cycB]
theorem cycB_yes (h : CycOk T ne acts arcs signs) : cycB T ne acts arcs signs = true := cycB_iff.2 h
theorem cycB_no (h : ¬ CycOk T ne acts arcs signs) : cycB T ne acts arcs signs = false := by
  cases hb : cycB T ne acts arcs signs
  · rfl
  · exact absurd (cycB_iff.1 hb) h
theorem st_range (hn : NetOk T ne acts) {k : Nat} (ha : ArcOk acts arcs signs k) : 0 ≤ stC acts arcs signs k ∧ stC acts arcs signs k < ne ∧ 0 ≤ enC acts arcs signs k ∧ enC acts arcs signs k < ne := by
  have h := hn.a _ (ag_mem acts _ ha.a0 ha.a1)
  have h1 := h.f0
  have h2 := h.f1
  have h3 := h.t0
  have h4 := h.t1
  unfold stC enC stE enE
  split <;> exact ⟨by assumption, by assumption, by assumption, by assumption⟩
/-- cl and sd in the way of the program: 'at' is the end of the arc before -/
def prevK (n k : Nat) : Nat := if k = 0 then n - 1 else k - 1
theorem cyc_mk (h1 : NetOk T ne acts) (h2 : arcs.length = signs.length) (h3 : 2 ≤ arcs.length) (h4 : ∀ k, k < arcs.length → ArcOk acts arcs signs k)
    (h5 : ∀ k, k < arcs.length → stC acts arcs signs k = enC acts arcs signs (prevK arcs.length k)) (h6 : ∀ i j, i < j → j < arcs.length → stC acts arcs signs i ≠ stC acts arcs signs j) : CycOk T ne acts arcs signs := by
  refine ⟨h1, h2, h3, h4, fun k hk => ?_, h6⟩
  by_cases e : k + 1 = arcs.length
  · rw [e, Nat.mod_self, h5 0 (by omega)]
    unfold prevK
    rw [if_pos rfl]
    congr 1
    omega
  · rw [Nat.mod_eq_of_lt (by omega), h5 (k + 1) (by omega)]
    unfold prevK
    rw [if_neg (by omega)]
    congr 1
theorem CycOk.prev (h : CycOk T ne acts arcs signs) (k : Nat) (hk : k < arcs.length) : stC acts arcs signs k = enC acts arcs signs (prevK arcs.length k) := by
  unfold prevK
  split
  · subst_vars
    have := h.cl (arcs.length - 1) (by omega)
    rw [show arcs.length - 1 + 1 = arcs.length by omega, Nat.mod_self] at this
    exact this
  · have := h.cl (k - 1) (by omega)
    rw [show k - 1 + 1 = k by omega, Nat.mod_eq_of_lt hk] at this
    exact this
end
end Go.Proofs.Ytbmbdenjlbelaaa
