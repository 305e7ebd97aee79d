import Derived.Test.YtbmbdenjlbelaaaIneMath2
namespace Go.Proofs.Ytbmbdenjlbelaaa
theorem tm_ex (a b : Int) (hb : 1 ≤ b) : (0 ≤ a.tmod b → a.tmod b = a % b ∧ a.tdiv b = a / b) ∧ (a.tmod b < 0 → a.tmod b + b = a % b ∧ a.tdiv b - 1 = a / b) ∧ a.tmod b < b ∧ -b < a.tmod b := by
  have h1 := Int.mul_tdiv_add_tmod a b
  have h2 : a.tmod b < b := by
    have := Int.tmod_lt_of_pos a (show 0 < b by omega); exact this
  have h3 : -b < a.tmod b := by
    have := Int.lt_tmod_of_pos a (show 0 < b by omega); exact this
  have e1 := Int.emod_nonneg a (show b ≠ 0 by omega)
  have e2 := Int.emod_lt_of_pos a (show 0 < b by omega)
  have e3 := Int.mul_ediv_add_emod a b
  refine ⟨fun h => ?_, fun h => ?_, h2, h3⟩
  · have : a / b = a.tdiv b ∧ a % b = a.tmod b := (Int.ediv_emod_unique (show 0 < b by omega)).2 ⟨by omega, h, h2⟩
    exact ⟨this.2.symm, this.1.symm⟩
  · have : a / b = a.tdiv b - 1 ∧ a % b = a.tmod b + b := (Int.ediv_emod_unique (show 0 < b by omega)).2 ⟨by rw [Int.mul_sub]; omega, by omega, by omega⟩
    exact ⟨this.2.symm, this.1.symm⟩
def cdiv (a b : Int) : Int := -((-a) / b)
theorem cdiv_ex (a b : Int) (hb : 1 ≤ b) : (0 < a.tmod b → a.tdiv b + 1 = cdiv a b) ∧ (a.tmod b ≤ 0 → a.tdiv b = cdiv a b) := by
  have h1 := Int.mul_tdiv_add_tmod a b
  have ⟨_, _, h2, h3⟩ := tm_ex a b hb
  unfold cdiv
  refine ⟨fun h => ?_, fun h => ?_⟩
  · have : (-a) / b = -(a.tdiv b) - 1 ∧ (-a) % b = b - a.tmod b := (Int.ediv_emod_unique (show 0 < b by omega)).2 ⟨by rw [Int.mul_sub, Int.mul_neg]; omega, by omega, by omega⟩
    rw [this.1]; omega
  · have : (-a) / b = -(a.tdiv b) ∧ (-a) % b = - a.tmod b := (Int.ediv_emod_unique (show 0 < b by omega)).2 ⟨by rw [Int.mul_neg]; omega, by omega, by omega⟩
    rw [this.1]; omega
theorem td_bd (a b : Int) (hb : 1 ≤ b) : (0 ≤ a → 0 ≤ a.tdiv b ∧ a.tdiv b ≤ a) ∧ (a ≤ 0 → a ≤ a.tdiv b ∧ a.tdiv b ≤ 0) := by
  refine ⟨fun h => ⟨Int.tdiv_nonneg h (by omega), ?_⟩, fun h => ?_⟩
  · rw [Int.tdiv_eq_ediv_of_nonneg h]; exact Int.ediv_le_self b h
  · have e : a.tdiv b = -((-a).tdiv b) := by rw [Int.neg_tdiv]; omega
    have h1 : 0 ≤ (-a).tdiv b := Int.tdiv_nonneg (by omega) (by omega)
    have h2 : (-a).tdiv b ≤ -a := by rw [Int.tdiv_eq_ediv_of_nonneg (by omega)]; exact Int.ediv_le_self b (by omega)
    omega
/-- sums over the first k numbers -/
def sumN (f : Nat → Int) : Nat → Int
  | 0 => 0
  | k + 1 => sumN f k + f k
theorem sumN_bd (f : Nat → Int) (lo hi : Int) : ∀ (k : Nat), (∀ i, i < k → lo ≤ f i ∧ f i ≤ hi) → lo * k ≤ sumN f k ∧ sumN f k ≤ hi * k
  | 0, _ => by simp [sumN]
  | k + 1, h => by
    have ih := sumN_bd f lo hi k (fun i hi => h i (by omega))
    have := h k (by omega)
    unfold sumN
    rw [show ((k + 1 : Nat) : Int) = k + 1 by omega, Int.mul_add, Int.mul_add]
    omega
theorem sumN_congr (f g : Nat → Int) : ∀ (k : Nat), (∀ i, i < k → f i = g i) → sumN f k = sumN g k
  | 0, _ => rfl
  | k + 1, h => by unfold sumN; rw [sumN_congr f g k (fun i hi => h i (by omega)), h k (by omega)]
theorem sumN_add (f g : Nat → Int) : ∀ (k : Nat), sumN (fun i => f i + g i) k = sumN f k + sumN g k
  | 0 => rfl
  | k + 1 => by unfold sumN; rw [sumN_add f g k]; omega
theorem sumN_mul (c : Int) (f : Nat → Int) : ∀ (k : Nat), sumN (fun i => c * f i) k = c * sumN f k
  | 0 => by simp [sumN]
  | k + 1 => by unfold sumN; rw [sumN_mul c f k, Int.mul_add]
def bsT (acts : List Act) (arcs signs : List Int) (i : Nat) : Int := gi signs i * (ag acts (gi arcs i)).mn
def fwT (acts : List Act) (arcs signs : List Int) (i : Nat) : Int := if gi signs i = 1 then (ag acts (gi arcs i)).mx - (ag acts (gi arcs i)).mn else 0
def bwT (acts : List Act) (arcs signs : List Int) (i : Nat) : Int := if gi signs i = 1 then 0 else (ag acts (gi arcs i)).mx - (ag acts (gi arcs i)).mn
section
variable {T : Int} {ne : Nat} {acts : List Act} {arcs signs : List Int}
/-- what the sums lean on -/
structure SumOk (acts : List Act) (arcs signs : List Int) : Prop where
  n : arcs.length ≤ 512
  len : arcs.length = signs.length
  rg : ∀ k, k < arcs.length → 0 ≤ gi arcs k ∧ gi arcs k < acts.length ∧ (gi signs k = 1 ∨ gi signs k = -1)
  a : ∀ x ∈ acts, -65536 ≤ x.mn ∧ x.mn ≤ x.mx ∧ x.mx ≤ 65536
theorem nodup_le2 (n : Nat) : ∀ (l : List Int), l.Nodup → (∀ x ∈ l, 0 ≤ x ∧ x < (n : Int)) → l.length ≤ n := by
  induction n with
  | zero =>
    intro l _ h
    cases l with
    | nil => simp
    | cons x l => have := h x List.mem_cons_self; omega
  | succ n ih =>
    intro l hn h
    have h1 := ih (l.erase n) (hn.erase _) (fun x hx => by
      have hm := List.mem_of_mem_erase hx
      have := h x hm
      have hne : x ≠ (n : Int) := by
        intro e
        subst e
        exact absurd hx hn.not_mem_erase
      omega)
    have h2 := List.length_erase (a := (n : Int)) (l := l)
    split at h2 <;> omega
theorem arcs_nodup (h : ∀ k, k < arcs.length → ArcOk acts arcs signs k) : arcs.Nodup := by
  unfold List.Nodup
  rw [List.pairwise_iff_getElem]
  intro i j hi hj hij e
  have := (h j hj).nd i hij
  rw [gi_nat arcs i hi, gi_nat arcs j hj] at this
  exact this e
theorem arcs_le (h : ∀ k, k < arcs.length → ArcOk acts arcs signs k) : arcs.length ≤ acts.length :=
  nodup_le2 acts.length arcs (arcs_nodup h) (fun x hx => by
    obtain ⟨i, hi, rfl⟩ := List.getElem_of_mem hx
    have h1 := (h i hi).a0
    have h2 := (h i hi).a1
    rw [gi_nat arcs i hi] at h1 h2
    exact ⟨h1, h2⟩)
theorem CycOk.sum (h : CycOk T ne acts arcs signs) : SumOk acts arcs signs :=
  ⟨by have := arcs_le h.arc; have := h.net.n; omega, h.len, fun k hk => ⟨(h.arc k hk).a0, (h.arc k hk).a1, (h.arc k hk).s⟩, fun x hx => by have := h.net.a x hx; exact ⟨this.m0, this.mm, this.m1⟩⟩
theorem SumOk.bs (h : SumOk acts arcs signs) (k : Nat) (hk : k < arcs.length) : -65536 ≤ bsT acts arcs signs k ∧ bsT acts arcs signs k ≤ 65536 := by
  have h1 := h.rg k hk
  have h2 := h.a _ (ag_mem acts _ h1.1 h1.2.1)
  unfold bsT
  rcases h1.2.2 with e | e <;> rw [e] <;> omega
theorem SumOk.fw (h : SumOk acts arcs signs) (k : Nat) (hk : k < arcs.length) : 0 ≤ fwT acts arcs signs k ∧ fwT acts arcs signs k ≤ 131072 := by
  have h1 := h.rg k hk
  have h2 := h.a _ (ag_mem acts _ h1.1 h1.2.1)
  unfold fwT
  split <;> omega
theorem SumOk.bw (h : SumOk acts arcs signs) (k : Nat) (hk : k < arcs.length) : 0 ≤ bwT acts arcs signs k ∧ bwT acts arcs signs k ≤ 131072 := by
  have h1 := h.rg k hk
  have h2 := h.a _ (ag_mem acts _ h1.1 h1.2.1)
  unfold bwT
  split <;> omega
theorem SumOk.bsB (h : SumOk acts arcs signs) (k : Nat) (hk : k ≤ arcs.length) : -33554432 ≤ sumN (bsT acts arcs signs) k ∧ sumN (bsT acts arcs signs) k ≤ 33554432 := by
  have := sumN_bd (bsT acts arcs signs) (-65536) 65536 k (fun i hi => h.bs i (by omega))
  have := h.n
  omega
theorem SumOk.fwB (h : SumOk acts arcs signs) (k : Nat) (hk : k ≤ arcs.length) : 0 ≤ sumN (fwT acts arcs signs) k ∧ sumN (fwT acts arcs signs) k ≤ 67108864 := by
  have := sumN_bd (fwT acts arcs signs) 0 131072 k (fun i hi => h.fw i (by omega))
  have := h.n
  omega
theorem SumOk.bwB (h : SumOk acts arcs signs) (k : Nat) (hk : k ≤ arcs.length) : 0 ≤ sumN (bwT acts arcs signs) k ∧ sumN (bwT acts arcs signs) k ≤ 67108864 := by
  have := sumN_bd (bwT acts arcs signs) 0 131072 k (fun i hi => h.bw i (by omega))
  have := h.n
  omega
end
end Go.Proofs.Ytbmbdenjlbelaaa
