
set_option linter.unusedVariables false
set_option linter.unusedSimpArgs false
namespace Go.Proofs.YtinjdcefagaaeaaGreatDoor
structure Act where
  kd : Int
  fr : Int
  tt : Int
  mn : Int
  mx : Int
  wt : Int
structure ActOk (T : Int) (ne : Nat) (a : Act) : Prop where
  f0 : 0 ≤ a.fr
  f1 : a.fr < ne
  t0 : 0 ≤ a.tt
  t1 : a.tt < ne
  ft : a.fr ≠ a.tt
  m0 : -65536 ≤ a.mn
  mm : a.mn ≤ a.mx
  m1 : a.mx ≤ 65536
  sp : a.mx - a.mn < T
  w0 : 0 ≤ a.wt
  w1 : a.wt ≤ 1048576
structure NetOk (T : Int) (ne : Nat) (acts : List Act) : Prop where
  t0 : 2 ≤ T
  t1 : T ≤ 7200
  e : ne ≤ 48
  n : acts.length ≤ 512
  a : ∀ x ∈ acts, ActOk T ne x
open Classical in
noncomputable def netB (T : Int) (ne : Nat) (acts : List Act) : Bool := decide (NetOk T ne acts)
theorem netB_iff {T : Int} {ne : Nat} {acts : List Act} : netB T ne acts = true ↔ NetOk T ne acts := by simp [netB]
theorem netB_yes {T : Int} {ne : Nat} {acts : List Act} (h : NetOk T ne acts) : netB T ne acts = true := netB_iff.2 h
theorem netB_no {T : Int} {ne : Nat} {acts : List Act} (h : ¬ NetOk T ne acts) : netB T ne acts = false := by
  cases hb : netB T ne acts
  · rfl
  · exact absurd (netB_iff.1 hb) h
end Go.Proofs.YtinjdcefagaaeaaGreatDoor

namespace Go.Proofs.YtinjdcefagaaeaaGreatDoor
def gi (l : List Int) (i : Int) : Int := l.getD i.toNat 0
theorem gi_nat (l : List Int) (i : Nat) (h : i < l.length) : gi l i = l[i] := by simp [gi, h]
theorem gi_set (l : List Int) (i j : Int) (v : Int) (hi : 0 ≤ i) (hil : i < l.length) (hj : 0 ≤ j) : gi (l.set i.toNat v) j = if j = i then v else gi l j := by
  unfold gi
  rw [List.getD_eq_getElem?_getD, List.getD_eq_getElem?_getD, List.getElem?_set]
  by_cases h : j = i
  · subst h; rw [if_pos rfl, if_pos rfl, if_pos (by omega)]; rfl
  · rw [if_neg (by omega), if_neg h]
def gb (l : List Bool) (i : Int) : Bool := l.getD i.toNat false
theorem gb_nat (l : List Bool) (i : Nat) (h : i < l.length) : gb l i = l[i] := by simp [gb, h]
theorem gb_set (l : List Bool) (i j : Int) (v : Bool) (hi : 0 ≤ i) (hil : i < l.length) (hj : 0 ≤ j) : gb (l.set i.toNat v) j = if j = i then v else gb l j := by
  unfold gb
  rw [List.getD_eq_getElem?_getD, List.getD_eq_getElem?_getD, List.getElem?_set]
  by_cases h : j = i
  · subst h; rw [if_pos rfl, if_pos rfl, if_pos (by omega)]; rfl
  · rw [if_neg (by omega), if_neg h]
theorem gb_rep (n : Nat) (j : Int) : gb (List.replicate n false) j = false := by
  unfold gb; rw [List.getD_eq_getElem?_getD, List.getElem?_replicate]; split <;> rfl
def ag (acts : List Act) (i : Int) : Act := acts.getD i.toNat ⟨0, 0, 0, 0, 0, 0⟩
theorem ag_nat (acts : List Act) (i : Nat) (h : i < acts.length) : ag acts i = acts[i] := by simp [ag, h]
theorem ag_mem (acts : List Act) (i : Int) (h0 : 0 ≤ i) (h : i < acts.length) : ag acts i ∈ acts := by
  obtain ⟨i, rfl⟩ := Int.eq_ofNat_of_zero_le h0
  rw [ag_nat acts i (by omega)]; exact List.getElem_mem _
def stE (a : Act) (s : Int) : Int := if s < 0 then a.tt else a.fr
def enE (a : Act) (s : Int) : Int := if s < 0 then a.fr else a.tt
def stC (acts : List Act) (arcs signs : List Int) (k : Nat) : Int := stE (ag acts (gi arcs k)) (gi signs k)
def enC (acts : List Act) (arcs signs : List Int) (k : Nat) : Int := enE (ag acts (gi arcs k)) (gi signs k)
/-- the arcs and the signs of a cycle are permitted -/
structure ArcOk (acts : List Act) (arcs signs : List Int) (k : Nat) : Prop where
  a0 : 0 ≤ gi arcs k
  a1 : gi arcs k < acts.length
  s : gi signs k = 1 ∨ gi signs k = -1
  nd : ∀ i, i < k → gi arcs i ≠ gi arcs k
structure CycOk (T : Int) (ne : Nat) (acts : List Act) (arcs signs : List Int) : Prop where
  net : NetOk T ne acts
  len : arcs.length = signs.length
  two : 2 ≤ arcs.length
  arc : ∀ k, k < arcs.length → ArcOk acts arcs signs k
  cl : ∀ k, k < arcs.length → stC acts arcs signs ((k + 1) % arcs.length) = enC acts arcs signs k
  sd : ∀ i j, i < j → j < arcs.length → stC acts arcs signs i ≠ stC acts arcs signs j
open Classical in
noncomputable def cycB (T : Int) (ne : Nat) (acts : List Act) (arcs signs : List Int) : Bool := decide (CycOk T ne acts arcs signs)
section
variable {T : Int} {ne : Nat} {acts : List Act} {arcs signs : List Int}
theorem cycB_iff : cycB T ne acts arcs signs = true ↔ CycOk T ne acts arcs signs := by simp [cycB]
theorem cycB_yes (h : CycOk T ne acts arcs signs) : cycB T ne acts arcs signs = true := cycB_iff.2 h
theorem cycB_no (h : ¬ CycOk T ne acts arcs signs) : cycB T ne acts arcs signs = false := by
  cases hb : cycB T ne acts arcs signs
  · rfl
  · exact absurd (cycB_iff.1 hb) h
theorem st_range (hn : NetOk T ne acts) {k : Nat} (ha : ArcOk acts arcs signs k) : 0 ≤ stC acts arcs signs k ∧ stC acts arcs signs k < ne ∧ 0 ≤ enC acts arcs signs k ∧ enC acts arcs signs k < ne := by
  have h := hn.a _ (ag_mem acts _ ha.a0 ha.a1)
  have h1 := h.f0
  have h2 := h.f1
  have h3 := h.t0
  have h4 := h.t1
  unfold stC enC stE enE
  split <;> exact ⟨by assumption, by assumption, by assumption, by assumption⟩
/-- cl and sd in the way of the program: 'at' is the end of the arc before -/
def prevK (n k : Nat) : Nat := if k = 0 then n - 1 else k - 1
theorem cyc_mk (h1 : NetOk T ne acts) (h2 : arcs.length = signs.length) (h3 : 2 ≤ arcs.length) (h4 : ∀ k, k < arcs.length → ArcOk acts arcs signs k)
    (h5 : ∀ k, k < arcs.length → stC acts arcs signs k = enC acts arcs signs (prevK arcs.length k)) (h6 : ∀ i j, i < j → j < arcs.length → stC acts arcs signs i ≠ stC acts arcs signs j) : CycOk T ne acts arcs signs := by
  refine ⟨h1, h2, h3, h4, fun k hk => ?_, h6⟩
  by_cases e : k + 1 = arcs.length
  · rw [e, Nat.mod_self, h5 0 (by omega)]
    unfold prevK
    rw [if_pos rfl]
    congr 1
    omega
  · rw [Nat.mod_eq_of_lt (by omega), h5 (k + 1) (by omega)]
    unfold prevK
    rw [if_neg (by omega)]
    congr 1
theorem CycOk.prev (h : CycOk T ne acts arcs signs) (k : Nat) (hk : k < arcs.length) : stC acts arcs signs k = enC acts arcs signs (prevK arcs.length k) := by
  unfold prevK
  split
  · subst_vars
    have := h.cl (arcs.length - 1) (by omega)
    rw [show arcs.length - 1 + 1 = arcs.length by omega, Nat.mod_self] at this
    exact this
  · have := h.cl (k - 1) (by omega)
    rw [show k - 1 + 1 = k by omega, Nat.mod_eq_of_lt hk] at this
    exact this
end
end Go.Proofs.YtinjdcefagaaeaaGreatDoor

namespace Go.Proofs.YtinjdcefagaaeaaGreatDoor
theorem tm_ex (a b : Int) (hb : 1 ≤ b) : (0 ≤ a.tmod b → a.tmod b = a % b ∧ a.tdiv b = a / b) ∧ (a.tmod b < 0 → a.tmod b + b = a % b ∧ a.tdiv b - 1 = a / b) ∧ a.tmod b < b ∧ -b < a.tmod b := by
  have h1 := Int.mul_tdiv_add_tmod a b
  have h2 : a.tmod b < b := by
    have := Int.tmod_lt_of_pos a (show 0 < b by omega); exact this
  have h3 : -b < a.tmod b := by
    have := Int.lt_tmod_of_pos a (show 0 < b by omega); exact this
  have e1 := Int.emod_nonneg a (show b ≠ 0 by omega)
  have e2 := Int.emod_lt_of_pos a (show 0 < b by omega)
  have e3 := Int.mul_ediv_add_emod a b
  refine ⟨fun h => ?_, fun h => ?_, h2, h3⟩
  · have : a / b = a.tdiv b ∧ a % b = a.tmod b := (Int.ediv_emod_unique (show 0 < b by omega)).2 ⟨by omega, h, h2⟩
    exact ⟨this.2.symm, this.1.symm⟩
  · have : a / b = a.tdiv b - 1 ∧ a % b = a.tmod b + b := (Int.ediv_emod_unique (show 0 < b by omega)).2 ⟨by rw [Int.mul_sub]; omega, by omega, by omega⟩
    exact ⟨this.2.symm, this.1.symm⟩
def cdiv (a b : Int) : Int := -((-a) / b)
theorem cdiv_ex (a b : Int) (hb : 1 ≤ b) : (0 < a.tmod b → a.tdiv b + 1 = cdiv a b) ∧ (a.tmod b ≤ 0 → a.tdiv b = cdiv a b) := by
  have h1 := Int.mul_tdiv_add_tmod a b
  have ⟨_, _, h2, h3⟩ := tm_ex a b hb
  unfold cdiv
  refine ⟨fun h => ?_, fun h => ?_⟩
  · have : (-a) / b = -(a.tdiv b) - 1 ∧ (-a) % b = b - a.tmod b := (Int.ediv_emod_unique (show 0 < b by omega)).2 ⟨by rw [Int.mul_sub, Int.mul_neg]; omega, by omega, by omega⟩
    rw [this.1]; omega
  · have : (-a) / b = -(a.tdiv b) ∧ (-a) % b = - a.tmod b := (Int.ediv_emod_unique (show 0 < b by omega)).2 ⟨by rw [Int.mul_neg]; omega, by omega, by omega⟩
    rw [this.1]; omega
theorem td_bd (a b : Int) (hb : 1 ≤ b) : (0 ≤ a → 0 ≤ a.tdiv b ∧ a.tdiv b ≤ a) ∧ (a ≤ 0 → a ≤ a.tdiv b ∧ a.tdiv b ≤ 0) := by
  refine ⟨fun h => ⟨Int.tdiv_nonneg h (by omega), ?_⟩, fun h => ?_⟩
  · rw [Int.tdiv_eq_ediv_of_nonneg h]; exact Int.ediv_le_self b h
  · have e : a.tdiv b = -((-a).tdiv b) := by rw [Int.neg_tdiv]; omega
    have h1 : 0 ≤ (-a).tdiv b := Int.tdiv_nonneg (by omega) (by omega)
    have h2 : (-a).tdiv b ≤ -a := by rw [Int.tdiv_eq_ediv_of_nonneg (by omega)]; exact Int.ediv_le_self b (by omega)
    omega
/-- sums over the first k numbers -/
def sumN (f : Nat → Int) : Nat → Int
  | 0 => 0
  | k + 1 => sumN f k + f k
theorem sumN_bd (f : Nat → Int) (lo hi : Int) : ∀ (k : Nat), (∀ i, i < k → lo ≤ f i ∧ f i ≤ hi) → lo * k ≤ sumN f k ∧ sumN f k ≤ hi * k
  | 0, _ => by simp [sumN]
  | k + 1, h => by
    have ih := sumN_bd f lo hi k (fun i hi => h i (by omega))
    have := h k (by omega)
    unfold sumN
    rw [show ((k + 1 : Nat) : Int) = k + 1 by omega, Int.mul_add, Int.mul_add]
    omega
theorem sumN_congr (f g : Nat → Int) : ∀ (k : Nat), (∀ i, i < k → f i = g i) → sumN f k = sumN g k
  | 0, _ => rfl
  | k + 1, h => by unfold sumN; rw [sumN_congr f g k (fun i hi => h i (by omega)), h k (by omega)]
theorem sumN_add (f g : Nat → Int) : ∀ (k : Nat), sumN (fun i => f i + g i) k = sumN f k + sumN g k
  | 0 => rfl
  | k + 1 => by unfold sumN; rw [sumN_add f g k]; omega
theorem sumN_mul (c : Int) (f : Nat → Int) : ∀ (k : Nat), sumN (fun i => c * f i) k = c * sumN f k
  | 0 => by simp [sumN]
  | k + 1 => by unfold sumN; rw [sumN_mul c f k, Int.mul_add]
def bsT (acts : List Act) (arcs signs : List Int) (i : Nat) : Int := gi signs i * (ag acts (gi arcs i)).mn
def fwT (acts : List Act) (arcs signs : List Int) (i : Nat) : Int := if gi signs i = 1 then (ag acts (gi arcs i)).mx - (ag acts (gi arcs i)).mn else 0
def bwT (acts : List Act) (arcs signs : List Int) (i : Nat) : Int := if gi signs i = 1 then 0 else (ag acts (gi arcs i)).mx - (ag acts (gi arcs i)).mn
section
variable {T : Int} {ne : Nat} {acts : List Act} {arcs signs : List Int}
/-- what the sums lean on -/
structure SumOk (acts : List Act) (arcs signs : List Int) : Prop where
  n : arcs.length ≤ 512
  len : arcs.length = signs.length
  rg : ∀ k, k < arcs.length → 0 ≤ gi arcs k ∧ gi arcs k < acts.length ∧ (gi signs k = 1 ∨ gi signs k = -1)
  a : ∀ x ∈ acts, -65536 ≤ x.mn ∧ x.mn ≤ x.mx ∧ x.mx ≤ 65536
theorem nodup_le2 (n : Nat) : ∀ (l : List Int), l.Nodup → (∀ x ∈ l, 0 ≤ x ∧ x < (n : Int)) → l.length ≤ n := by
  induction n with
  | zero =>
    intro l _ h
    cases l with
    | nil => simp
    | cons x l => have := h x List.mem_cons_self; omega
  | succ n ih =>
    intro l hn h
    have h1 := ih (l.erase n) (hn.erase _) (fun x hx => by
      have hm := List.mem_of_mem_erase hx
      have := h x hm
      have hne : x ≠ (n : Int) := by
        intro e
        subst e
        exact absurd hx hn.not_mem_erase
      omega)
    have h2 := List.length_erase (a := (n : Int)) (l := l)
    split at h2 <;> omega
theorem arcs_nodup (h : ∀ k, k < arcs.length → ArcOk acts arcs signs k) : arcs.Nodup := by
  unfold List.Nodup
  rw [List.pairwise_iff_getElem]
  intro i j hi hj hij e
  have := (h j hj).nd i hij
  rw [gi_nat arcs i hi, gi_nat arcs j hj] at this
  exact this e
theorem arcs_le (h : ∀ k, k < arcs.length → ArcOk acts arcs signs k) : arcs.length ≤ acts.length :=
  nodup_le2 acts.length arcs (arcs_nodup h) (fun x hx => by
    obtain ⟨i, hi, rfl⟩ := List.getElem_of_mem hx
    have h1 := (h i hi).a0
    have h2 := (h i hi).a1
    rw [gi_nat arcs i hi] at h1 h2
    exact ⟨h1, h2⟩)
theorem CycOk.sum (h : CycOk T ne acts arcs signs) : SumOk acts arcs signs :=
  ⟨by have := arcs_le h.arc; have := h.net.n; omega, h.len, fun k hk => ⟨(h.arc k hk).a0, (h.arc k hk).a1, (h.arc k hk).s⟩, fun x hx => by have := h.net.a x hx; exact ⟨this.m0, this.mm, this.m1⟩⟩
theorem SumOk.bs (h : SumOk acts arcs signs) (k : Nat) (hk : k < arcs.length) : -65536 ≤ bsT acts arcs signs k ∧ bsT acts arcs signs k ≤ 65536 := by
  have h1 := h.rg k hk
  have h2 := h.a _ (ag_mem acts _ h1.1 h1.2.1)
  unfold bsT
  rcases h1.2.2 with e | e <;> rw [e] <;> omega
theorem SumOk.fw (h : SumOk acts arcs signs) (k : Nat) (hk : k < arcs.length) : 0 ≤ fwT acts arcs signs k ∧ fwT acts arcs signs k ≤ 131072 := by
  have h1 := h.rg k hk
  have h2 := h.a _ (ag_mem acts _ h1.1 h1.2.1)
  unfold fwT
  split <;> omega
theorem SumOk.bw (h : SumOk acts arcs signs) (k : Nat) (hk : k < arcs.length) : 0 ≤ bwT acts arcs signs k ∧ bwT acts arcs signs k ≤ 131072 := by
  have h1 := h.rg k hk
  have h2 := h.a _ (ag_mem acts _ h1.1 h1.2.1)
  unfold bwT
  split <;> omega
theorem SumOk.bsB (h : SumOk acts arcs signs) (k : Nat) (hk : k ≤ arcs.length) : -33554432 ≤ sumN (bsT acts arcs signs) k ∧ sumN (bsT acts arcs signs) k ≤ 33554432 := by
  have := sumN_bd (bsT acts arcs signs) (-65536) 65536 k (fun i hi => h.bs i (by omega))
  have := h.n
  omega
theorem SumOk.fwB (h : SumOk acts arcs signs) (k : Nat) (hk : k ≤ arcs.length) : 0 ≤ sumN (fwT acts arcs signs) k ∧ sumN (fwT acts arcs signs) k ≤ 67108864 := by
  have := sumN_bd (fwT acts arcs signs) 0 131072 k (fun i hi => h.fw i (by omega))
  have := h.n
  omega
theorem SumOk.bwB (h : SumOk acts arcs signs) (k : Nat) (hk : k ≤ arcs.length) : 0 ≤ sumN (bwT acts arcs signs) k ∧ sumN (bwT acts arcs signs) k ≤ 67108864 := by
  have := sumN_bd (bwT acts arcs signs) 0 131072 k (fun i hi => h.bw i (by omega))
  have := h.n
  omega
end
end Go.Proofs.YtinjdcefagaaeaaGreatDoor

namespace Go.Proofs.YtinjdcefagaaeaaGreatDoor
section
variable (T : Int) (ne : Nat) (acts : List Act) (arcs signs : List Int)
def bsS : Int := sumN (bsT acts arcs signs) arcs.length
def fwS : Int := sumN (fwT acts arcs signs) arcs.length
def bwS : Int := sumN (bwT acts arcs signs) arcs.length
def loW : Int := cdiv (bsS acts arcs signs - bwS acts arcs signs) T
def hiW : Int := (bsS acts arcs signs + fwS acts arcs signs) / T
noncomputable def okW : Bool := cycB T ne acts arcs signs && decide (loW T acts arcs signs ≤ hiW T acts arcs signs)
noncomputable def winL : Int := if okW T ne acts arcs signs = true then loW T acts arcs signs else 0
noncomputable def winH : Int := if okW T ne acts arcs signs = true then hiW T acts arcs signs else 0
def dst (a b : Int) : Int := max (a - b) (b - a)
def clampI (x lo hi : Int) : Int := min (max x lo) hi
def gapF (T b lo hi : Int) : Int := min (dst (clampI (b / T) lo hi * T) b) (dst (clampI (b / T + 1) lo hi * T) b)
noncomputable def gapV : Int := if okW T ne acts arcs signs = true then gapF T (bsS acts arcs signs) (loW T acts arcs signs) (hiW T acts arcs signs) else 0
noncomputable def resV : Int := if cycB T ne acts arcs signs = true then (-(bsS acts arcs signs)) % T else 0
noncomputable def rightV : Int := resV T ne acts arcs signs * (T - resV T ne acts arcs signs)
def slF (sl : List Int) (i : Nat) : Int := if gi signs i = 1 then gi sl (gi arcs i) else 0
def slB (sl : List Int) (i : Nat) : Int := if gi signs i = 1 then 0 else gi sl (gi arcs i)
def slOk (sl : List Int) : Prop := sl.length = acts.length ∧ ∀ s ∈ sl, 0 ≤ s ∧ s ≤ 7200
noncomputable def leftR (sl : List Int) : Int := (T - resV T ne acts arcs signs) * sumN (slF arcs signs sl) arcs.length + resV T ne acts arcs signs * sumN (slB arcs signs sl) arcs.length
open Classical in
noncomputable def leftE (sl : List Int) : Int := if cycB T ne acts arcs signs = true then (if slOk acts sl then 0 else 4) else 1
noncomputable def leftV (sl : List Int) : Int := if leftE T ne acts arcs signs sl = 0 then leftR T ne acts arcs signs sl else 0
end
section
variable {T : Int} {ne : Nat} {acts : List Act} {arcs signs : List Int}
theorem le_mul1 {C b : Int} (hc : 0 ≤ C) (hb : 1 ≤ b) : C ≤ C * b := by have := Int.mul_le_mul_of_nonneg_left hb hc; omega
theorem ediv_bd (a b : Int) (hb : 1 ≤ b) (C : Int) (h0 : -C ≤ a) (h1 : a ≤ C) : -C ≤ a / b ∧ a / b ≤ C := by
  refine ⟨?_, ?_⟩
  · rw [Int.le_ediv_iff_mul_le (by omega)]
    have : -C * b ≤ a := by
      by_cases hc : 0 ≤ C
      · have : C ≤ C * b := le_mul1 hc hb
        rw [Int.neg_mul]; omega
      · omega
    exact this
  · have : a / b < C + 1 := by
      rw [Int.ediv_lt_iff_lt_mul (by omega)]
      by_cases hc : 0 ≤ C + 1
      · have : C + 1 ≤ (C + 1) * b := le_mul1 hc hb
        omega
      · omega
    omega
theorem cdiv_bd (a b : Int) (hb : 1 ≤ b) (C : Int) (h0 : -C ≤ a) (h1 : a ≤ C) : -C ≤ cdiv a b ∧ cdiv a b ≤ C := by
  have := ediv_bd (-a) b hb C (by omega) (by omega)
  unfold cdiv; omega
theorem CycOk.bd (h : CycOk T ne acts arcs signs) : -33554432 ≤ bsS acts arcs signs ∧ bsS acts arcs signs ≤ 33554432 ∧ 0 ≤ fwS acts arcs signs ∧ fwS acts arcs signs ≤ 67108864 ∧ 0 ≤ bwS acts arcs signs ∧ bwS acts arcs signs ≤ 67108864 := by
  have h1 := h.sum.bsB arcs.length (Nat.le_refl _)
  have h2 := h.sum.fwB arcs.length (Nat.le_refl _)
  have h3 := h.sum.bwB arcs.length (Nat.le_refl _)
  exact ⟨h1.1, h1.2, h2.1, h2.2, h3.1, h3.2⟩
theorem CycOk.lohi (h : CycOk T ne acts arcs signs) : -200000000 ≤ loW T acts arcs signs ∧ loW T acts arcs signs ≤ 200000000 ∧ -200000000 ≤ hiW T acts arcs signs ∧ hiW T acts arcs signs ≤ 200000000 := by
  have hb := h.bd
  have ht := h.net.t0
  have h1 := cdiv_bd (bsS acts arcs signs - bwS acts arcs signs) T (by omega) 200000000 (by omega) (by omega)
  have h2 := ediv_bd (bsS acts arcs signs + fwS acts arcs signs) T (by omega) 200000000 (by omega) (by omega)
  exact ⟨h1.1, h1.2, h2.1, h2.2⟩
theorem mul_bd (x T C : Int) (ht : 0 ≤ T) (ht1 : T ≤ 7200) (hc : 0 ≤ C) (h0 : -C ≤ x) (h1 : x ≤ C) : -(7200 * C) ≤ x * T ∧ x * T ≤ 7200 * C := by
  have e1 : x * T ≤ C * T := Int.mul_le_mul_of_nonneg_right h1 ht
  have e2 : -C * T ≤ x * T := Int.mul_le_mul_of_nonneg_right h0 ht
  have e3 : C * T ≤ C * 7200 := Int.mul_le_mul_of_nonneg_left ht1 hc
  rw [Int.neg_mul] at e2
  omega
theorem res_bd (h : CycOk T ne acts arcs signs) : 0 ≤ resV T ne acts arcs signs ∧ resV T ne acts arcs signs < T := by
  have ht := h.net.t0
  unfold resV
  rw [if_pos (cycB_yes h)]
  exact ⟨Int.emod_nonneg _ (by omega), Int.emod_lt_of_pos _ (by omega)⟩
end
end Go.Proofs.YtinjdcefagaaeaaGreatDoor

namespace Go.Proofs.YtinjdcefagaaeaaGreatDoor

/-- a walk from x to y along arcs, at each step to an event that was found later -/
def Suf (acts : List Act) (tree : List Int) (idx : Int → Nat) : Int → List Int → List Int → Int → Prop
  | x, [], [], y => x = y
  | x, a :: as, s :: ss, y => stE (ag acts a) s = x ∧ (s = 1 ∨ s = -1) ∧ a ∈ tree ∧ idx x < idx (enE (ag acts a) s) ∧ Suf acts tree idx (enE (ag acts a) s) as ss y
  | _, _, _, _ => False
section
variable {acts : List Act} {tree : List Int} {idx : Int → Nat}
theorem Suf.len : ∀ {x : Int} {as ss : List Int} {y : Int}, Suf acts tree idx x as ss y → as.length = ss.length
  | _, [], [], _, _ => rfl
  | _, a :: as, s :: ss, _, h => by simp [Suf.len h.2.2.2.2]
  | _, _ :: _, [], _, h => by simp [Suf] at h
  | _, [], _ :: _, _, h => by simp [Suf] at h
theorem gi_zero (a : Int) (l : List Int) : gi (a :: l) ((0 : Nat) : Int) = a := rfl
theorem gi_succ (a : Int) (l : List Int) (k : Nat) : gi (a :: l) ((k + 1 : Nat) : Int) = gi l (k : Int) := by simp [gi]
theorem stC_zero (a s : Int) (as ss : List Int) : stC acts (a :: as) (s :: ss) 0 = stE (ag acts a) s := rfl
theorem stC_succ (a s : Int) (as ss : List Int) (k : Nat) : stC acts (a :: as) (s :: ss) (k + 1) = stC acts as ss k := by unfold stC; rw [gi_succ, gi_succ]
theorem enC_zero (a s : Int) (as ss : List Int) : enC acts (a :: as) (s :: ss) 0 = enE (ag acts a) s := rfl
theorem enC_succ (a s : Int) (as ss : List Int) (k : Nat) : enC acts (a :: as) (s :: ss) (k + 1) = enC acts as ss k := by unfold enC; rw [gi_succ, gi_succ]
/-- along a walk -/
theorem Suf.step : ∀ {x : Int} {as ss : List Int} {y : Int}, Suf acts tree idx x as ss y → ∀ k, k < as.length →
    gi as k ∈ tree ∧ (gi ss k = 1 ∨ gi ss k = -1) ∧ idx (stC acts as ss k) < idx (enC acts as ss k) ∧ (k = 0 → stC acts as ss k = x) ∧ (k + 1 < as.length → stC acts as ss (k + 1) = enC acts as ss k) ∧ (k + 1 = as.length → enC acts as ss k = y) ∧ idx x ≤ idx (stC acts as ss k)
  | x, [], [], y, _, k, hk => by simp at hk
  | x, a :: as, s :: ss, y, h, 0, hk => by
    obtain ⟨h1, h2, h3, h4, h5⟩ := h
    refine ⟨by rw [gi_zero]; exact h3, by rw [gi_zero]; exact h2, by rw [stC_zero, enC_zero, h1]; exact h4, fun _ => by rw [stC_zero, h1], fun hl => ?_, fun hl => ?_, by rw [stC_zero, h1]; exact Nat.le_refl _⟩
    · rw [stC_succ, enC_zero]
      exact (h5.step 0 (by simp at hl; omega)).2.2.2.1 rfl
    · rw [enC_zero]
      have : as = [] := List.eq_nil_of_length_eq_zero (by rw [List.length_cons] at hl; omega)
      subst this
      cases ss with
      | nil => exact h5
      | cons _ _ => simp [Suf] at h5
  | x, a :: as, s :: ss, y, h, k + 1, hk => by
    obtain ⟨h1, h2, h3, h4, h5⟩ := h
    have hk' : k < as.length := by simpa using hk
    obtain ⟨g1, g2, g3, g4, g5, g6, g7⟩ := h5.step k hk'
    refine ⟨by rw [gi_succ]; exact g1, by rw [gi_succ]; exact g2, by rw [stC_succ, enC_succ]; exact g3, fun e => by omega, fun hl => ?_, fun hl => ?_, by rw [stC_succ]; omega⟩
    · rw [stC_succ, enC_succ]; exact g5 (by simp at hl; omega)
    · rw [enC_succ]; exact g6 (by simp at hl; omega)
  | _, _ :: _, [], _, h, _, _ => by simp [Suf] at h
  | _, [], _ :: _, _, h, _, _ => by simp [Suf] at h
theorem Suf.mono {x : Int} {as ss : List Int} {y : Int} (h : Suf acts tree idx x as ss y) {i j : Nat} (hij : i < j) (hj : j < as.length) : idx (enC acts as ss i) ≤ idx (stC acts as ss j) := by
  induction j with
  | zero => omega
  | succ j ih =>
    have hs := (h.step j (by omega)).2.2.2.2.1 hj
    rw [hs]
    rcases Nat.lt_or_ge i j with h1 | h1
    · have := ih h1 (by omega)
      have := (h.step j (by omega)).2.2.1
      omega
    · obtain rfl : i = j := by omega
      exact Nat.le_refl _
theorem mx_is (a : Act) (s : Int) (h : idx (stE a s) < idx (enE a s)) : max (idx a.fr) (idx a.tt) = idx (enE a s) := by
  unfold stE enE at *
  split at h <;> rename_i hs
  · rw [if_pos hs]; omega
  · rw [if_neg hs]; omega
theorem Suf.arcs_ne {x : Int} {as ss : List Int} {y : Int} (h : Suf acts tree idx x as ss y) {i j : Nat} (hij : i < j) (hj : j < as.length) : gi as i ≠ gi as j := by
  intro e
  have h1 : max (idx (ag acts (gi as i)).fr) (idx (ag acts (gi as i)).tt) = idx (enC acts as ss i) := mx_is _ _ (h.step i (by omega)).2.2.1
  have h2 : max (idx (ag acts (gi as j)).fr) (idx (ag acts (gi as j)).tt) = idx (enC acts as ss j) := mx_is _ _ (h.step j hj).2.2.1
  rw [e] at h1
  have h3 := h.mono hij hj
  have h4 := (h.step j hj).2.2.1
  have h5 : idx (enC acts as ss i) = idx (enC acts as ss j) := h1.symm.trans h2
  omega
/-- the cycle of an activity and the walk back -/
theorem fund_cyc {T : Int} {ne : Nat} (hn : NetOk T ne acts) (hr : ∀ a ∈ tree, 0 ≤ a ∧ a < (acts.length : Int)) (i : Nat) (hi : i < acts.length) (hni : (i : Int) ∉ tree) {as ss : List Int} (h : Suf acts tree idx acts[i].tt as ss acts[i].fr) :
    CycOk T ne acts ((i : Int) :: as) (1 :: ss) := by
  have hl := h.len
  have ha := ag_nat acts i hi
  have hne : acts[i].fr ≠ acts[i].tt := (hn.a _ (List.getElem_mem hi)).ft
  have hpos : 0 < as.length := by
    cases as with
    | nil =>
      cases ss with
      | nil => exact absurd h.symm hne
      | cons _ _ => simp [Suf] at h
    | cons _ _ => simp
  have st0 : stC acts ((i : Int) :: as) (1 :: ss) 0 = acts[i].fr := by rw [stC_zero, ha]; rfl
  have en0 : enC acts ((i : Int) :: as) (1 :: ss) 0 = acts[i].tt := by rw [enC_zero, ha]; rfl
  refine ⟨hn, by simp [hl], by simp; omega, fun k hk => ?_, fun k hk => ?_, fun p q hpq hq => ?_⟩
  · cases k with
    | zero => exact ⟨by rw [gi_zero]; omega, by rw [gi_zero]; omega, .inl rfl, fun j hj => by omega⟩
    | succ k =>
      have hk' : k < as.length := by simpa using hk
      have hs := h.step k hk'
      have hrg := hr _ hs.1
      refine ⟨by rw [gi_succ]; exact hrg.1, by rw [gi_succ]; exact hrg.2, by rw [gi_succ]; exact hs.2.1, fun j hj => ?_⟩
      rw [gi_succ]
      cases j with
      | zero => rw [gi_zero]; intro e; exact hni (by rw [e]; exact hs.1)
      | succ j => rw [gi_succ]; exact h.arcs_ne (by omega) hk'
  · simp only [List.length_cons] at hk ⊢
    by_cases hlast : k = as.length
    · subst hlast
      rw [Nat.mod_self, st0]
      obtain ⟨m, hm⟩ : ∃ m, as.length = m + 1 := ⟨as.length - 1, by omega⟩
      rw [hm, enC_succ]
      exact ((h.step m (by omega)).2.2.2.2.2.1 (by omega)).symm
    · rw [Nat.mod_eq_of_lt (by omega), stC_succ]
      cases k with
      | zero => rw [en0]; exact (h.step 0 hpos).2.2.2.1 rfl
      | succ k => rw [enC_succ]; exact (h.step k (by omega)).2.2.2.2.1 (by omega)
  · simp only [List.length_cons] at hq
    have hlt : ∀ p q, p < q → q < as.length → idx (stC acts as ss p) < idx (stC acts as ss q) := fun p q hpq hq => by
      have h1 := h.mono hpq hq
      have h2 := (h.step p (by omega)).2.2.1
      omega
    cases q with
    | zero => omega
    | succ q =>
      cases p with
      | zero =>
        rw [st0, stC_succ]
        intro e
        obtain ⟨m, hm⟩ : ∃ m, as.length = m + 1 := ⟨as.length - 1, by omega⟩
        have h1 := h.step m (by omega)
        have h2 := h1.2.2.2.2.2.1 (by omega)
        have h3 := h1.2.2.1
        rw [h2, e] at h3
        rcases Nat.lt_or_ge q m with hqm | hqm
        · have := hlt q m hqm (by omega); omega
        · obtain rfl : q = m := by omega
          omega
      | succ p =>
        rw [stC_succ, stC_succ]
        intro e
        have := hlt p q (by omega) (by omega)
        rw [e] at this
        omega
end
end Go.Proofs.YtinjdcefagaaeaaGreatDoor

namespace Go.Proofs.YtinjdcefagaaeaaGreatDoor

/-! What Tree, Forest, path and Fundamental of the reference reckon, as functions. -/
def iotaL (n : Nat) : List Int := (List.range n).map Int.ofNat
theorem iotaL_len (n : Nat) : (iotaL n).length = n := by simp [iotaL]
theorem iotaL_get (n i : Nat) (h : i < n) : (iotaL n)[i]'(by rw [iotaL_len]; exact h) = (i : Int) := by simp [iotaL]
def mergeL (r : List Int) (x y : Int) : List Int := r.map fun v => if v = y then x else v
theorem mergeL_len (r : List Int) (x y : Int) : (mergeL r x y).length = r.length := by simp [mergeL]
def mergeR (r : List Int) (a : Act) : List Int := if gi r a.fr = gi r a.tt then r else mergeL r (gi r a.fr) (gi r a.tt)
def mergeB (r : List Int) (a : Act) : Bool := !(gi r a.fr == gi r a.tt)
theorem mergeR_len (r : List Int) (a : Act) : (mergeR r a).length = r.length := by unfold mergeR; split <;> simp [mergeL]
/-- of the labels the first i turned -/
def mrgT (r : List Int) (x y : Int) (i : Nat) : List Int := mergeL (r.take i) x y ++ r.drop i
theorem mrgT_zero (r : List Int) (x y : Int) : mrgT r x y 0 = r := by simp [mrgT, mergeL]
theorem mrgT_len (r : List Int) (x y : Int) (i : Nat) : (mrgT r x y i).length = r.length := by simp [mrgT, mergeL]; omega
theorem mrgT_all (r : List Int) (x y : Int) (i : Nat) (h : r.length ≤ i) : mrgT r x y i = mergeL r x y := by unfold mrgT; rw [List.take_of_length_le h, List.drop_eq_nil_of_le h]; simp
theorem mrgT_get (r : List Int) (x y : Int) (i : Nat) (h : i < r.length) : (mrgT r x y i)[i]'(by rw [mrgT_len]; exact h) = r[i] := by
  unfold mrgT
  rw [List.getElem_append_right (by simp [mergeL]; omega)]
  simp [mergeL, Nat.min_eq_left (Nat.le_of_lt h)]
theorem mrgT_set (r : List Int) (x y : Int) (i : Nat) (h : i < r.length) (e : r[i] = y) : (mrgT r x y i).set i x = mrgT r x y (i + 1) := by
  unfold mrgT mergeL
  rw [List.take_succ_eq_append_getElem h, List.map_append, List.drop_eq_getElem_cons h, List.set_append_right _ _ (by simp; omega)]
  simp only [List.length_map, List.length_take, Nat.min_eq_left (Nat.le_of_lt h), Nat.sub_self, List.set_cons_zero, List.map_cons, List.map_nil, if_pos e, List.append_assoc, List.cons_append, List.nil_append]
theorem mrgT_skip (r : List Int) (x y : Int) (i : Nat) (h : i < r.length) (e : r[i] ≠ y) : mrgT r x y i = mrgT r x y (i + 1) := by
  unfold mrgT mergeL
  rw [List.take_succ_eq_append_getElem h, List.map_append, List.drop_eq_getElem_cons h]
  simp only [List.map_cons, List.map_nil, if_neg e, List.append_assoc, List.cons_append, List.nil_append]
/-- Tree -/
def trStep (span : Int) (a : Act) (i : Nat) (s : List Int × List Bool) : List Int × List Bool :=
  if a.mx - a.mn = span then (mergeR s.1 a, if mergeB s.1 a = true then s.2.set i true else s.2) else s
def trRow (acts : List Act) (span : Int) (s : List Int × List Bool) : Nat → List Int × List Bool
  | 0 => s
  | k + 1 => trStep span (ag acts k) k (trRow acts span s k)
def trAll (ne : Nat) (acts : List Act) : Nat → List Int × List Bool
  | 0 => (iotaL ne, List.replicate acts.length false)
  | t + 1 => trRow acts t (trAll ne acts t) acts.length
theorem trStep_len (span : Int) (a : Act) (i : Nat) (s : List Int × List Bool) : (trStep span a i s).1.length = s.1.length ∧ (trStep span a i s).2.length = s.2.length := by
  unfold trStep
  split
  · refine ⟨mergeR_len _ _, ?_⟩
    simp only
    split <;> simp
  · exact ⟨rfl, rfl⟩
theorem trRow_len (acts : List Act) (span : Int) (s : List Int × List Bool) : ∀ k, (trRow acts span s k).1.length = s.1.length ∧ (trRow acts span s k).2.length = s.2.length
  | 0 => ⟨rfl, rfl⟩
  | k + 1 => by
    have h := trStep_len span (ag acts k) k (trRow acts span s k)
    have ih := trRow_len acts span s k
    exact ⟨h.1.trans ih.1, h.2.trans ih.2⟩
theorem trAll_len (ne : Nat) (acts : List Act) : ∀ t, (trAll ne acts t).1.length = ne ∧ (trAll ne acts t).2.length = acts.length
  | 0 => ⟨iotaL_len ne, by simp [trAll]⟩
  | t + 1 => by
    have h := trRow_len acts t (trAll ne acts t) acts.length
    have ih := trAll_len ne acts t
    exact ⟨h.1.trans ih.1, h.2.trans ih.2⟩
def takL (dn : List Bool) (k : Nat) : List Int := ((List.range k).map Int.ofNat).filter fun i => gb dn i
theorem takL_succ (dn : List Bool) (k : Nat) : takL dn (k + 1) = if gb dn k = true then takL dn k ++ [(k : Int)] else takL dn k := by
  unfold takL
  rw [List.range_succ, List.map_append, List.filter_append]
  by_cases h : gb dn k = true
  · rw [if_pos h]; simp [h]
  · rw [if_neg h]; simp at h; simp [h]
theorem takL_len (dn : List Bool) (k : Nat) : (takL dn k).length ≤ k := by
  unfold takL
  refine Nat.le_trans (List.length_filter_le _ _) (by simp)
def treeF (T : Int) (ne : Nat) (acts : List Act) : List Int := takL (trAll ne acts T.toNat).2 acts.length
/-- Forest -/
def frTest (acts : List Act) (tree r : List Int) (j : Nat) : Bool :=
  decide (0 ≤ gi tree j ∧ gi tree j ≤ (acts.length : Int) - 1) && (decide (j = 0) || decide (gi tree ((j : Int) - 1) < gi tree j)) && mergeB r (ag acts (gi tree j))
def frRoot (ne : Nat) (acts : List Act) (tree : List Int) : Nat → Option (List Int)
  | 0 => some (iotaL ne)
  | j + 1 => match frRoot ne acts tree j with
    | none => none
    | some r => if frTest acts tree r j = true then some (mergeR r (ag acts (gi tree j))) else none
theorem frRoot_none {ne : Nat} {acts : List Act} {tree : List Int} {j : Nat} (h : frRoot ne acts tree j = none) : ∀ k, j ≤ k → frRoot ne acts tree k = none := by
  intro k hk
  induction k with
  | zero => obtain rfl : j = 0 := by omega
            exact h
  | succ k ih =>
    by_cases e : j = k + 1
    · rw [← e]; exact h
    · show (match frRoot ne acts tree k with | none => none | some r => _) = none
      rw [ih (by omega)]
theorem frRoot_len {ne : Nat} {acts : List Act} {tree : List Int} : ∀ {j : Nat} {r : List Int}, frRoot ne acts tree j = some r → r.length = ne
  | 0, r, h => by injection h with h; rw [← h]; exact iotaL_len ne
  | j + 1, r, h => by
    unfold frRoot at h
    cases hr : frRoot ne acts tree j with
    | none => rw [hr] at h; cases h
    | some r' =>
      rw [hr] at h
      simp only at h
      split at h
      · injection h with h; rw [← h, mergeR_len]; exact frRoot_len hr
      · cases h
def frAll (acts : List Act) (r : List Int) (k : Nat) : Bool := (List.range k).all fun i => gi r (ag acts i).fr == gi r (ag acts i).tt
theorem frAll_succ (acts : List Act) (r : List Int) (k : Nat) : frAll acts r (k + 1) = (frAll acts r k && (gi r (ag acts k).fr == gi r (ag acts k).tt)) := by
  unfold frAll; rw [List.range_succ, List.all_append]; simp
def forestB (ne : Nat) (acts : List Act) (tree : List Int) : Bool :=
  match frRoot ne acts tree tree.length with
  | none => false
  | some r => frAll acts r acts.length
/-- path -/
def pStep (acts : List Act) (t : Int) (s : List Bool × List Int) : List Bool × List Int :=
  if gb s.1 (ag acts t).fr = true ∧ gb s.1 (ag acts t).tt = false then (s.1.set (ag acts t).tt.toNat true, s.2.set (ag acts t).tt.toNat t)
  else if gb s.1 (ag acts t).tt = true ∧ gb s.1 (ag acts t).fr = false then (s.1.set (ag acts t).fr.toNat true, s.2.set (ag acts t).fr.toNat t)
  else s
def pRow (acts : List Act) (tree : List Int) (s : List Bool × List Int) : Nat → List Bool × List Int
  | 0 => s
  | k + 1 => pStep acts (gi tree k) (pRow acts tree s k)
def pAll (ne : Nat) (acts : List Act) (tree : List Int) (from_ : Int) : Nat → List Bool × List Int
  | 0 => ((List.replicate ne false).set from_.toNat true, List.replicate ne (-1))
  | r + 1 => pRow acts tree (pAll ne acts tree from_ r) tree.length
theorem pStep_len (acts : List Act) (t : Int) (s : List Bool × List Int) : (pStep acts t s).1.length = s.1.length ∧ (pStep acts t s).2.length = s.2.length := by
  unfold pStep
  split
  · simp
  · split <;> simp
theorem pRow_len (acts : List Act) (tree : List Int) (s : List Bool × List Int) : ∀ k, (pRow acts tree s k).1.length = s.1.length ∧ (pRow acts tree s k).2.length = s.2.length
  | 0 => ⟨rfl, rfl⟩
  | k + 1 => by
    have h := pStep_len acts (gi tree k) (pRow acts tree s k)
    have ih := pRow_len acts tree s k
    exact ⟨h.1.trans ih.1, h.2.trans ih.2⟩
theorem pAll_len (ne : Nat) (acts : List Act) (tree : List Int) (from_ : Int) : ∀ r, (pAll ne acts tree from_ r).1.length = ne ∧ (pAll ne acts tree from_ r).2.length = ne
  | 0 => by simp [pAll]
  | r + 1 => by
    have h := pRow_len acts tree (pAll ne acts tree from_ r) tree.length
    have ih := pAll_len ne acts tree from_ r
    exact ⟨h.1.trans ih.1, h.2.trans ih.2⟩
end Go.Proofs.YtinjdcefagaaeaaGreatDoor

namespace Go.Proofs.YtinjdcefagaaeaaGreatDoor

theorem nodup_sub : ∀ (l' l : List Int), l'.Nodup → (∀ x ∈ l', x ∈ l) → l'.length ≤ l.length
  | [], _, _, _ => by simp
  | x :: t, l, hn, h => by
    rw [List.nodup_cons] at hn
    have hx := h x List.mem_cons_self
    have ih := nodup_sub t (l.erase x) hn.2 (fun y hy => (List.mem_erase_of_ne (fun e => hn.1 (by rw [← e]; exact hy))).2 (h y (List.mem_cons_of_mem _ hy)))
    have h2 := List.length_erase (a := x) (l := l)
    rw [if_pos hx] at h2
    have : 0 < l.length := List.length_pos_of_mem hx
    simp
    omega
/-- the arcs of the list join x and y -/
inductive Conn (acts : List Act) (tree : List Int) : Int → Int → Prop
  | refl (x : Int) : Conn acts tree x x
  | arc {t : Int} (h : t ∈ tree) : Conn acts tree (ag acts t).fr (ag acts t).tt
  | symm {x y : Int} : Conn acts tree x y → Conn acts tree y x
  | trans {x y z : Int} : Conn acts tree x y → Conn acts tree y z → Conn acts tree x z
structure TreeOk (ne : Nat) (acts : List Act) (tree : List Int) : Prop where
  rg : ∀ t ∈ tree, 0 ≤ t ∧ t < (acts.length : Int)
  a : ∀ x ∈ acts, 0 ≤ x.fr ∧ x.fr < (ne : Int) ∧ 0 ≤ x.tt ∧ x.tt < (ne : Int) ∧ x.fr ≠ x.tt
theorem TreeOk.arc {ne : Nat} {acts : List Act} {tree : List Int} (h : TreeOk ne acts tree) {t : Int} (ht : t ∈ tree) : 0 ≤ (ag acts t).fr ∧ (ag acts t).fr < (ne : Int) ∧ 0 ≤ (ag acts t).tt ∧ (ag acts t).tt < (ne : Int) ∧ (ag acts t).fr ≠ (ag acts t).tt :=
  h.a _ (ag_mem acts t (h.rg t ht).1 (h.rg t ht).2)
theorem gi_mem {tree : List Int} {k : Nat} (h : k < tree.length) : gi tree k ∈ tree := by rw [gi_nat tree k h]; exact List.getElem_mem h
/-- the search: found in this order -/
structure PSt (ne : Nat) (acts : List Act) (tree : List Int) (from_ : Int) (s : List Bool × List Int) (ord : List Int) : Prop where
  l1 : s.1.length = ne
  l2 : s.2.length = ne
  nd : ord.Nodup
  rg : ∀ x ∈ ord, 0 ≤ x ∧ x < (ne : Int)
  hd : ord[0]? = some from_
  mem : ∀ x : Int, 0 ≤ x → x < (ne : Int) → (gb s.1 x = true ↔ x ∈ ord)
  par : ∀ t (h : t < ord.length), 0 < t → gi s.2 ord[t] ∈ tree ∧ (((ag acts (gi s.2 ord[t])).fr = ord[t] ∧ (ag acts (gi s.2 ord[t])).tt ∈ ord.take t) ∨ ((ag acts (gi s.2 ord[t])).tt = ord[t] ∧ (ag acts (gi s.2 ord[t])).fr ∈ ord.take t))
section
variable {ne : Nat} {acts : List Act} {tree : List Int} {from_ : Int} {s : List Bool × List Int} {ord : List Int}
theorem PSt.start (h0 : 0 ≤ from_) (h1 : from_ < (ne : Int)) : PSt ne acts tree from_ (pAll ne acts tree from_ 0) [from_] := by
  refine ⟨by simp [pAll], by simp [pAll], by simp, fun x hx => by simp at hx; subst hx; exact ⟨h0, h1⟩, rfl, fun x hx0 hx1 => ?_, fun t ht h => by simp at ht; omega⟩
  have := gb_set (List.replicate ne false) from_ x true h0 (by simp; exact h1) hx0
  show gb ((List.replicate ne false).set from_.toNat true) x = true ↔ _
  rw [this, gb_rep]
  by_cases e : x = from_ <;> simp [e]
/-- a new event v, found from u by arc t -/
theorem PSt.add (h : PSt ne acts tree from_ s ord) (t : Int) (ht : t ∈ tree) (u v : Int) (hv0 : 0 ≤ v) (hv1 : v < (ne : Int)) (hu : u ∈ ord) (hv : gb s.1 v = false)
    (ha : ((ag acts t).fr = v ∧ (ag acts t).tt = u) ∨ ((ag acts t).tt = v ∧ (ag acts t).fr = u)) : PSt ne acts tree from_ (s.1.set v.toNat true, s.2.set v.toNat t) (ord ++ [v]) := by
  have hno : v ∉ ord := fun hm => by have := (h.mem v hv0 hv1).2 hm; rw [hv] at this; cases this
  have hpos : 0 < ord.length := List.length_pos_of_mem hu
  refine ⟨by simp [h.l1], by simp [h.l2], ?_, fun x hx => ?_, by rw [List.getElem?_append_left hpos]; exact h.hd, fun x hx0 hx1 => ?_, fun k hk h0 => ?_⟩
  · rw [List.nodup_append]
    exact ⟨h.nd, by simp, fun y hy z hz => by simp at hz; subst hz; intro e; subst e; exact hno hy⟩
  · rcases List.mem_append.1 hx with hx | hx
    · exact h.rg x hx
    · simp at hx; subst hx; exact ⟨hv0, hv1⟩
  · simp only
    rw [gb_set s.1 v x true hv0 (by rw [h.l1]; exact hv1) hx0, List.mem_append]
    by_cases e : x = v
    · simp [e]
    · rw [if_neg e, h.mem x hx0 hx1]; simp [e]
  · simp only
    rcases Nat.lt_or_ge k ord.length with h1 | h1
    · rw [List.getElem_append_left h1, List.take_append_of_le_length (by omega)]
      have hm := List.getElem_mem h1
      have hne : ord[k] ≠ v := fun e => hno (by rw [← e]; exact hm)
      have hr := h.rg _ hm
      rw [gi_set s.2 v ord[k] t hv0 (by rw [h.l2]; exact hv1) hr.1, if_neg hne]
      exact h.par k h1 h0
    · have hkk : k = ord.length := by simp at hk; omega
      subst hkk
      rw [List.getElem_append_right (by omega), List.take_append_of_le_length (by omega), List.take_length]
      simp only [Nat.sub_self, List.getElem_cons_zero]
      rw [gi_set s.2 v v t hv0 (by rw [h.l2]; exact hv1) hv0, if_pos rfl]
      refine ⟨ht, ?_⟩
      rcases ha with ⟨e1, e2⟩ | ⟨e1, e2⟩
      · exact .inl ⟨e1, by rw [e2]; exact hu⟩
      · exact .inr ⟨e1, by rw [e2]; exact hu⟩
/-- one arc: nothing new and the arc is balanced, or one event more -/
theorem PSt.step (h : PSt ne acts tree from_ s ord) (hT : TreeOk ne acts tree) (t : Int) (ht : t ∈ tree) :
    (pStep acts t s = s ∧ gb s.1 (ag acts t).fr = gb s.1 (ag acts t).tt) ∨ ∃ v, PSt ne acts tree from_ (pStep acts t s) (ord ++ [v]) := by
  have ha := hT.arc ht
  unfold pStep
  by_cases c1 : gb s.1 (ag acts t).fr = true ∧ gb s.1 (ag acts t).tt = false
  · rw [if_pos c1]
    exact .inr ⟨(ag acts t).tt, h.add t ht (ag acts t).fr (ag acts t).tt ha.2.2.1 ha.2.2.2.1 ((h.mem _ ha.1 ha.2.1).1 c1.1) c1.2 (.inr ⟨rfl, rfl⟩)⟩
  · rw [if_neg c1]
    by_cases c2 : gb s.1 (ag acts t).tt = true ∧ gb s.1 (ag acts t).fr = false
    · rw [if_pos c2]
      exact .inr ⟨(ag acts t).fr, h.add t ht (ag acts t).tt (ag acts t).fr ha.1 ha.2.1 ((h.mem _ ha.2.2.1 ha.2.2.2.1).1 c2.1) c2.2 (.inl ⟨rfl, rfl⟩)⟩
    · rw [if_neg c2]
      refine .inl ⟨rfl, ?_⟩
      cases e1 : gb s.1 (ag acts t).fr <;> cases e2 : gb s.1 (ag acts t).tt <;> simp_all
theorem PSt.row (h : PSt ne acts tree from_ s ord) (hT : TreeOk ne acts tree) : ∀ k, k ≤ tree.length →
    (pRow acts tree s k = s ∧ ∀ i, i < k → gb s.1 (ag acts (gi tree i)).fr = gb s.1 (ag acts (gi tree i)).tt) ∨ ∃ ord', PSt ne acts tree from_ (pRow acts tree s k) ord' ∧ ord.length + 1 ≤ ord'.length
  | 0, _ => .inl ⟨rfl, fun i hi => by omega⟩
  | k + 1, hk => by
    rcases PSt.row h hT k (by omega) with ⟨e, hb⟩ | ⟨ord', h', hl⟩
    · rcases (show PSt ne acts tree from_ (pRow acts tree s k) ord by rw [e]; exact h).step hT (gi tree k) (gi_mem (by omega)) with ⟨e2, hb2⟩ | ⟨v, h2⟩
      · rw [e] at e2 hb2
        refine .inl ⟨by show pStep acts (gi tree k) (pRow acts tree s k) = s; rw [e]; exact e2, fun i hi => ?_⟩
        rcases Nat.lt_or_ge i k with h1 | h1
        · exact hb i h1
        · obtain rfl : i = k := by omega
          exact hb2
      · exact .inr ⟨_, h2, by simp⟩
    · rcases h'.step hT (gi tree k) (gi_mem (by omega)) with ⟨e2, _⟩ | ⟨v, h2⟩
      · exact .inr ⟨ord', by show PSt ne acts tree from_ (pStep acts (gi tree k) (pRow acts tree s k)) ord'; rw [e2]; exact h', hl⟩
      · exact .inr ⟨_, h2, by simp; omega⟩
def closedP (acts : List Act) (tree : List Int) (s : List Bool × List Int) : Prop := ∀ t ∈ tree, gb s.1 (ag acts t).fr = gb s.1 (ag acts t).tt
theorem PSt.all (hT : TreeOk ne acts tree) (h0 : 0 ≤ from_) (h1 : from_ < (ne : Int)) : ∀ r, ∃ ord, PSt ne acts tree from_ (pAll ne acts tree from_ r) ord ∧ (closedP acts tree (pAll ne acts tree from_ r) ∨ r + 1 ≤ ord.length)
  | 0 => ⟨_, PSt.start h0 h1, .inr (by simp)⟩
  | r + 1 => by
    obtain ⟨ord, h, hc⟩ := PSt.all hT h0 h1 r
    rcases h.row hT tree.length (Nat.le_refl _) with ⟨e, hb⟩ | ⟨ord', h', hl⟩
    · refine ⟨ord, by show PSt ne acts tree from_ (pRow acts tree (pAll ne acts tree from_ r) tree.length) ord; rw [e]; exact h, .inl ?_⟩
      show closedP acts tree (pRow acts tree (pAll ne acts tree from_ r) tree.length)
      rw [e]
      intro t ht
      obtain ⟨i, hi, rfl⟩ := List.getElem_of_mem ht
      have := hb i hi
      rw [gi_nat tree i hi] at this
      exact this
    · refine ⟨ord', h', ?_⟩
      rcases hc with hc | hc
      · exfalso
        have key : ∀ k, k ≤ tree.length → pRow acts tree (pAll ne acts tree from_ r) k = pAll ne acts tree from_ r := by
          intro k
          induction k with
          | zero => intro _; rfl
          | succ k ih =>
            intro hk
            show pStep acts (gi tree k) (pRow acts tree (pAll ne acts tree from_ r) k) = _
            rw [ih (by omega)]
            have hb := hc (gi tree k) (gi_mem (by omega))
            unfold pStep
            rw [hb, if_neg (fun h => by rw [h.1] at h; exact absurd h.2 (by simp)), if_neg (fun h => by rw [h.1] at h; exact absurd h.2 (by simp))]
        rw [key tree.length (Nat.le_refl _)] at h'
        have e1 : ord'.length ≤ ord.length := by
          have hs : ∀ x ∈ ord', x ∈ ord := fun x hx => (h.mem x (h'.rg x hx).1 (h'.rg x hx).2).1 ((h'.mem x (h'.rg x hx).1 (h'.rg x hx).2).2 hx)
          exact nodup_sub ord' ord h'.nd hs
        omega
      · exact .inr (by omega)
/-- after as many rounds as there are events nothing is left to be found -/
theorem PSt.done (hT : TreeOk ne acts tree) (h0 : 0 ≤ from_) (h1 : from_ < (ne : Int)) : ∃ ord, PSt ne acts tree from_ (pAll ne acts tree from_ ne) ord ∧ closedP acts tree (pAll ne acts tree from_ ne) := by
  obtain ⟨ord, h, hc⟩ := PSt.all hT h0 h1 ne
  refine ⟨ord, h, ?_⟩
  rcases hc with hc | hc
  · exact hc
  · have := nodup_le2 ne ord h.nd h.rg
    omega
theorem closed_conn (hc : closedP acts tree s) {x y : Int} (h : Conn acts tree x y) : gb s.1 x = gb s.1 y := by
  induction h with
  | refl => rfl
  | arc h => exact hc _ h
  | symm _ ih => exact ih.symm
  | trans _ _ ih1 ih2 => exact ih1.trans ih2
/-- labels that agree are joined -/
theorem frRoot_conn {acts : List Act} {tree : List Int} {ne : Nat} (hT : ∀ x ∈ acts, 0 ≤ x.fr ∧ x.fr < (ne : Int) ∧ 0 ≤ x.tt ∧ x.tt < (ne : Int)) : ∀ {j : Nat} {r : List Int}, j ≤ tree.length → frRoot ne acts tree j = some r →
    (∀ k, k < j → 0 ≤ gi tree k ∧ gi tree k < (acts.length : Int)) ∧ ∀ x y : Int, 0 ≤ x → x < (ne : Int) → 0 ≤ y → y < (ne : Int) → gi r x = gi r y → Conn acts tree x y
  | 0, r, _, h => by
    injection h with h
    subst h
    refine ⟨fun k hk => by omega, fun x y hx0 hx1 hy0 hy1 e => ?_⟩
    obtain ⟨x, rfl⟩ := Int.eq_ofNat_of_zero_le hx0
    obtain ⟨y, rfl⟩ := Int.eq_ofNat_of_zero_le hy0
    rw [gi_nat _ x (by rw [iotaL_len]; omega), gi_nat _ y (by rw [iotaL_len]; omega), iotaL_get ne x (by omega), iotaL_get ne y (by omega)] at e
    rw [e]
    exact .refl _
  | j + 1, r, hj, h => by
    unfold frRoot at h
    cases hr : frRoot ne acts tree j with
    | none => rw [hr] at h; cases h
    | some r' =>
      rw [hr] at h
      simp only at h
      split at h
      case isFalse => cases h
      case isTrue ht =>
      injection h with h
      obtain ⟨ih1, ih2⟩ := frRoot_conn hT (by omega) hr
      have hlen := frRoot_len hr
      unfold frTest at ht
      simp only [Bool.and_eq_true, decide_eq_true_eq] at ht
      have hrg : 0 ≤ gi tree j ∧ gi tree j < (acts.length : Int) := ⟨ht.1.1.1, by have := ht.1.1.2; omega⟩
      refine ⟨fun k hk => ?_, fun x y hx0 hx1 hy0 hy1 e => ?_⟩
      · rcases Nat.lt_or_ge k j with h1 | h1
        · exact ih1 k h1
        · obtain rfl : k = j := by omega
          exact hrg
      · have harc := hT _ (ag_mem acts _ hrg.1 hrg.2)
        have hA : Conn acts tree (ag acts (gi tree j)).fr (ag acts (gi tree j)).tt := .arc (gi_mem (by omega))
        generalize ag acts (gi tree j) = a at *
        rw [← h] at e
        unfold mergeR at e
        split at e
        · exact ih2 x y hx0 hx1 hy0 hy1 e
        · have hm : ∀ z : Int, 0 ≤ z → z < (ne : Int) → gi (mergeL r' (gi r' a.fr) (gi r' a.tt)) z = if gi r' z = gi r' a.tt then gi r' a.fr else gi r' z := fun z hz0 hz1 => by
            obtain ⟨z, rfl⟩ := Int.eq_ofNat_of_zero_le hz0
            rw [gi_nat _ z (by rw [mergeL_len]; omega), gi_nat r' z (by omega)]
            simp [mergeL]
          rw [hm x hx0 hx1, hm y hy0 hy1] at e
          have cx : ∀ z : Int, 0 ≤ z → z < (ne : Int) → gi r' z = gi r' a.tt → Conn acts tree z a.fr := fun z hz0 hz1 e => (ih2 z a.tt hz0 hz1 harc.2.2.1 harc.2.2.2 e).trans hA.symm
          by_cases c1 : gi r' x = gi r' a.tt
          · rw [if_pos c1] at e
            by_cases c2 : gi r' y = gi r' a.tt
            · exact (cx x hx0 hx1 c1).trans (cx y hy0 hy1 c2).symm
            · rw [if_neg c2] at e
              exact (cx x hx0 hx1 c1).trans (ih2 a.fr y harc.1 harc.2.1 hy0 hy1 e)
          · rw [if_neg c1] at e
            by_cases c2 : gi r' y = gi r' a.tt
            · rw [if_pos c2] at e
              exact (ih2 x a.fr hx0 hx1 harc.1 harc.2.1 e).trans (cx y hy0 hy1 c2).symm
            · rw [if_neg c2] at e
              exact ih2 x y hx0 hx1 hy0 hy1 e
theorem forest_ok {ne : Nat} {acts : List Act} {tree : List Int} (hT : ∀ x ∈ acts, 0 ≤ x.fr ∧ x.fr < (ne : Int) ∧ 0 ≤ x.tt ∧ x.tt < (ne : Int) ∧ x.fr ≠ x.tt) (h : forestB ne acts tree = true) :
    TreeOk ne acts tree ∧ ∀ i : Nat, i < acts.length → Conn acts tree (ag acts i).fr (ag acts i).tt := by
  unfold forestB at h
  cases hr : frRoot ne acts tree tree.length with
  | none => rw [hr] at h; cases h
  | some r =>
    rw [hr] at h
    simp only at h
    obtain ⟨h1, h2⟩ := frRoot_conn (fun x hx => by have := hT x hx; omega) (Nat.le_refl _) hr
    refine ⟨⟨fun t ht => ?_, hT⟩, fun i hi => ?_⟩
    · obtain ⟨k, hk, rfl⟩ := List.getElem_of_mem ht
      have := h1 k hk
      rw [gi_nat tree k hk] at this
      exact this
    · have ha := hT _ (ag_mem acts i (by omega) (by omega))
      have := List.all_eq_true.1 h i (List.mem_range.2 hi)
      exact h2 _ _ ha.1 ha.2.1 ha.2.2.1 ha.2.2.2.1 (by simpa using this)
/-- back along the finders -/
def chF (acts : List Act) (via : List Int) (from_ : Int) : Nat → Int → List Int → List Int → List Int × List Int
  | 0, _, as, ss => (as, ss)
  | k + 1, x, as, ss => if x = from_ then (as, ss) else chF acts via from_ k ((ag acts (gi via x)).fr + (ag acts (gi via x)).tt - x) (gi via x :: as) ((if (ag acts (gi via x)).fr = x then -1 else 1) :: ss)
theorem idx_lt {l : List Int} {x : Int} {t : Nat} (h : x ∈ l.take t) : l.idxOf x < t := by
  have h2 : (l.take t).idxOf x < (l.take t).length := List.idxOf_lt_length_of_mem h
  have h3 : l.idxOf x = (l.take t).idxOf x := by
    conv => lhs; rw [← List.take_append_drop t l]
    rw [List.idxOf_append, if_pos h]
  simp at h2
  omega
/-- one step back -/
theorem PSt.back {ne : Nat} {acts : List Act} {tree : List Int} {from_ : Int} {s : List Bool × List Int} {ord : List Int} (h : PSt ne acts tree from_ s ord) {x : Int} (hx : x ∈ ord) (hne : x ≠ from_) :
    gi s.2 x ∈ tree ∧ (ag acts (gi s.2 x)).fr + (ag acts (gi s.2 x)).tt - x ∈ ord ∧ ord.idxOf ((ag acts (gi s.2 x)).fr + (ag acts (gi s.2 x)).tt - x) < ord.idxOf x ∧
      stE (ag acts (gi s.2 x)) (if (ag acts (gi s.2 x)).fr = x then -1 else 1) = (ag acts (gi s.2 x)).fr + (ag acts (gi s.2 x)).tt - x ∧ enE (ag acts (gi s.2 x)) (if (ag acts (gi s.2 x)).fr = x then -1 else 1) = x := by
  have hi : ord.idxOf x < ord.length := List.idxOf_lt_length_of_mem hx
  have hg : ord[ord.idxOf x] = x := by simp
  have hpos : 0 < ord.idxOf x := by
    rcases Nat.eq_zero_or_pos (ord.idxOf x) with e | e
    · exfalso
      have h0 := h.hd
      rw [List.getElem?_eq_getElem (by omega)] at h0
      injection h0 with h0
      apply hne
      rw [← hg, ← h0]
      congr 1
    · exact e
  obtain ⟨h1, h2⟩ := h.par (ord.idxOf x) hi hpos
  rw [hg] at h1 h2
  generalize ag acts (gi s.2 x) = a at *
  refine ⟨h1, ?_⟩
  rcases h2 with ⟨e, hm⟩ | ⟨e, hm⟩
  · have e2 : a.fr + a.tt - x = a.tt := by omega
    rw [e2]
    refine ⟨List.mem_of_mem_take hm, idx_lt hm, ?_, ?_⟩
    · unfold stE; rw [if_pos e, if_pos (by omega)]
    · unfold enE; rw [if_pos e, if_pos (by omega)]; exact e
  · have e2 : a.fr + a.tt - x = a.fr := by omega
    rw [e2]
    have hlt := idx_lt hm
    have hfx : ¬ a.fr = x := fun e3 => by rw [e3] at hlt; omega
    refine ⟨List.mem_of_mem_take hm, hlt, ?_, ?_⟩
    · unfold stE; rw [if_neg hfx, if_neg (by omega)]
    · unfold enE; rw [if_neg hfx, if_neg (by omega)]; exact e
end
end Go.Proofs.YtinjdcefagaaeaaGreatDoor

namespace Go.Proofs.YtinjdcefagaaeaaGreatDoor
theorem sumN_dvd (T : Int) (f g : Nat → Int) : ∀ (k : Nat), (∀ i, i < k → T ∣ f i - g i) → T ∣ sumN f k - sumN g k
  | 0, _ => by simp [sumN]
  | k + 1, h => by
    have h1 := sumN_dvd T f g k (fun i hi => h i (by omega))
    have h2 := h k (by omega)
    unfold sumN
    have e : sumN f k + f k - (sumN g k + g k) = (sumN f k - sumN g k) + (f k - g k) := by omega
    rw [e]
    exact Int.dvd_add h1 h2
theorem sumN_le (f g : Nat → Int) : ∀ (k : Nat), (∀ i, i < k → f i ≤ g i) → sumN f k ≤ sumN g k
  | 0, _ => by simp [sumN]
  | k + 1, h => by
    have h1 := sumN_le f g k (fun i hi => h i (by omega))
    have h2 := h k (by omega)
    unfold sumN
    omega
theorem sumN_sub (f g : Nat → Int) (k : Nat) : sumN (fun i => f i - g i) k = sumN f k - sumN g k := by
  induction k with
  | zero => rfl
  | succ k ih => unfold sumN; rw [ih]; omega
theorem sumN_neg (f : Nat → Int) (k : Nat) : sumN (fun i => - f i) k = - sumN f k := by
  induction k with
  | zero => rfl
  | succ k ih => unfold sumN; rw [ih]; omega
theorem sumN_tel (g : Nat → Int) : ∀ m, sumN (fun k => g (k + 1) - g k) m = g m - g 0
  | 0 => by simp [sumN]
  | m + 1 => by unfold sumN; rw [sumN_tel g m]; omega
theorem sumN_cyc (g : Nat → Int) (n : Nat) (hn : 0 < n) : sumN (fun k => g ((k + 1) % n) - g k) n = 0 := by
  obtain ⟨m, rfl⟩ : ∃ m, n = m + 1 := ⟨n - 1, by omega⟩
  unfold sumN
  rw [sumN_congr _ (fun k => g (k + 1) - g k) m (fun i hi => by rw [Nat.mod_eq_of_lt (by omega)]), sumN_tel, Nat.mod_self]
  omega
theorem sumN_front (f : Nat → Int) : ∀ k, sumN f (k + 1) = f 0 + sumN (fun i => f (i + 1)) k
  | 0 => by simp [sumN]
  | k + 1 => by
    have := sumN_front f k
    show sumN f (k + 1) + f (k + 1) = f 0 + (sumN (fun i => f (i + 1)) k + f (k + 1))
    rw [this]; omega
theorem sumN_rev (f : Nat → Int) : ∀ n, sumN (fun i => f (n - 1 - i)) n = sumN f n
  | 0 => rfl
  | n + 1 => by
    rw [sumN_front]
    have e : sumN (fun i => f (n + 1 - 1 - (i + 1))) n = sumN (fun i => f (n - 1 - i)) n := sumN_congr _ _ _ (fun i hi => by congr 1; omega)
    rw [e, sumN_rev f n]
    show f (n + 1 - 1 - 0) + sumN f n = sumN f n + f n
    simp only [Nat.add_sub_cancel, Nat.sub_zero]
    omega
/-- the slack of an activity for times -/
def slk1 (T : Int) (x : List Int) (a : Act) : Int := (gi x a.tt - gi x a.fr - a.mn) % T
def slkL (T : Int) (acts : List Act) (x : List Int) : List Int := acts.map (slk1 T x)
section
variable {T : Int} {ne : Nat} {acts : List Act} {arcs signs x : List Int}
theorem slkL_gi (i : Int) (h0 : 0 ≤ i) (h1 : i < acts.length) : gi (slkL T acts x) i = slk1 T x (ag acts i) := by
  obtain ⟨i, rfl⟩ := Int.eq_ofNat_of_zero_le h0
  rw [gi_nat _ i (by simp [slkL]; omega), ag_nat acts i (by omega)]
  simp [slkL]
theorem slk1_bd (ht : 2 ≤ T) (a : Act) : 0 ≤ slk1 T x a ∧ slk1 T x a < T := ⟨Int.emod_nonneg _ (by omega), Int.emod_lt_of_pos _ (by omega)⟩
theorem slkL_ok (ht : 2 ≤ T) (ht1 : T ≤ 7200) : slOk acts (slkL T acts x) := by
  refine ⟨by simp [slkL], fun s hs => ?_⟩
  obtain ⟨a, _, rfl⟩ := List.mem_map.1 hs
  have := slk1_bd (x := x) ht a
  omega
theorem cyc_tel (hk : CycOk T ne acts arcs signs) (t : Int → Int) : sumN (fun i => gi signs i * (t (ag acts (gi arcs i)).tt - t (ag acts (gi arcs i)).fr)) arcs.length = 0 := by
  rw [← sumN_cyc (fun k => t (stC acts arcs signs k)) arcs.length (by have := hk.two; omega)]
  apply sumN_congr
  intro i hi
  show _ = t (stC acts arcs signs ((i + 1) % arcs.length)) - t (stC acts arcs signs i)
  rw [hk.cl i hi]
  unfold enC stC enE stE
  rcases (hk.arc i hi).s with h | h <;> rw [h]
  · simp
  · simp; omega
/-- forward less backward slacks -/
theorem slk_mod (hk : CycOk T ne acts arcs signs) : T ∣ sumN (slF arcs signs (slkL T acts x)) arcs.length - sumN (slB arcs signs (slkL T acts x)) arcs.length + bsS acts arcs signs := by
  have h0 := cyc_tel hk (gi x)
  rw [← sumN_sub]
  have h1 := sumN_dvd T (fun i => slF arcs signs (slkL T acts x) i - slB arcs signs (slkL T acts x) i) (fun i => gi signs i * (gi x (ag acts (gi arcs i)).tt - gi x (ag acts (gi arcs i)).fr) - bsT acts arcs signs i) arcs.length (fun i hi => by
    have ha := hk.arc i hi
    have he : T ∣ slk1 T x (ag acts (gi arcs i)) - (gi x (ag acts (gi arcs i)).tt - gi x (ag acts (gi arcs i)).fr - (ag acts (gi arcs i)).mn) := by
      unfold slk1
      have h := Int.dvd_self_sub_emod (x := gi x (ag acts (gi arcs i)).tt - gi x (ag acts (gi arcs i)).fr - (ag acts (gi arcs i)).mn) (m := T)
      have := Int.dvd_neg.2 h
      rwa [Int.neg_sub] at this
    unfold slF slB bsT
    rw [slkL_gi _ ha.a0 ha.a1]
    rcases ha.s with h | h <;> rw [h]
    · simpa using he
    · rw [if_neg (by decide), if_neg (by decide)]
      have := Int.dvd_neg.2 he
      rw [show (0 : Int) - slk1 T x (ag acts (gi arcs i)) - (-1 * (gi x (ag acts (gi arcs i)).tt - gi x (ag acts (gi arcs i)).fr) - -1 * (ag acts (gi arcs i)).mn) = -(slk1 T x (ag acts (gi arcs i)) - (gi x (ag acts (gi arcs i)).tt - gi x (ag acts (gi arcs i)).fr - (ag acts (gi arcs i)).mn)) by omega]
      exact this)
  rw [sumN_sub (fun i => gi signs i * (gi x (ag acts (gi arcs i)).tt - gi x (ag acts (gi arcs i)).fr)), h0] at h1
  unfold bsS
  rw [show ∀ a b : Int, a - (0 - b) = a + b by intros; omega] at h1
  exact h1
theorem slF_nn (ht : 2 ≤ T) (hk : CycOk T ne acts arcs signs) : 0 ≤ sumN (slF arcs signs (slkL T acts x)) arcs.length ∧ 0 ≤ sumN (slB arcs signs (slkL T acts x)) arcs.length := by
  have h1 := sumN_le (fun _ => 0) (slF arcs signs (slkL T acts x)) arcs.length (fun i hi => by
    unfold slF; rw [slkL_gi _ (hk.arc i hi).a0 (hk.arc i hi).a1]; have := slk1_bd (x := x) ht (ag acts (gi arcs i)); split <;> omega)
  have h2 := sumN_le (fun _ => 0) (slB arcs signs (slkL T acts x)) arcs.length (fun i hi => by
    unfold slB; rw [slkL_gi _ (hk.arc i hi).a0 (hk.arc i hi).a1]; have := slk1_bd (x := x) ht (ag acts (gi arcs i)); split <;> omega)
  have h3 := sumN_mul 0 (fun _ => 0) arcs.length
  simp at h3
  omega
theorem nacht_core (T r f b z : Int) (hr0 : 0 ≤ r) (hr1 : r < T) (hf : 0 ≤ f) (hb : 0 ≤ b) (h : f - b - r = T * z) : r * (T - r) ≤ (T - r) * f + r * b := by
  have p1 : 0 ≤ (T - r) * f := Int.mul_nonneg (by omega) hf
  have p2 : 0 ≤ r * b := Int.mul_nonneg hr0 hb
  by_cases hz : 0 ≤ z
  · have h1 : 0 ≤ T * z := Int.mul_nonneg (by omega) hz
    have h2 : (T - r) * r ≤ (T - r) * f := Int.mul_le_mul_of_nonneg_left (by omega) (by omega)
    rw [Int.mul_comm r (T - r)]
    omega
  · have h1 : T * z ≤ T * (-1) := Int.mul_le_mul_of_nonneg_left (by omega) (by omega)
    have h2 : r * (T - r) ≤ r * b := Int.mul_le_mul_of_nonneg_left (by omega) hr0
    omega
theorem nacht (hk : CycOk T ne acts arcs signs) : rightV T ne acts arcs signs ≤ leftR T ne acts arcs signs (slkL T acts x) := by
  have hr := res_bd hk
  have ht := hk.net.t0
  obtain ⟨hf, hb⟩ := slF_nn (x := x) ht hk
  obtain ⟨c, hc⟩ := slk_mod (x := x) hk
  have he : T ∣ -(bsS acts arcs signs) - resV T ne acts arcs signs := by
    unfold resV; rw [if_pos (cycB_yes hk)]; exact Int.dvd_self_sub_emod
  obtain ⟨d, hd⟩ := he
  unfold rightV leftR
  generalize resV T ne acts arcs signs = r at *
  generalize sumN (slF arcs signs (slkL T acts x)) arcs.length = f at *
  generalize sumN (slB arcs signs (slkL T acts x)) arcs.length = b at *
  generalize bsS acts arcs signs = bs at *
  exact nacht_core T r f b (c + d) hr.1 hr.2 hf hb (by rw [Int.mul_add]; omega)
/-- all durations are permitted -/
def feas (T : Int) (acts : List Act) (x : List Int) : Prop := ∀ a ∈ acts, a.mn + slk1 T x a ≤ a.mx
def durS (T : Int) (acts : List Act) (arcs signs x : List Int) : Int := sumN (fun i => gi signs i * ((ag acts (gi arcs i)).mn + slk1 T x (ag acts (gi arcs i)))) arcs.length
theorem durS_eq (hk : CycOk T ne acts arcs signs) : durS T acts arcs signs x = bsS acts arcs signs + (sumN (slF arcs signs (slkL T acts x)) arcs.length - sumN (slB arcs signs (slkL T acts x)) arcs.length) := by
  unfold durS bsS
  rw [← sumN_sub, ← sumN_add]
  apply sumN_congr
  intro i hi
  have ha := hk.arc i hi
  unfold slF slB bsT
  rw [slkL_gi _ ha.a0 ha.a1]
  rcases ha.s with h | h <;> rw [h]
  · simp
  · rw [if_neg (by decide), if_neg (by decide)]; omega
theorem durS_z (hk : CycOk T ne acts arcs signs) : ∃ z, durS T acts arcs signs x = z * T := by
  obtain ⟨c, hc⟩ := slk_mod (x := x) hk
  exact ⟨c, by rw [durS_eq hk, Int.mul_comm c T, ← hc]; omega⟩
theorem feas_le (hk : CycOk T ne acts arcs signs) (hf : feas T acts x) : sumN (slF arcs signs (slkL T acts x)) arcs.length ≤ fwS acts arcs signs ∧ sumN (slB arcs signs (slkL T acts x)) arcs.length ≤ bwS acts arcs signs := by
  refine ⟨sumN_le _ _ _ (fun i hi => ?_), sumN_le _ _ _ (fun i hi => ?_)⟩
  · have ha := hk.arc i hi
    have := hf _ (ag_mem acts _ ha.a0 ha.a1)
    unfold slF fwT
    rw [slkL_gi _ ha.a0 ha.a1]
    split <;> omega
  · have ha := hk.arc i hi
    have := hf _ (ag_mem acts _ ha.a0 ha.a1)
    unfold slB bwT
    rw [slkL_gi _ ha.a0 ha.a1]
    split <;> omega
theorem win_z (T a b z : Int) (ht : 1 ≤ T) (h0 : a ≤ z * T) (h1 : z * T ≤ b) : cdiv a T ≤ z ∧ z ≤ b / T := by
  refine ⟨?_, (Int.le_ediv_iff_mul_le (by omega)).2 h1⟩
  unfold cdiv
  have : -z ≤ (-a) / T := (Int.le_ediv_iff_mul_le (by omega)).2 (by rw [Int.neg_mul]; omega)
  omega
/-- the windings hold the number of periods -/
theorem odijk (hk : CycOk T ne acts arcs signs) (hf : feas T acts x) : ∃ z, durS T acts arcs signs x = z * T ∧ okW T ne acts arcs signs = true ∧ loW T acts arcs signs ≤ z ∧ z ≤ hiW T acts arcs signs := by
  obtain ⟨z, hz⟩ := durS_z (x := x) hk
  have h1 := durS_eq (x := x) hk
  have ht := hk.net.t0
  obtain ⟨hn1, hn2⟩ := slF_nn (x := x) ht hk
  obtain ⟨h2, h3⟩ := feas_le hk hf
  have hw := win_z T (bsS acts arcs signs - bwS acts arcs signs) (bsS acts arcs signs + fwS acts arcs signs) z (by omega) (by omega) (by omega)
  refine ⟨z, hz, ?_, hw.1, hw.2⟩
  unfold okW
  rw [cycB_yes hk]
  have : loW T acts arcs signs ≤ hiW T acts arcs signs := Int.le_trans hw.1 hw.2
  simpa using this
theorem odijk_law (hk : CycOk T ne acts arcs signs) (hf : feas T acts x) : okW T ne acts arcs signs = true ∧ winL T ne acts arcs signs * T ≤ durS T acts arcs signs x ∧ durS T acts arcs signs x ≤ winH T ne acts arcs signs * T := by
  obtain ⟨z, h1, h2, h3, h4⟩ := odijk hk hf
  have ht := hk.net.t0
  refine ⟨h2, ?_, ?_⟩
  · unfold winL; rw [if_pos h2, h1]; exact Int.mul_le_mul_of_nonneg_right h3 (by omega)
  · unfold winH; rw [if_pos h2, h1]; exact Int.mul_le_mul_of_nonneg_right h4 (by omega)
theorem gapF_le (T b lo hi z : Int) (ht : 1 ≤ T) (h0 : lo ≤ z) (h1 : z ≤ hi) : gapF T b lo hi ≤ dst (z * T) b := by
  have e1 := Int.mul_ediv_add_emod b T
  have e2 := Int.emod_nonneg b (show T ≠ 0 by omega)
  have e3 := Int.emod_lt_of_pos b (show 0 < T by omega)
  have e4 : T * (b / T) = (b / T) * T := Int.mul_comm _ _
  have e5 : (b / T + 1) * T = (b / T) * T + T := by rw [Int.add_mul]; omega
  unfold gapF
  by_cases h : z ≤ b / T
  · have hc : z ≤ clampI (b / T) lo hi ∧ clampI (b / T) lo hi ≤ b / T := by unfold clampI; omega
    have m1 : z * T ≤ clampI (b / T) lo hi * T := Int.mul_le_mul_of_nonneg_right hc.1 (by omega)
    have m2 : clampI (b / T) lo hi * T ≤ b / T * T := Int.mul_le_mul_of_nonneg_right hc.2 (by omega)
    unfold dst
    omega
  · have hc : clampI (b / T + 1) lo hi ≤ z ∧ b / T + 1 ≤ clampI (b / T + 1) lo hi := by unfold clampI; omega
    have m1 : clampI (b / T + 1) lo hi * T ≤ z * T := Int.mul_le_mul_of_nonneg_right hc.1 (by omega)
    have m2 : (b / T + 1) * T ≤ clampI (b / T + 1) lo hi * T := Int.mul_le_mul_of_nonneg_right hc.2 (by omega)
    unfold dst
    omega
theorem gapF_at (T b lo hi : Int) (h : lo ≤ hi) : ∃ z, lo ≤ z ∧ z ≤ hi ∧ gapF T b lo hi = dst (z * T) b := by
  unfold gapF
  by_cases h1 : dst (clampI (b / T) lo hi * T) b ≤ dst (clampI (b / T + 1) lo hi * T) b
  · exact ⟨clampI (b / T) lo hi, by unfold clampI; omega, by unfold clampI; omega, Int.min_eq_left h1⟩
  · exact ⟨clampI (b / T + 1) lo hi, by unfold clampI; omega, by unfold clampI; omega, Int.min_eq_right (by omega)⟩
theorem dst_nn (a b : Int) : 0 ≤ dst a b := by unfold dst; omega
theorem gap_law (hk : CycOk T ne acts arcs signs) (hf : feas T acts x) : okW T ne acts arcs signs = true ∧ 0 ≤ gapV T ne acts arcs signs ∧ gapV T ne acts arcs signs ≤ sumN (fun i => gi (slkL T acts x) (gi arcs i)) arcs.length := by
  obtain ⟨z, h1, h2, h3, h4⟩ := odijk hk hf
  have ht := hk.net.t0
  have hl := gapF_le T (bsS acts arcs signs) _ _ z (by omega) h3 h4
  obtain ⟨y, _, _, hy⟩ := gapF_at T (bsS acts arcs signs) (loW T acts arcs signs) (hiW T acts arcs signs) (by omega)
  have hn := dst_nn (y * T) (bsS acts arcs signs)
  have he := durS_eq (x := x) hk
  obtain ⟨n1, n2⟩ := slF_nn (x := x) ht hk
  refine ⟨h2, ?_, ?_⟩
  · unfold gapV; rw [if_pos h2]; omega
  · unfold gapV; rw [if_pos h2]
    have hs : sumN (fun i => gi (slkL T acts x) (gi arcs i)) arcs.length = sumN (slF arcs signs (slkL T acts x)) arcs.length + sumN (slB arcs signs (slkL T acts x)) arcs.length := by
      rw [← sumN_add]
      apply sumN_congr
      intro i _
      unfold slF slB
      split <;> omega
    rw [hs]
    rw [h1] at he
    unfold dst at hl
    omega
end
end Go.Proofs.YtinjdcefagaaeaaGreatDoor

namespace Go.Proofs.YtinjdcefagaaeaaGreatDoor
/-- the cycle passed the other way -/
def revA (arcs : List Int) : List Int := arcs.reverse
def revS (signs : List Int) : List Int := (signs.reverse).map fun s => -s
section
variable {T : Int} {ne : Nat} {acts : List Act} {arcs signs : List Int}
theorem revA_gi (k : Nat) (h : k < arcs.length) : gi (revA arcs) k = gi arcs ((arcs.length - 1 - k : Nat) : Int) := by
  rw [gi_nat _ k (by simp [revA, h]), gi_nat _ _ (by omega)]
  simp [revA]
theorem revS_gi (k : Nat) (h : k < signs.length) : gi (revS signs) k = -gi signs ((signs.length - 1 - k : Nat) : Int) := by
  rw [gi_nat _ k (by simp [revS, h]), gi_nat _ _ (by omega)]
  simp [revS]
theorem rev_st (hk : CycOk T ne acts arcs signs) (k : Nat) (h : k < arcs.length) : stC acts (revA arcs) (revS signs) k = enC acts arcs signs (arcs.length - 1 - k) ∧ enC acts (revA arcs) (revS signs) k = stC acts arcs signs (arcs.length - 1 - k) := by
  have hl := hk.len
  unfold stC enC
  rw [revA_gi k h, revS_gi k (by omega), ← hl]
  unfold stE enE
  rcases (hk.arc (arcs.length - 1 - k) (by omega)).s with e | e <;> rw [e] <;> simp
theorem rev_ok (hk : CycOk T ne acts arcs signs) : CycOk T ne acts (revA arcs) (revS signs) := by
  have hl := hk.len
  have h2 := hk.two
  have hr : (revA arcs).length = arcs.length := by simp [revA]
  refine ⟨hk.net, by simp [revA, revS, hl], by rw [hr]; exact h2, fun k hkl => ?_, fun k hkl => ?_, fun i j hij hj => ?_⟩
  · rw [hr] at hkl
    have ha := hk.arc (arcs.length - 1 - k) (by omega)
    refine ⟨by rw [revA_gi k hkl]; exact ha.a0, by rw [revA_gi k hkl]; exact ha.a1, ?_, fun i hi => ?_⟩
    · rw [revS_gi k (by omega), ← hl]
      rcases ha.s with e | e <;> rw [e] <;> simp
    · rw [revA_gi k hkl, revA_gi i (by omega)]
      exact fun e => (hk.arc (arcs.length - 1 - i) (by omega)).nd (arcs.length - 1 - k) (by omega) e.symm
  · rw [hr] at hkl ⊢
    have hm : (k + 1) % arcs.length < arcs.length := Nat.mod_lt _ (by omega)
    rw [(rev_st hk _ hm).1, (rev_st hk k hkl).2, hk.prev _ (by omega)]
    congr 1
    unfold prevK
    by_cases e : k + 1 = arcs.length
    · rw [e, Nat.mod_self]; split <;> omega
    · rw [Nat.mod_eq_of_lt (by omega)]; split <;> omega
  · rw [hr] at hj
    rw [(rev_st hk i (by omega)).1, (rev_st hk j hj).1, ← hk.cl _ (by omega), ← hk.cl _ (by omega)]
    have hi1 : (arcs.length - 1 - i + 1) % arcs.length = if i = 0 then 0 else arcs.length - i := by
      split
      · rename_i h; subst h; rw [show arcs.length - 1 - 0 + 1 = arcs.length by omega, Nat.mod_self]
      · rw [Nat.mod_eq_of_lt (by omega)]; omega
    have hj1 : (arcs.length - 1 - j + 1) % arcs.length = arcs.length - j := by rw [Nat.mod_eq_of_lt (by omega)]; omega
    rw [hi1, hj1]
    split
    · exact hk.sd _ _ (by omega) (by omega)
    · exact fun e => hk.sd (arcs.length - j) (arcs.length - i) (by omega) (by omega) e.symm
theorem rev_sums (hk : CycOk T ne acts arcs signs) : bsS acts (revA arcs) (revS signs) = -bsS acts arcs signs ∧ fwS acts (revA arcs) (revS signs) = bwS acts arcs signs ∧ bwS acts (revA arcs) (revS signs) = fwS acts arcs signs := by
  have hl := hk.len
  have hr : (revA arcs).length = arcs.length := by simp [revA]
  unfold bsS fwS bwS
  rw [hr]
  refine ⟨?_, ?_, ?_⟩
  · rw [← sumN_rev (bsT acts arcs signs), ← sumN_neg]
    apply sumN_congr
    intro i hi
    unfold bsT
    rw [revA_gi i hi, revS_gi i (by omega), ← hl, Int.neg_mul]
  · rw [← sumN_rev (bwT acts arcs signs)]
    apply sumN_congr
    intro i hi
    unfold fwT bwT
    rw [revA_gi i hi, revS_gi i (by omega), ← hl]
    rcases (hk.arc (arcs.length - 1 - i) (by omega)).s with e | e <;> rw [e] <;> simp
  · rw [← sumN_rev (fwT acts arcs signs)]
    apply sumN_congr
    intro i hi
    unfold fwT bwT
    rw [revA_gi i hi, revS_gi i (by omega), ← hl]
    rcases (hk.arc (arcs.length - 1 - i) (by omega)).s with e | e <;> rw [e] <;> simp
theorem rev_win (hk : CycOk T ne acts arcs signs) : loW T acts (revA arcs) (revS signs) = -hiW T acts arcs signs ∧ hiW T acts (revA arcs) (revS signs) = -loW T acts arcs signs := by
  obtain ⟨h1, h2, h3⟩ := rev_sums hk
  unfold loW hiW
  rw [h1, h2, h3]
  unfold cdiv
  refine ⟨?_, ?_⟩
  · rw [show -(-bsS acts arcs signs - fwS acts arcs signs) = bsS acts arcs signs + fwS acts arcs signs by omega]
  · rw [Int.neg_neg, show -(bsS acts arcs signs - bwS acts arcs signs) = -bsS acts arcs signs + bwS acts arcs signs by omega]
theorem rev_okW (hk : CycOk T ne acts arcs signs) : okW T ne acts (revA arcs) (revS signs) = okW T ne acts arcs signs := by
  unfold okW
  rw [cycB_yes hk, cycB_yes (rev_ok hk), (rev_win hk).1, (rev_win hk).2]
  congr 1
  apply decide_eq_decide.2
  omega
theorem gapF_neg (T b lo hi : Int) (ht : 1 ≤ T) (h : lo ≤ hi) : gapF T (-b) (-hi) (-lo) = gapF T b lo hi := by
  obtain ⟨z, z0, z1, hz⟩ := gapF_at T b lo hi h
  obtain ⟨y, y0, y1, hy⟩ := gapF_at T (-b) (-hi) (-lo) (by omega)
  have h1 := gapF_le T b lo hi (-y) ht (by omega) (by omega)
  have h2 := gapF_le T (-b) (-hi) (-lo) (-z) ht (by omega) (by omega)
  have e : ∀ u v : Int, dst (-u * T) (-v) = dst (u * T) v := by intro u v; unfold dst; rw [Int.neg_mul]; omega
  rw [e] at h2
  have e' : dst (-y * T) b = dst (y * T) (-b) := by rw [← e, Int.neg_neg]
  rw [e'] at h1
  omega
theorem rev_gap (hk : CycOk T ne acts arcs signs) : gapV T ne acts (revA arcs) (revS signs) = gapV T ne acts arcs signs := by
  unfold gapV
  rw [rev_okW hk, (rev_win hk).1, (rev_win hk).2, (rev_sums hk).1]
  split
  · rename_i h
    unfold okW at h
    simp at h
    have := hk.net.t0
    rw [gapF_neg _ _ _ _ (by omega) h.2]
  · rfl
theorem rev_winLH (hk : CycOk T ne acts arcs signs) : winL T ne acts arcs signs = -winH T ne acts (revA arcs) (revS signs) ∧ winH T ne acts arcs signs = -winL T ne acts (revA arcs) (revS signs) := by
  unfold winL winH
  rw [rev_okW hk, (rev_win hk).1, (rev_win hk).2]
  constructor <;> split <;> omega
theorem rev_res (hk : CycOk T ne acts arcs signs) : (resV T ne acts arcs signs = 0 ∧ resV T ne acts (revA arcs) (revS signs) = 0) ∨ resV T ne acts (revA arcs) (revS signs) = T - resV T ne acts arcs signs := by
  have ht := hk.net.t0
  unfold resV
  rw [if_pos (cycB_yes hk), if_pos (cycB_yes (rev_ok hk)), (rev_sums hk).1]
  generalize bsS acts arcs signs = b
  rw [Int.neg_neg]
  have e1 := Int.mul_ediv_add_emod b T
  have e2 := Int.emod_nonneg b (show T ≠ 0 by omega)
  have e3 := Int.emod_lt_of_pos b (show 0 < T by omega)
  by_cases h : b % T = 0
  · left
    refine ⟨?_, h⟩
    exact Int.emod_eq_zero_of_dvd (Int.dvd_neg.2 (Int.dvd_of_emod_eq_zero h))
  · right
    have : (-b) / T = -(b / T) - 1 ∧ (-b) % T = T - b % T := (Int.ediv_emod_unique (show 0 < T by omega)).2 ⟨by rw [Int.mul_sub, Int.mul_neg]; omega, by omega, by omega⟩
    rw [this.2]; omega
theorem rev_right (hk : CycOk T ne acts arcs signs) : rightV T ne acts (revA arcs) (revS signs) = rightV T ne acts arcs signs := by
  unfold rightV
  rcases rev_res hk with ⟨h1, h2⟩ | h
  · rw [h1, h2]
  · rw [h, Int.mul_comm]; congr 1; omega
theorem rev_resmod (hk : CycOk T ne acts arcs signs) : (resV T ne acts arcs signs + resV T ne acts (revA arcs) (revS signs)).tmod T = 0 := by
  rcases rev_res hk with ⟨h1, h2⟩ | h
  · rw [h1, h2]; simp
  · rw [h, show resV T ne acts arcs signs + (T - resV T ne acts arcs signs) = T by omega]; exact Int.tmod_self
end
end Go.Proofs.YtinjdcefagaaeaaGreatDoor
