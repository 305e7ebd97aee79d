import Derived.Test.YtbmbdenjlbelaaaIneMath3
namespace Go.Proofs.Ytbmbdenjlbelaaa
section
variable (T : Int) (ne : Nat) (acts : List Act) (arcs signs : List Int)
def bsS : Int := sumN (bsT acts arcs signs) arcs.length
def fwS : Int := sumN (fwT acts arcs signs) arcs.length
def bwS : Int := sumN (bwT acts arcs signs) arcs.length
def loW : Int := cdiv (bsS acts arcs signs - bwS acts arcs signs) T
def hiW : Int := (bsS acts arcs signs + fwS acts arcs signs) / T
noncomputable def okW : Bool := cycB T ne acts arcs signs && decide (loW T acts arcs signs ≤ hiW T acts arcs signs)
noncomputable def winL : Int := if okW T ne acts arcs signs = true then loW T acts arcs signs else 0
noncomputable def winH : Int := if okW T ne acts arcs signs = true then hiW T acts arcs signs else 0
def dst (a b : Int) : Int := max (a - b) (b - a)
def clampI (x lo hi : Int) : Int := min (max x lo) hi
def gapF (T b lo hi : Int) : Int := min (dst (clampI (b / T) lo hi * T) b) (dst (clampI (b / T + 1) lo hi * T) b)
noncomputable def gapV : Int := if okW T ne acts arcs signs = true then gapF T (bsS acts arcs signs) (loW T acts arcs signs) (hiW T acts arcs signs) else 0
noncomputable def resV : Int := if cycB T ne acts arcs signs = true then (-(bsS acts arcs signs)) % T else 0
noncomputable def rightV : Int := resV T ne acts arcs signs * (T - resV T ne acts arcs signs)
def slF (sl : List Int) (i : Nat) : Int := if gi signs i = 1 then gi sl (gi arcs i) else 0
def slB (sl : List Int) (i : Nat) : Int := if gi signs i = 1 then 0 else gi sl (gi arcs i)
def slOk (sl : List Int) : Prop := sl.length = acts.length ∧ ∀ s ∈ sl, 0 ≤ s ∧ s ≤ 7200
noncomputable def leftR (sl : List Int) : Int := (T - resV T ne acts arcs signs) * sumN (slF arcs signs sl) arcs.length + resV T ne acts arcs signs * sumN (slB arcs signs sl) arcs.length
open Classical in
noncomputable def leftE (sl : List Int) : Int := if cycB T ne acts arcs signs = true then (if slOk acts sl then 0 else 4) else 1
noncomputable def leftV (sl : List Int) : Int := if leftE T ne acts arcs signs sl = 0 then leftR T ne acts arcs signs sl else 0
end
section
variable {T : Int} {ne : Nat} {acts : List Act} {arcs signs : List Int}
theorem le_mul1 {C b : Int} (hc : 0 ≤ C) (hb : 1 ≤ b) : C ≤ C * b := by have := Int.mul_le_mul_of_nonneg_left hb hc; omega
theorem ediv_bd (a b : Int) (hb : 1 ≤ b) (C : Int) (h0 : -C ≤ a) (h1 : a ≤ C) : -C ≤ a / b ∧ a / b ≤ C := by
  refine ⟨?_, ?_⟩
  · rw [Int.le_ediv_iff_mul_le (by omega)]
    have : -C * b ≤ a := by
      by_cases hc : 0 ≤ C
      · have : C ≤ C * b := le_mul1 hc hb
        rw [Int.neg_mul]; omega
      · omega
    exact this
  · have : a / b < C + 1 := by
      rw [Int.ediv_lt_iff_lt_mul (by omega)]
      by_cases hc : 0 ≤ C + 1
      · have : C + 1 ≤ (C + 1) * b := le_mul1 hc hb
        omega
      · omega
    omega
theorem cdiv_bd (a b : Int) (hb : 1 ≤ b) (C : Int) (h0 : -C ≤ a) (h1 : a ≤ C) : -C ≤ cdiv a b ∧ cdiv a b ≤ C := by
  have := ediv_bd (-a) b hb C (by omega) (by omega)
  unfold cdiv; omega
theorem CycOk.bd (h : CycOk T ne acts arcs signs) : -33554432 ≤ bsS acts arcs signs ∧ bsS acts arcs signs ≤ 33554432 ∧ 0 ≤ fwS acts arcs signs ∧ fwS acts arcs signs ≤ 67108864 ∧ 0 ≤ bwS acts arcs signs ∧ bwS acts arcs signs ≤ 67108864 := by
  have h1 := h.sum.bsB arcs.length (Nat.le_refl _)
  have h2 := h.sum.fwB arcs.length (Nat.le_refl _)
  have h3 := h.sum.bwB arcs.length (Nat.le_refl _)
  exact ⟨h1.1, h1.2, h2.1, h2.2, h3.1, h3.2⟩
theorem CycOk.lohi (h : CycOk T ne acts arcs signs) : -200000000 ≤ loW T acts arcs signs ∧ loW T acts arcs signs ≤ 200000000 ∧ -200000000 ≤ hiW T acts arcs signs ∧ hiW T acts arcs signs ≤ 200000000 := by
  have hb := h.bd
  have ht := h.net.t0
  have h1 := cdiv_bd (bsS acts arcs signs - bwS acts arcs signs) T (by omega) 200000000 (by omega) (by omega)
  have h2 := ediv_bd (bsS acts arcs signs + fwS acts arcs signs) T (by omega) 200000000 (by omega) (by omega)
  exact ⟨h1.1, h1.2, h2.1, h2.2⟩
theorem mul_bd (x T C : Int) (ht : 0 ≤ T) (ht1 : T ≤ 7200) (hc : 0 ≤ C) (h0 : -C ≤ x) (h1 : x ≤ C) : -(7200 * C) ≤ x * T ∧ x * T ≤ 7200 * C := by
  have e1 : x * T ≤ C * T := Int.mul_le_mul_of_nonneg_right h1 ht
  have e2 : -C * T ≤ x * T := Int.mul_le_mul_of_nonneg_right h0 ht
  have e3 : C * T ≤ C * 7200 := Int.mul_le_mul_of_nonneg_left ht1 hc
  rw [Int.neg_mul] at e2
  omega
theorem res_bd (h : CycOk T ne acts arcs signs) : 0 ≤ resV T ne acts arcs signs ∧ resV T ne acts arcs signs < T := by
  have ht := h.net.t0
  unfold resV
  rw [if_pos (cycB_yes h)]
  exact ⟨Int.emod_nonneg _ (by omega), Int.emod_lt_of_pos _ (by omega)⟩
end
end Go.Proofs.Ytbmbdenjlbelaaa
