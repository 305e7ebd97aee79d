import Derived.Test.YtbmbdenjlbelaaaLwMath
namespace Go.Proofs.Ytbmbdenjlbelaaa
/-- the cycle passed the other way -/
def revA (arcs : List Int) : List Int := arcs.reverse
def revS (signs : List Int) : List Int := (signs.reverse).map fun s => -s
section
variable {T : Int} {ne : Nat} {acts : List Act} {arcs signs : List Int}
theorem revA_gi (k : Nat) (h : k < arcs.length) : gi (revA arcs) k = gi arcs ((arcs.length - 1 - k : Nat) : Int) := by
  rw [gi_nat _ k (by simp [revA, h]), gi_nat _ _ (by omega)]
  simp [revA]
theorem revS_gi (k : Nat) (h : k < signs.length) : gi (revS signs) k = -gi signs ((signs.length - 1 - k : Nat) : Int) := by
  rw [gi_nat _ k (by simp [revS, h]), gi_nat _ _ (by omega)]
  simp [revS]
theorem rev_st (hk : CycOk T ne acts arcs signs) (k : Nat) (h : k < arcs.length) : stC acts (revA arcs) (revS signs) k = enC acts arcs signs (arcs.length - 1 - k) ∧ enC acts (revA arcs) (revS signs) k = stC acts arcs signs (arcs.length - 1 - k) := by
  have hl := hk.len
  unfold stC enC
  rw [revA_gi k h, revS_gi k (by omega), ← hl]
  unfold stE enE
  rcases (hk.arc (arcs.length - 1 - k) (by omega)).s with e | e <;> rw [e] <;> simp
theorem rev_ok (hk : CycOk T ne acts arcs signs) : CycOk T ne acts (revA arcs) (revS signs) := by
  have hl := hk.len
  have h2 := hk.two
  have hr : (revA arcs).length = arcs.length := by simp [revA]
  refine ⟨hk.net, by simp [revA, revS, hl], by rw [hr]; exact h2, fun k hkl => ?_, fun k hkl => ?_, fun i j hij hj => ?_⟩
  · rw [hr] at hkl
    have ha := hk.arc (arcs.length - 1 - k) (by omega)
    refine ⟨by rw [revA_gi k hkl]; exact ha.a0, by rw [revA_gi k hkl]; exact ha.a1, ?_, fun i hi => ?_⟩
    · rw [revS_gi k (by omega), ← hl]
      rcases ha.s with e | e <;> rw [e] <;> simp
    · rw [revA_gi k hkl, revA_gi i (by omega)]
      exact fun e => (hk.arc (arcs.length - 1 - i) (by omega)).nd (arcs.length - 1 - k) (by omega) e.symm
  · rw [hr] at hkl ⊢
    have hm : (k + 1) % arcs.length < arcs.length := Nat.mod_lt _ (by omega)
    rw [(rev_st hk _ hm).1, (rev_st hk k hkl).2, hk.prev _ (by omega)]
    congr 1
    unfold prevK
    by_cases e : k + 1 = arcs.length
    · rw [e, Nat.mod_self]; split <;> omega
    · rw [Nat.mod_eq_of_lt (by omega)]; split <;> omega
  · rw [hr] at hj
    rw [(rev_st hk i (by omega)).1, (rev_st hk j hj).1, ← hk.cl _ (by omega), ← hk.cl _ (by omega)]
    have hi1 : (arcs.length - 1 - i + 1) % arcs.length = if i = 0 then 0 else arcs.length - i := by
      split
      · rename_i h; subst h; rw [show arcs.length - 1 - 0 + 1 = arcs.length by omega, Nat.mod_self]
      · rw [Nat.mod_eq_of_lt (by omega)]; omega
    have hj1 : (arcs.length - 1 - j + 1) % arcs.length = arcs.length - j := by rw [Nat.mod_eq_of_lt (by omega)]; omega
    rw [hi1, hj1]
    split
    · exact hk.sd _ _ (by omega) (by omega)
    · exact fun e => hk.sd (arcs.length - j) (arcs.length - i) (by omega) (by omega) e.symm
theorem rev_sums (hk : CycOk T ne acts arcs signs) : bsS acts (revA arcs) (revS signs) = -bsS acts arcs signs ∧ fwS acts (revA arcs) (revS signs) = bwS acts arcs signs ∧ bwS acts (revA arcs) (revS signs) = fwS acts arcs signs := by
  have hl := hk.len
  have hr : (revA arcs).length = arcs.length := by simp [revA]
  unfold bsS fwS bwS
  rw [hr]
  refine ⟨?_, ?_, ?_⟩
  · rw [← sumN_rev (bsT acts arcs signs), ← sumN_neg]
    apply sumN_congr
    intro i hi
    unfold bsT
    rw [revA_gi i hi, revS_gi i (by omega), ← hl, Int.neg_mul]
  · rw [← sumN_rev (bwT acts arcs signs)]
    apply sumN_congr
    intro i hi
    unfold fwT bwT
    rw [revA_gi i hi, revS_gi i (by omega), ← hl]
    rcases (hk.arc (arcs.length - 1 - i) (by omega)).s with e | e <;> rw [e] <;> simp
  · rw [← sumN_rev (fwT acts arcs signs)]
    apply sumN_congr
    intro i hi
    unfold fwT bwT
    rw [revA_gi i hi, revS_gi i (by omega), ← hl]
    rcases (hk.arc (arcs.length - 1 - i) (by omega)).s with e | e <;> rw [e] <;> simp
theorem rev_win (hk : CycOk T ne acts arcs signs) : loW T acts (revA arcs) (revS signs) = -hiW T acts arcs signs ∧ hiW T acts (revA arcs) (revS signs) = -loW T acts arcs signs := by
  obtain ⟨h1, h2, h3⟩ := rev_sums hk
  unfold loW hiW
  rw [h1, h2, h3]
  unfold cdiv
  refine ⟨?_, ?_⟩
  · rw [show -(-bsS acts arcs signs - fwS acts arcs signs) = bsS acts arcs signs + fwS acts arcs signs by omega]
  · rw [Int.neg_neg, show -(bsS acts arcs signs - bwS acts arcs signs) = -bsS acts arcs signs + bwS acts arcs signs by omega]
theorem rev_okW (hk : CycOk T ne acts arcs signs) : okW T ne acts (revA arcs) (revS signs) = okW T ne acts arcs signs := by
  unfold okW
  rw [cycB_yes hk, cycB_yes (rev_ok hk), (rev_win hk).1, (rev_win hk).2]
  congr 1
  apply decide_eq_decide.2
  omega
theorem gapF_neg (T b lo hi : Int) (ht : 1 ≤ T) (h : lo ≤ hi) : gapF T (-b) (-hi) (-lo) = gapF T b lo hi := by
  obtain ⟨z, z0, z1, hz⟩ := gapF_at T b lo hi h
  obtain ⟨y, y0, y1, hy⟩ := gapF_at T (-b) (-hi) (-lo) (by omega)
  have h1 := gapF_le T b lo hi (-y) ht (by omega) (by omega)
  have h2 := gapF_le T (-b) (-hi) (-lo) (-z) ht (by omega) (by omega)
  have e : ∀ u v : Int, dst (-u * T) (-v) = dst (u * T) v := by intro u v; unfold dst; rw [Int.neg_mul]; omega
  rw [e] at h2
  have e' : dst (-y * T) b = dst (y * T) (-b) := by rw [← e, Int.neg_neg]
  rw [e'] at h1
  omega
theorem rev_gap (hk : CycOk T ne acts arcs signs) : gapV T ne acts (revA arcs) (revS signs) = gapV T ne acts arcs signs := by
  unfold gapV
  rw [rev_okW hk, (rev_win hk).1, (rev_win hk).2, (rev_sums hk).1]
  split
  · rename_i h
    unfold okW at h
    simp at h
    have := hk.net.t0
    rw [gapF_neg _ _ _ _ (by omega) h.2]
  · rfl
theorem rev_winLH (hk : CycOk T ne acts arcs signs) : winL T ne acts arcs signs = -winH T ne acts (revA arcs) (revS signs) ∧ winH T ne acts arcs signs = -winL T ne acts (revA arcs) (revS signs) := by
  unfold winL winH
  rw [rev_okW hk, (rev_win hk).1, (rev_win hk).2]
  constructor <;> split <;> omega
theorem rev_res (hk : CycOk T ne acts arcs signs) : (resV T ne acts arcs signs = 0 ∧ resV T ne acts (revA arcs) (revS signs) = 0) ∨ resV T ne acts (revA arcs) (revS signs) = T - resV T ne acts arcs signs := by
  have ht := hk.net.t0
  unfold resV
  rw [if_pos (cycB_yes hk), if_pos (cycB_yes (rev_ok hk)), (rev_sums hk).1]
  generalize bsS acts arcs signs = b
  rw [Int.neg_neg]
  have e1 := Int.mul_ediv_add_emod b T
  have e2 := Int.emod_nonneg b (show T ≠ 0 by omega)
  have e3 := Int.emod_lt_of_pos b (show 0 < T by omega)
  by_cases h : b % T = 0
  · left
    refine ⟨?_, h⟩
    exact Int.emod_eq_zero_of_dvd (Int.dvd_neg.2 (Int.dvd_of_emod_eq_zero h))
  · right
    have : (-b) / T = -(b / T) - 1 ∧ (-b) % T = T - b % T := (Int.ediv_emod_unique (show 0 < T by omega)).2 ⟨by rw [Int.mul_sub, Int.mul_neg]; omega, by omega, by omega⟩
    rw [this.2]; omega
theorem rev_right (hk : CycOk T ne acts arcs signs) : rightV T ne acts (revA arcs) (revS signs) = rightV T ne acts arcs signs := by
  unfold rightV
  rcases rev_res hk with ⟨h1, h2⟩ | h
  · rw [h1, h2]
  · rw [h, Int.mul_comm]; congr 1; omega
theorem rev_resmod (hk : CycOk T ne acts arcs signs) : (resV T ne acts arcs signs + resV T ne acts (revA arcs) (revS signs)).tmod T = 0 := by
  rcases rev_res hk with ⟨h1, h2⟩ | h
  · rw [h1, h2]; simp
  · rw [h, show resV T ne acts arcs signs + (T - resV T ne acts arcs signs) = T by omega]; exact Int.tmod_self
end
end Go.Proofs.Ytbmbdenjlbelaaa
