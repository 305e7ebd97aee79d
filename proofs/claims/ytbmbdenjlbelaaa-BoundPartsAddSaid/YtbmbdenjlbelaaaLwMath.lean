import Derived.Test.YtbmbdenjlbelaaaIneMath4
namespace Go.Proofs.Ytbmbdenjlbelaaa
theorem sumN_dvd (T : Int) (f g : Nat → Int) : ∀ (k : Nat), (∀ i, i < k → T ∣ f i - g i) → T ∣ sumN f k - sumN g k
  | 0, _ => by simp [sumN]
  | k + 1, h => by
    have h1 := sumN_dvd T f g k (fun i hi => h i (by omega))
    have h2 := h k (by omega)
    unfold sumN
    have e : sumN f k + f k - (sumN g k + g k) = (sumN f k - sumN g k) + (f k - g k) := by omega
    rw [e]
    exact Int.dvd_add h1 h2
theorem sumN_le (f g : Nat → Int) : ∀ (k : Nat), (∀ i, i < k → f i ≤ g i) → sumN f k ≤ sumN g k
  | 0, _ => by simp [sumN]
  | k + 1, h => by
    have h1 := sumN_le f g k (fun i hi => h i (by omega))
    have h2 := h k (by omega)
    unfold sumN
    omega
theorem sumN_sub (f g : Nat → Int) (k : Nat) : sumN (fun i => f i - g i) k = sumN f k - sumN g k := by
  induction k with
  | zero => rfl
  | succ k ih => unfold sumN; rw [ih]; omega
theorem sumN_neg (f : Nat → Int) (k : Nat) : sumN (fun i => - f i) k = - sumN f k := by
  induction k with
  | zero => rfl
  | succ k ih => unfold sumN; rw [ih]; omega
theorem sumN_tel (g : Nat → Int) : ∀ m, sumN (fun k => g (k + 1) - g k) m = g m - g 0
  | 0 => by simp [sumN]
  | m + 1 => by unfold sumN; rw [sumN_tel g m]; omega
theorem sumN_cyc (g : Nat → Int) (n : Nat) (hn : 0 < n) : sumN (fun k => g ((k + 1) % n) - g k) n = 0 := by
  obtain ⟨m, rfl⟩ : ∃ m, n = m + 1 := ⟨n - 1, by omega⟩
  unfold sumN
  rw [sumN_congr _ (fun k => g (k + 1) - g k) m (fun i hi => by rw [Nat.mod_eq_of_lt (by omega)]), sumN_tel, Nat.mod_self]
  omega
theorem sumN_front (f : Nat → Int) : ∀ k, sumN f (k + 1) = f 0 + sumN (fun i => f (i + 1)) k
  | 0 => by simp [sumN]
  | k + 1 => by
    have := sumN_front f k
    show sumN f (k + 1) + f (k + 1) = f 0 + (sumN (fun i => f (i + 1)) k + f (k + 1))
    rw [this]; omega
theorem sumN_rev (f : Nat → Int) : ∀ n, sumN (fun i => f (n - 1 - i)) n = sumN f n
  | 0 => rfl
  | n + 1 => by
    rw [sumN_front]
    have e : sumN (fun i => f (n + 1 - 1 - (i + 1))) n = sumN (fun i => f (n - 1 - i)) n := sumN_congr _ _ _ (fun i hi => by congr 1; omega)
    rw [e, sumN_rev f n]
    show f (n + 1 - 1 - 0) + sumN f n = sumN f n + f n
    simp only [Nat.add_sub_cancel, Nat.sub_zero]
    omega
/-- the slack of an activity for times -/
def slk1 (T : Int) (x : List Int) (a : Act) : Int := (gi x a.tt - gi x a.fr - a.mn) % T
def slkL (T : Int) (acts : List Act) (x : List Int) : List Int := acts.map (slk1 T x)
section
variable {T : Int} {ne : Nat} {acts : List Act} {arcs signs x : List Int}
theorem slkL_gi (i : Int) (h0 : 0 ≤ i) (h1 : i < acts.length) : gi (slkL T acts x) i = slk1 T x (ag acts i) := by
  obtain ⟨i, rfl⟩ := Int.eq_ofNat_of_zero_le h0
  rw [gi_nat _ i (by simp [slkL]; omega), ag_nat acts i (by omega)]
  simp [slkL]
theorem slk1_bd (ht : 2 ≤ T) (a : Act) : 0 ≤ slk1 T x a ∧ slk1 T x a < T := ⟨Int.emod_nonneg _ (by omega), Int.emod_lt_of_pos _ (by omega)⟩
theorem slkL_ok (ht : 2 ≤ T) (ht1 : T ≤ 7200) : slOk acts (slkL T acts x) := by
  refine ⟨by simp [slkL], fun s hs => ?_⟩
  obtain ⟨a, _, rfl⟩ := List.mem_map.1 hs
  have := slk1_bd (x := x) ht a
  omega
theorem cyc_tel (hk : CycOk T ne acts arcs signs) (t : Int → Int) : sumN (fun i => gi signs i * (t (ag acts (gi arcs i)).tt - t (ag acts (gi arcs i)).fr)) arcs.length = 0 := by
  rw [← sumN_cyc (fun k => t (stC acts arcs signs k)) arcs.length (by have := hk.two; omega)]
  apply sumN_congr
  intro i hi
  show _ = t (stC acts arcs signs ((i + 1) % arcs.length)) - t (stC acts arcs signs i)
  rw [hk.cl i hi]
  unfold enC stC enE stE
  rcases (hk.arc i hi).s with h | h <;> rw [h]
  · simp
  · simp; omega
/-- forward less backward slacks -/
theorem slk_mod (hk : CycOk T ne acts arcs signs) : T ∣ sumN (slF arcs signs (slkL T acts x)) arcs.length - sumN (slB arcs signs (slkL T acts x)) arcs.length + bsS acts arcs signs := by
  have h0 := cyc_tel hk (gi x)
  rw [← sumN_sub]
  have h1 := sumN_dvd T (fun i => slF arcs signs (slkL T acts x) i - slB arcs signs (slkL T acts x) i) (fun i => gi signs i * (gi x (ag acts (gi arcs i)).tt - gi x (ag acts (gi arcs i)).fr) - bsT acts arcs signs i) arcs.length (fun i hi => by
    have ha := hk.arc i hi
    have he : T ∣ slk1 T x (ag acts (gi arcs i)) - (gi x (ag acts (gi arcs i)).tt - gi x (ag acts (gi arcs i)).fr - (ag acts (gi arcs i)).mn) := by
      unfold slk1
      have h := Int.dvd_self_sub_emod (x := gi x (ag acts (gi arcs i)).tt - gi x (ag acts (gi arcs i)).fr - (ag acts (gi arcs i)).mn) (m := T)
      have := Int.dvd_neg.2 h
      rwa [Int.neg_sub] at this
    unfold slF slB bsT
    rw [slkL_gi _ ha.a0 ha.a1]
    rcases ha.s with h | h <;> rw [h]
    · simpa using he
    · rw [if_neg (by decide), if_neg (by decide)]
      have := Int.dvd_neg.2 he
      rw [show (0 : Int) - slk1 T x (ag acts (gi arcs i)) - (-1 * (gi x (ag acts (gi arcs i)).tt - gi x (ag acts (gi arcs i)).fr) - -1 * (ag acts (gi arcs i)).mn) = -(slk1 T x (ag acts (gi arcs i)) - (gi x (ag acts (gi arcs i)).tt - gi x (ag acts (gi arcs i)).fr - (ag acts (gi arcs i)).mn)) by omega]
      exact this)
  rw [sumN_sub (fun i => gi signs i * (gi x (ag acts (gi arcs i)).tt - gi x (ag acts (gi arcs i)).fr)), h0] at h1
  unfold bsS
  rw [show ∀ a b : Int, a - (0 - b) = a + b by intros; omega] at h1
  exact h1
theorem slF_nn (ht : 2 ≤ T) (hk : CycOk T ne acts arcs signs) : 0 ≤ sumN (slF arcs signs (slkL T acts x)) arcs.length ∧ 0 ≤ sumN (slB arcs signs (slkL T acts x)) arcs.length := by
  have h1 := sumN_le (fun _ => 0) (slF arcs signs (slkL T acts x)) arcs.length (fun i hi => by
    unfold slF; rw [slkL_gi _ (hk.arc i hi).a0 (hk.arc i hi).a1]; have := slk1_bd (x := x) ht (ag acts (gi arcs i)); split <;> omega)
  have h2 := sumN_le (fun _ => 0) (slB arcs signs (slkL T acts x)) arcs.length (fun i hi => by
    unfold slB; rw [slkL_gi _ (hk.arc i hi).a0 (hk.arc i hi).a1]; have := slk1_bd (x := x) ht (ag acts (gi arcs i)); split <;> omega)
  have h3 := sumN_mul 0 (fun _ => 0) arcs.length
  simp at h3
  omega
theorem nacht_core (T r f b z : Int) (hr0 : 0 ≤ r) (hr1 : r < T) (hf : 0 ≤ f) (hb : 0 ≤ b) (h : f - b - r = T * z) : r * (T - r) ≤ (T - r) * f + r * b := by
  have p1 : 0 ≤ (T - r) * f := Int.mul_nonneg (by omega) hf
  have p2 : 0 ≤ r * b := Int.mul_nonneg hr0 hb
  by_cases hz : 0 ≤ z
  · have h1 : 0 ≤ T * z := Int.mul_nonneg (by omega) hz
    have h2 : (T - r) * r ≤ (T - r) * f := Int.mul_le_mul_of_nonneg_left (by omega) (by omega)
    rw [Int.mul_comm r (T - r)]
    omega
  · have h1 : T * z ≤ T * (-1) := Int.mul_le_mul_of_nonneg_left (by omega) (by omega)
    have h2 : r * (T - r) ≤ r * b := Int.mul_le_mul_of_nonneg_left (by omega) hr0
    omega
theorem nacht (hk : CycOk T ne acts arcs signs) : rightV T ne acts arcs signs ≤ leftR T ne acts arcs signs (slkL T acts x) := by
  have hr := res_bd hk
  have ht := hk.net.t0
  obtain ⟨hf, hb⟩ := slF_nn (x := x) ht hk
  obtain ⟨c, hc⟩ := slk_mod (x := x) hk
  have he : T ∣ -(bsS acts arcs signs) - resV T ne acts arcs signs := by
    unfold resV; rw [if_pos (cycB_yes hk)]; exact Int.dvd_self_sub_emod
  obtain ⟨d, hd⟩ := he
  unfold rightV leftR
  generalize resV T ne acts arcs signs = r at *
  generalize sumN (slF arcs signs (slkL T acts x)) arcs.length = f at *
  generalize sumN (slB arcs signs (slkL T acts x)) arcs.length = b at *
  generalize bsS acts arcs signs = bs at *
  exact nacht_core T r f b (c + d) hr.1 hr.2 hf hb (by rw [Int.mul_add]; omega)
/-- all durations are permitted -/
def feas (T : Int) (acts : List Act) (x : List Int) : Prop := ∀ a ∈ acts, a.mn + slk1 T x a ≤ a.mx
def durS (T : Int) (acts : List Act) (arcs signs x : List Int) : Int := sumN (fun i => gi signs i * ((ag acts (gi arcs i)).mn + slk1 T x (ag acts (gi arcs i)))) arcs.length
theorem durS_eq (hk : CycOk T ne acts arcs signs) : durS T acts arcs signs x = bsS acts arcs signs + (sumN (slF arcs signs (slkL T acts x)) arcs.length - sumN (slB arcs signs (slkL T acts x)) arcs.length) := by
  unfold durS bsS
  rw [← sumN_sub, ← sumN_add]
  apply sumN_congr
  intro i hi
  have ha := hk.arc i hi
  unfold slF slB bsT
  rw [slkL_gi _ ha.a0 ha.a1]
  rcases ha.s with h | h <;> rw [h]
  · simp
  · rw [if_neg (by decide), if_neg (by decide)]; omega
theorem durS_z (hk : CycOk T ne acts arcs signs) : ∃ z, durS T acts arcs signs x = z * T := by
  obtain ⟨c, hc⟩ := slk_mod (x := x) hk
  exact ⟨c, by rw [durS_eq hk, Int.mul_comm c T, ← hc]; omega⟩
theorem feas_le (hk : CycOk T ne acts arcs signs) (hf : feas T acts x) : sumN (slF arcs signs (slkL T acts x)) arcs.length ≤ fwS acts arcs signs ∧ sumN (slB arcs signs (slkL T acts x)) arcs.length ≤ bwS acts arcs signs := by
  refine ⟨sumN_le _ _ _ (fun i hi => ?_), sumN_le _ _ _ (fun i hi => ?_)⟩
  · have ha := hk.arc i hi
    have := hf _ (ag_mem acts _ ha.a0 ha.a1)
    unfold slF fwT
    rw [slkL_gi _ ha.a0 ha.a1]
    split <;> omega
  · have ha := hk.arc i hi
    have := hf _ (ag_mem acts _ ha.a0 ha.a1)
    unfold slB bwT
    rw [slkL_gi _ ha.a0 ha.a1]
    split <;> omega
theorem win_z (T a b z : Int) (ht : 1 ≤ T) (h0 : a ≤ z * T) (h1 : z * T ≤ b) : cdiv a T ≤ z ∧ z ≤ b / T := by
  refine ⟨?_, (Int.le_ediv_iff_mul_le (by omega)).2 h1⟩
  unfold cdiv
  have : -z ≤ (-a) / T := (Int.le_ediv_iff_mul_le (by omega)).2 (by rw [Int.neg_mul]; omega)
  omega
/-- the windings hold the number of periods -/
theorem odijk (hk : CycOk T ne acts arcs signs) (hf : feas T acts x) : ∃ z, durS T acts arcs signs x = z * T ∧ okW T ne acts arcs signs = true ∧ loW T acts arcs signs ≤ z ∧ z ≤ hiW T acts arcs signs := by
  obtain ⟨z, hz⟩ := durS_z (x := x) hk
  have h1 := durS_eq (x := x) hk
  have ht := hk.net.t0
  obtain ⟨hn1, hn2⟩ := slF_nn (x := x) ht hk
  obtain ⟨h2, h3⟩ := feas_le hk hf
  have hw := win_z T (bsS acts arcs signs - bwS acts arcs signs) (bsS acts arcs signs + fwS acts arcs signs) z (by omega) (by omega) (by omega)
  refine ⟨z, hz, ?_, hw.1, hw.2⟩
  unfold okW
  rw [cycB_yes hk]
  have : loW T acts arcs signs ≤ hiW T acts arcs signs := Int.le_trans hw.1 hw.2
  simpa using this
theorem odijk_law (hk : CycOk T ne acts arcs signs) (hf : feas T acts x) : okW T ne acts arcs signs = true ∧ winL T ne acts arcs signs * T ≤ durS T acts arcs signs x ∧ durS T acts arcs signs x ≤ winH T ne acts arcs signs * T := by
  obtain ⟨z, h1, h2, h3, h4⟩ := odijk hk hf
  have ht := hk.net.t0
  refine ⟨h2, ?_, ?_⟩
  · unfold winL; rw [if_pos h2, h1]; exact Int.mul_le_mul_of_nonneg_right h3 (by omega)
  · unfold winH; rw [if_pos h2, h1]; exact Int.mul_le_mul_of_nonneg_right h4 (by omega)
theorem gapF_le (T b lo hi z : Int) (ht : 1 ≤ T) (h0 : lo ≤ z) (h1 : z ≤ hi) : gapF T b lo hi ≤ dst (z * T) b := by
  have e1 := Int.mul_ediv_add_emod b T
  have e2 := Int.emod_nonneg b (show T ≠ 0 by omega)
  have e3 := Int.emod_lt_of_pos b (show 0 < T by omega)
  have e4 : T * (b / T) = (b / T) * T := Int.mul_comm _ _
  have e5 : (b / T + 1) * T = (b / T) * T + T := by rw [Int.add_mul]; omega
  unfold gapF
  by_cases h : z ≤ b / T
  · have hc : z ≤ clampI (b / T) lo hi ∧ clampI (b / T) lo hi ≤ b / T := by unfold clampI; omega
    have m1 : z * T ≤ clampI (b / T) lo hi * T := Int.mul_le_mul_of_nonneg_right hc.1 (by omega)
    have m2 : clampI (b / T) lo hi * T ≤ b / T * T := Int.mul_le_mul_of_nonneg_right hc.2 (by omega)
    unfold dst
    omega
  · have hc : clampI (b / T + 1) lo hi ≤ z ∧ b / T + 1 ≤ clampI (b / T + 1) lo hi := by unfold clampI; omega
    have m1 : clampI (b / T + 1) lo hi * T ≤ z * T := Int.mul_le_mul_of_nonneg_right hc.1 (by omega)
    have m2 : (b / T + 1) * T ≤ clampI (b / T + 1) lo hi * T := Int.mul_le_mul_of_nonneg_right hc.2 (by omega)
    unfold dst
    omega
theorem gapF_at (T b lo hi : Int) (h : lo ≤ hi) : ∃ z, lo ≤ z ∧ z ≤ hi ∧ gapF T b lo hi = dst (z * T) b := by
  unfold gapF
  by_cases h1 : dst (clampI (b / T) lo hi * T) b ≤ dst (clampI (b / T + 1) lo hi * T) b
  · exact ⟨clampI (b / T) lo hi, by unfold clampI; omega, by unfold clampI; omega, Int.min_eq_left h1⟩
  · exact ⟨clampI (b / T + 1) lo hi, by unfold clampI; omega, by unfold clampI; omega, Int.min_eq_right (by omega)⟩
theorem dst_nn (a b : Int) : 0 ≤ dst a b := by unfold dst; omega
theorem gap_law (hk : CycOk T ne acts arcs signs) (hf : feas T acts x) : okW T ne acts arcs signs = true ∧ 0 ≤ gapV T ne acts arcs signs ∧ gapV T ne acts arcs signs ≤ sumN (fun i => gi (slkL T acts x) (gi arcs i)) arcs.length := by
  obtain ⟨z, h1, h2, h3, h4⟩ := odijk hk hf
  have ht := hk.net.t0
  have hl := gapF_le T (bsS acts arcs signs) _ _ z (by omega) h3 h4
  obtain ⟨y, _, _, hy⟩ := gapF_at T (bsS acts arcs signs) (loW T acts arcs signs) (hiW T acts arcs signs) (by omega)
  have hn := dst_nn (y * T) (bsS acts arcs signs)
  have he := durS_eq (x := x) hk
  obtain ⟨n1, n2⟩ := slF_nn (x := x) ht hk
  refine ⟨h2, ?_, ?_⟩
  · unfold gapV; rw [if_pos h2]; omega
  · unfold gapV; rw [if_pos h2]
    have hs : sumN (fun i => gi (slkL T acts x) (gi arcs i)) arcs.length = sumN (slF arcs signs (slkL T acts x)) arcs.length + sumN (slB arcs signs (slkL T acts x)) arcs.length := by
      rw [← sumN_add]
      apply sumN_congr
      intro i _
      unfold slF slB
      split <;> omega
    rw [hs]
    rw [h1] at he
    unfold dst at hl
    omega
end
end Go.Proofs.Ytbmbdenjlbelaaa
