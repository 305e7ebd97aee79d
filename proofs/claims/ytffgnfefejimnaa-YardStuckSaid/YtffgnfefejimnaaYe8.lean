import Derived.Test.YtffgnfefejimnaaYe5
namespace Go.Proofs.Ytffgnfefejimnaa
open Go.RowKit
/-- with the greatest budget every beginning is decided; what stuck answers -/
theorem stuck_full {T : List Tk} {M : List Mv} (hc : chkY T M = true) (hT : T.length ≤ 4) (hM : M.length ≤ 7) :
    ∃ k : Nat, stuckF T M 1048576 = (k, 0) ∧ k ≤ M.length ∧ (k ≠ 0 → (planF T (M.take k) 1048576).2.2 = 14) ∧ (planF T (M.take (if k = 0 then M.length else k - 1)) 1048576).2.2 = 0 := by
  have hck : ∀ k, chkY T (M.take k) = true := fun k => by
    obtain ⟨⟨h1, h8, h24⟩, hTk, hMv⟩ := chkY_iff.1 hc
    exact chkY_iff.2 ⟨⟨h1, h8, by rw [List.length_take]; omega⟩, hTk, fun m hm => hMv m (List.mem_of_mem_take hm)⟩
  have hp : ∀ k, (planF T (M.take k) 1048576).2.2 = 0 ∨ (planF T (M.take k) 1048576).2.2 = 14 := fun k => by
    rcases plan_full (hck k) hT (by rw [List.length_take]; omega) with h | h
    · exact .inl h.1
    · exact .inr h.1
  have h0 : (planF T (M.take 0) 1048576).2.2 = 0 := by
    have : planF T (M.take 0) 1048576 = planR (srchY T 1048576 [] (begY T) 0) := by
      unfold planF
      rw [if_pos (hck 0), if_pos (by omega)]
      rfl
    rw [this]
    rfl
  have key : ∀ n j, 1 ≤ j → j + n = M.length + 1 → (planF T (M.take (j - 1)) 1048576).2.2 = 0 → ∃ k : Nat, stuckG T M 1048576 n j = (k, 0) ∧ k ≤ M.length ∧ (k ≠ 0 → (planF T (M.take k) 1048576).2.2 = 14) ∧ (planF T (M.take (if k = 0 then M.length else k - 1)) 1048576).2.2 = 0 := by
    intro n
    induction n with
    | zero =>
      intro j h1 hj hz
      refine ⟨0, rfl, Nat.zero_le _, fun h => absurd rfl h, ?_⟩
      rw [if_pos rfl]
      rw [show j - 1 = M.length by omega] at hz
      exact hz
    | succ n ih =>
      intro j h1 hj hz
      simp only [stuckG]
      rcases hp j with h | h
      · rw [if_pos h]
        exact ih (j + 1) (by omega) (by omega) (by simpa using h)
      · rw [if_neg (by omega), if_pos h]
        refine ⟨j, rfl, by omega, fun _ => h, ?_⟩
        rw [if_neg (by omega)]
        exact hz
  obtain ⟨k, h1, h2⟩ := key M.length 1 (by omega) (by omega) h0
  refine ⟨k, ?_, h2⟩
  unfold stuckF
  rw [if_pos hc, if_pos (by omega)]
  exact h1
set_option maxRecDepth 100000 in
set_option maxHeartbeats 3200000 in
theorem ylstuck_true (A0 : Option Addr) (n0 c0 : Nat) (z0 : List Int) (w : World) (h0 : Rd w w.heap.size 1 A0 n0 (z0.map (Value.int .i64))) (m0 : n0 ≤ c0 ∧ c0 ≤ maxLen ∧ c0 * 8 ≤ 140737488351232) :
    Calls Try.prog 11 #[.slice A0 n0 c0] w fun e w' => e = .returned (.bool true) ∧ Below w.heap.size w w' := by
  have H0 := Lib.hid h0
  have hm0 : n0 ≤ maxLen := by omega
  have M0 := Lib.hid hm0
  clear h0 m0 hm0
  go_enter Try.func11, Try.ntmps11
  go_wp2_with fail
  refine (yard_any A0 n0 c0 z0 w H0.out M0.out).mono ?_
  rintro e w1 ⟨A, B, cA, cB, T, M, rfl, h1, h3, h7, hT, hM, hoT, hoM, hb1⟩
  have HTr := Lib.hid (trd (Rd.of_own hoT) (by omega))
  have HMr := Lib.hid (mrd (Rd.of_own hoM) (by omega))
  have hcap := (own_cap hoM).1
  have HBs : (B = none ∧ M.length = 0 ∧ cB = 0) ∨ ∃ g, B = some ⟨g, 0, none⟩ := by
    rcases hoM.2 with ⟨hv, _⟩ | ⟨g, cap, cur, hv, _⟩
    · injection hv with a b c; exact .inl ⟨a, b, c⟩
    · injection hv with a; exact .inr ⟨g, a⟩
  have HB1 := Lib.hid hb1
  have HCk := Lib.hid (chk_of h1 (by omega) (fun t ht => by have := hT t ht; unfold YgT at this; omega) (by omega) hM)
  clear hT hM hoT hoM hb1
  obtain ⟨k, hk1, hk2, hk3, hk4⟩ := stuck_full HCk.out (by omega) h7
  have HK1 := Lib.hid hk1
  have HK3 := Lib.hid hk3
  have HK4 := Lib.hid hk4
  clear hk1 hk3 hk4
  go_wp2_with fail
  refine (stuck_at HK1.out HTr.out HMr.out hcap rfl rfl).mono ?_
  rintro e w2 ⟨rfl, hb2⟩
  have HB2 := Lib.hid (HB1.out.trans (hb2.mono HB1.out.size))
  have HT2 := Lib.hid (HTr.out.grow hb2)
  have HM2 := Lib.hid (HMr.out.grow hb2)
  clear hb2 HB1 HTr HMr
  have hk0 : (0 : Int) ≤ (k : Int) := by omega
  have hkM : (k : Int) ≤ (M.length : Int) := by omega
  have hkc : (k : Int) ≤ (cB : Int) := by omega
  have d1 : decide ((k : Int) < 0) = false := decide_eq_false (by omega)
  have d2 : decide ((M.length : Int) < (k : Int)) = false := decide_eq_false (by omega)
  by_cases hkz : k = 0
  · subst hkz
    have h4 := HK4.out
    rw [if_pos rfl, List.take_length] at h4
    obtain ⟨⟨l1, u1, r1⟩, hp1⟩ : ∃ r, planF T M 1048576 = r := ⟨_, rfl⟩
    rw [hp1] at h4
    simp only at h4
    subst h4
    have HP1 := Lib.hid hp1
    clear hp1 HK1 HK3 HK4 hk0 hkM hkc d1 d2
    have hMc : (M.length : Int) ≤ (cB : Int) := by omega
    have hM0 : (0 : Int) ≤ (M.length : Int) := by omega
    have hwl : IntKind.i64.wrap (M.length : Int) = (M.length : Int) := IntWalk.i64_in _ (by omega)
    have hwl2 : IntKind.i64.wrap ((M.length : Int) + 1) = (M.length : Int) + 1 := IntWalk.i64_in _ (by omega)
    rcases HBs with ⟨rfl, hm0, rfl⟩ | ⟨g, rfl⟩
    · obtain rfl : M = [] := List.eq_nil_of_length_eq_zero hm0
      clear hm0 hMc hM0 hwl hwl2
      go_wp2_with fail
      refine (rplan_at HP1.out HT2.out HM2.out rfl rfl).mono ?_
      rintro e w4 ⟨A4, c4, rfl, hb4, _, _⟩
      have HB4 := Lib.hid (HB2.out.trans (hb4.mono HB2.out.size))
      clear hb4
      go_wp2_with fail
      refine (awake_any w4).mono ?_
      rintro e w5 ⟨rfl, hb5⟩
      have HB5 := Lib.hid (HB4.out.trans (hb5.mono HB4.out.size))
      clear hb5
      go_wp2_with fail
      go_ret
      exact ⟨rfl, HB5.out⟩
    · go_wp2_with fail
      refine (rplan_at HP1.out HT2.out HM2.out rfl rfl).mono ?_
      rintro e w4 ⟨A4, c4, rfl, hb4, _, _⟩
      have HB4 := Lib.hid (HB2.out.trans (hb4.mono HB2.out.size))
      clear hb4
      go_wp2_with fail
      refine (awake_any w4).mono ?_
      rintro e w5 ⟨rfl, hb5⟩
      have HB5 := Lib.hid (HB4.out.trans (hb5.mono HB4.out.size))
      clear hb5
      go_wp2_with fail
      go_ret
      exact ⟨rfl, HB5.out⟩
  · obtain ⟨j, rfl⟩ : ∃ j, k = j + 1 := ⟨k - 1, by omega⟩
    have h4 := HK4.out
    rw [if_neg hkz, Nat.add_sub_cancel] at h4
    obtain ⟨⟨l1, u1, r1⟩, hp1⟩ : ∃ r, planF T (M.take j) 1048576 = r := ⟨_, rfl⟩
    rw [hp1] at h4
    simp only at h4
    subst h4
    have h3 := HK3.out hkz
    obtain ⟨⟨l2, u2, r2⟩, hp2⟩ : ∃ r, planF T (M.take (j + 1)) 1048576 = r := ⟨_, rfl⟩
    rw [hp2] at h3
    simp only at h3
    subst h3
    have HP1 := Lib.hid hp1
    have HP2 := Lib.hid hp2
    have hl1 : (M.take j).length = j := by rw [List.length_take]; omega
    have hl2 : (M.take (j + 1)).length = j + 1 := by rw [List.length_take]; omega
    have HL1 := Lib.hid hl1
    have HL2 := Lib.hid hl2
    have HMa := Lib.hid (HM2.out.take (k := j + 1) (by omega))
    have HMb := Lib.hid (HM2.out.take (k := j) (by omega))
    obtain ⟨g, rfl⟩ := HBs.resolve_left (fun h => by omega)
    have hcB : ¬ cB = 0 := by omega
    have e0 : (0 : Int) ≤ (j : Int) + 1 := by omega
    have e1 : (j : Int) + 1 ≤ (cB : Int) := by omega
    have e2 : (0 : Int) ≤ (j : Int) := by omega
    have e3 : (j : Int) ≤ (cB : Int) := by omega
    have e4 : IntKind.i64.wrap (j : Int) = (j : Int) := IntWalk.i64_in _ (by omega)
    have e5 : decide ((j : Int) + 1 < 0) = false := decide_eq_false (by omega)
    have e6 : decide ((M.length : Int) < (j : Int) + 1) = false := decide_eq_false (by omega)
    have e7 : decide ((0 : Int) < (j : Int) + 1) = true := decide_eq_true (by omega)
    have e8 : ((j : Int) + 1 == 0) = false := by simp; omega
    clear hp1 hp2 HK1 HK3 HK4 hk0 hkM hkc d1 d2 hl1 hl2 HBs
    go_wp2_with fail
    refine (rplan_at HP2.out HT2.out HMa.out rfl HL2.out).mono ?_
    rintro e w3 ⟨A3, c3, rfl, hb3, _, _⟩
    have HB3 := Lib.hid (HB2.out.trans (hb3.mono HB2.out.size))
    have HT3 := Lib.hid (HT2.out.grow hb3)
    have HM3 := Lib.hid (HMb.out.grow hb3)
    clear hb3 HB2 HT2 HM2 HMa HMb
    go_wp2_with fail
    have HB2 := HB3
    refine (rplan_at HP1.out HT3.out HM3.out rfl HL1.out).mono ?_
    rintro e w4 ⟨A4, c4, rfl, hb4, _, _⟩
    have HB4 := Lib.hid (HB2.out.trans (hb4.mono HB2.out.size))
    clear hb4
    go_wp2_with fail
    refine (awake_any w4).mono ?_
    rintro e w5 ⟨rfl, hb5⟩
    have HB5 := Lib.hid (HB4.out.trans (hb5.mono HB4.out.size))
    clear hb5
    go_wp2_with fail
    go_ret
    exact ⟨rfl, HB5.out⟩
end Go.Proofs.Ytffgnfefejimnaa
