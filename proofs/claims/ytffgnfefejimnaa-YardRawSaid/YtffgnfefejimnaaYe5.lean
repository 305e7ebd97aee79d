import Derived.Test.YtffgnfefejimnaaYr9
import Derived.Test.YtffgnfefejimnaaYe2
namespace Go.Proofs.Ytffgnfefejimnaa
open Go.RowKit
theorem planF_rng {T : List Tk} {M : List Mv} {b : Int} (hc : chkY T M = true) (hb : ¬ (1 ≤ b ∧ b ≤ 1048576)) : planF T M b = ([], 0, 4) := by unfold planF; rw [if_pos hc, if_neg hb]
theorem plan_len {T : List Tk} {M : List Mv} {b : Int} (hM : M.length ≤ 24) : (planF T M b).1.length ≤ 24 := by
  unfold planF
  split
  · split
    · rename_i hb
      obtain ⟨_, _, hc, hl⟩ := srch_bd T b.toNat M (begY T) 0 (by omega)
      unfold planR
      split
      · rename_i h0; simp only; rw [hl h0]; exact hM
      · split <;> simp
    · simp
  · simp
set_option maxRecDepth 100000 in
set_option maxHeartbeats 3200000 in
theorem ylplan_true (A0 : Option Addr) (n0 c0 : Nat) (z0 : List Int) (a1 : Int) (w : World) (h0 : Rd w w.heap.size 1 A0 n0 (z0.map (Value.int .i64))) (m0 : n0 ≤ c0 ∧ c0 ≤ maxLen ∧ c0 * 8 ≤ 140737488351232) (_w1 : (Lit.int .i64 a1).wf = true) :
    Calls Try.prog 3 #[.slice A0 n0 c0, .int .i64 a1] w fun e w' => e = .returned (.bool true) ∧ Below w.heap.size w w' := by
  have H0 := Lib.hid h0
  have hm0 : n0 ≤ maxLen := by omega
  have M0 := Lib.hid hm0
  clear h0 m0 hm0 _w1
  go_enter Try.func3, Try.ntmps3
  go_wp2_with fail
  refine (yard_any A0 n0 c0 z0 w H0.out M0.out).mono ?_
  rintro e w1 ⟨A, B, cA, cB, T, M, rfl, h1, h3, h7, hT, hM, hoT, hoM, hb1⟩
  have HTr := Lib.hid (trd (Rd.of_own hoT) (by omega))
  have HMr := Lib.hid (mrd (Rd.of_own hoM) (by omega))
  have HB1 := Lib.hid hb1
  have HCk := Lib.hid (chk_of h1 (by omega) (fun t ht => by have := hT t ht; unfold YgT at this; omega) (by omega) hM)
  clear hT hM hoT hoM hb1
  obtain ⟨i, hi, hil⟩ := pick_nat a1 (n := 2000) (by omega) (by omega)
  have HPi := Lib.hid hi
  clear hi
  go_wp2_with fail
  refine (pickB w1 (by omega) (by omega) HPi.out).mono ?_
  rintro e w2 ⟨rfl, hb2⟩
  have HB2 := Lib.hid (HB1.out.trans (hb2.mono HB1.out.size))
  have HT2 := Lib.hid (HTr.out.grow hb2)
  have HM2 := Lib.hid (HMr.out.grow hb2)
  have hil0 : (0 : Int) ≤ (i : Int) := by omega
  clear hb2 HB1 HTr HMr
  obtain ⟨⟨l1, u1, r1⟩, hp1⟩ : ∃ r, planF T M (1 + (i : Int)) = r := ⟨_, rfl⟩
  have HP1 := Lib.hid hp1
  have hl1 : l1.length ≤ 24 := by have := plan_len (T := T) (b := 1 + (i : Int)) (show M.length ≤ 24 by omega); rw [hp1] at this; exact this
  clear hp1
  go_wp2_with fail
  refine (plan_at HP1.out HT2.out HM2.out rfl rfl).mono ?_
  rintro e w3 ⟨A3, c3, rfl, hb3, ho3, _⟩
  have HB3 := Lib.hid (HB2.out.trans (hb3.mono HB2.out.size))
  have HT3 := Lib.hid (HT2.out.grow hb3)
  have HM3 := Lib.hid (HM2.out.grow hb3)
  have HO3 := Lib.hid ho3
  clear hb3 ho3 HB2 HT2 HM2
  go_wp2_with fail
  refine (rplan_at HP1.out HT3.out HM3.out rfl rfl).mono ?_
  rintro e w4 ⟨A4, c4, rfl, hb4, ho4, _⟩
  have HB4 := Lib.hid (HB3.out.trans (hb4.mono HB3.out.size))
  have HT4 := Lib.hid (HT3.out.grow hb4)
  have HM4 := Lib.hid (HM3.out.grow hb4)
  have HO4 := Lib.hid ((HO3.out.grow hb4).more hb4.size)
  have HQ4 := Lib.hid ho4
  clear hb4 ho4 HB3 HT3 HM3 HO3
  go_wp2_with fail
  refine (plan_at (planF_rng (b := 0) HCk.out (by omega)) HT4.out HM4.out rfl rfl).mono ?_
  rintro e w5 ⟨A5, c5, rfl, hb5, _, _⟩
  have HB5 := Lib.hid (HB4.out.trans (hb5.mono HB4.out.size))
  have HT5 := Lib.hid (HT4.out.grow hb5)
  have HM5 := Lib.hid (HM4.out.grow hb5)
  have HO5 := Lib.hid ((HO4.out.grow hb5).more hb5.size)
  have HQ5 := Lib.hid ((HQ4.out.grow hb5).more hb5.size)
  clear hb5 HB4 HT4 HM4 HO4 HQ4
  go_wp2_with fail
  refine (plan_at (planF_rng (b := 1048577) HCk.out (by omega)) HT5.out HM5.out rfl rfl).mono ?_
  rintro e w6 ⟨A6, c6, rfl, hb6, _, _⟩
  have HB6 := Lib.hid (HB5.out.trans (hb6.mono HB5.out.size))
  have HT6 := Lib.hid (HT5.out.grow hb6)
  have HM6 := Lib.hid (HM5.out.grow hb6)
  have HO6 := Lib.hid ((HO5.out.grow hb6).more hb6.size)
  have HQ6 := Lib.hid ((HQ5.out.grow hb6).more hb6.size)
  clear hb6 HB5 HT5 HM5 HO5 HQ5
  go_wp2_with fail
  refine (awake_any w6).mono ?_
  rintro e w7 ⟨rfl, hb7⟩
  have HB7 := Lib.hid (HB6.out.trans (hb7.mono HB6.out.size))
  have HT7 := Lib.hid (HT6.out.grow hb7)
  have HM7 := Lib.hid (HM6.out.grow hb7)
  have HO7 := Lib.hid ((HO6.out.grow hb7).more hb7.size)
  have HQ7 := Lib.hid ((HQ6.out.grow hb7).more hb7.size)
  clear hb7 HB6 HT6 HM6 HO6 HQ6
  go_wp2_with fail
  refine (check_any A B cA cB T M w7 HT7.out HM7.out).mono ?_
  rintro e w8 ⟨rfl, hb8⟩
  have HB8 := Lib.hid (HB7.out.trans (hb8.mono HB7.out.size))
  have HO8 := Lib.hid ((HO7.out.grow hb8).more hb8.size)
  have HQ8 := Lib.hid ((HQ7.out.grow hb8).more hb8.size)
  clear hb8 HB7 HT7 HM7 HO7 HQ7
  rw [HCk.out]
  go_wp2_with fail
  refine (sameN A3 A4 c3 c4 l1 w8 HO8.out HQ8.out (by omega)).mono ?_
  rintro e w9 ⟨rfl, hb9⟩
  have HB9 := Lib.hid (HB8.out.trans (hb9.mono HB8.out.size))
  clear hb9
  go_wp2_with fail
  go_ret
  exact ⟨rfl, HB9.out⟩
end Go.Proofs.Ytffgnfefejimnaa
