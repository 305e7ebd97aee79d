import Derived.Test.YtcgamkldlmmdnaaIne3
import Derived.Test.YtcgamkldlmmdnaaBunM
namespace Go.Proofs.Ytcgamkldlmmdnaa
open Go.RowKit

theorem ret_pair {a b : Int} (h : a = b) : Ending.returned (.tuple #[.int .i64 a, .int .i64 0]) = .returned (.tuple #[.int .i64 b, .int .i64 0]) := by rw [h]
set_option maxHeartbeats 800000 in
theorem floor_any (a b : Int) (w : World) (hb : 1 ≤ b) (ha0 : -1000000000000 ≤ a) (ha1 : a ≤ 1000000000000) : Calls Try.prog 43 #[.int .i64 a, .int .i64 b] w fun e w' => e = .returned (.tuple #[.int .i64 (a / b), .int .i64 0]) ∧ w = w' := by
  have hex := tm_ex a b hb
  have hbd := td_bd a b hb
  by_cases h : 0 ≤ a
  · have h1 : 0 ≤ a % b := Int.emod_nonneg a (by omega)
    have h2 : decide (a % b < 0) = false := by simpa using h1
    clear hex hbd
    go_enter Try.func43, Try.ntmps43
    go_wp2_with fail
    go_ret2
    exact ⟨rfl, rfl⟩
  · obtain ⟨hb1, hb2⟩ := hbd.2 (by omega)
    by_cases hr : a.tmod b < 0
    · have e := (hex.2.1 hr).2
      have E := Lib.hid e
      have h2 : decide (a.tmod b < 0) = true := by simpa using hr
      clear hex hbd e
      go_enter Try.func43, Try.ntmps43
      go_wp2_with fail
      go_ret2
      exact ⟨ret_pair E.out, rfl⟩
    · have e := (hex.1 (by omega)).2
      have E := Lib.hid e
      have h2 : decide (a.tmod b < 0) = false := by simpa using hr
      clear hex hbd e
      go_enter Try.func43, Try.ntmps43
      go_wp2_with fail
      go_ret2
      exact ⟨ret_pair E.out, rfl⟩
set_option maxHeartbeats 800000 in
theorem ceil_any (a b : Int) (w : World) (hb : 1 ≤ b) (ha0 : -1000000000000 ≤ a) (ha1 : a ≤ 1000000000000) : Calls Try.prog 42 #[.int .i64 a, .int .i64 b] w fun e w' => e = .returned (.tuple #[.int .i64 (cdiv a b), .int .i64 0]) ∧ w = w' := by
  have hex := cdiv_ex a b hb
  have hbd := td_bd a b hb
  by_cases h : 0 ≤ a
  · have e0 : a.tdiv b = a / b := Int.tdiv_eq_ediv_of_nonneg h
    have e1 : a.tmod b = a % b := Int.tmod_eq_emod_of_nonneg h
    have hbd := hbd.1 h
    rw [e0] at hbd hex
    rw [e1] at hex
    obtain ⟨hb1, hb2⟩ := hbd
    clear e0 e1
    by_cases hr : 0 < a % b
    · have E := Lib.hid (hex.1 hr)
      have h2 : decide (0 < a % b) = true := by simpa using hr
      clear hex
      go_enter Try.func42, Try.ntmps42
      go_wp2_with fail
      go_ret2
      exact ⟨ret_pair (by first | exact E.out | (rw [Int.tdiv_eq_ediv_of_nonneg h]; exact E.out)), rfl⟩
    · have E := Lib.hid (hex.2 (by omega))
      have h2 : decide (0 < a % b) = false := by simpa using hr
      clear hex
      go_enter Try.func42, Try.ntmps42
      go_wp2_with fail
      go_ret2
      exact ⟨ret_pair (by first | exact E.out | (rw [Int.tdiv_eq_ediv_of_nonneg h]; exact E.out)), rfl⟩
  · obtain ⟨hb1, hb2⟩ := hbd.2 (by omega)
    by_cases hr : 0 < a.tmod b
    · have E := Lib.hid (hex.1 hr)
      have h2 : decide (0 < a.tmod b) = true := by simpa using hr
      clear hex hbd
      go_enter Try.func42, Try.ntmps42
      go_wp2_with fail
      go_ret2
      exact ⟨ret_pair E.out, rfl⟩
    · have E := Lib.hid (hex.2 (by omega))
      have h2 : decide (0 < a.tmod b) = false := by simpa using hr
      clear hex hbd
      go_enter Try.func42, Try.ntmps42
      go_wp2_with fail
      go_ret2
      exact ⟨ret_pair E.out, rfl⟩
set_option maxHeartbeats 800000 in
theorem mod_any (a b : Int) (w : World) (hb : 1 ≤ b) (hb1 : b ≤ 1000000000000) : Calls Try.prog 47 #[.int .i64 a, .int .i64 b] w fun e w' => e = .returned (.int .i64 (a % b)) ∧ w = w' := by
  have hex := tm_ex a b hb
  by_cases h : 0 ≤ a
  · have h1 : 0 ≤ a % b := Int.emod_nonneg a (by omega)
    have h2 : decide (a % b < 0) = false := by simpa using h1
    clear hex
    go_enter Try.func47, Try.ntmps47
    go_wp2_with fail
    go_ret
    exact ⟨rfl, rfl⟩
  · obtain ⟨_, _, hb2, hb3⟩ := hex
    by_cases hr : a.tmod b < 0
    · have E := Lib.hid ((tm_ex a b hb).2.1 hr).1
      have h2 : decide (a.tmod b < 0) = true := by simpa using hr
      go_enter Try.func47, Try.ntmps47
      go_wp2_with fail
      go_ret
      exact ⟨ret_int (by first | exact E.out | rfl), rfl⟩
    · have E := Lib.hid ((tm_ex a b hb).1 (by omega)).1
      have h2 : decide (a.tmod b < 0) = false := by simpa using hr
      go_enter Try.func47, Try.ntmps47
      go_wp2_with fail
      go_ret
      exact ⟨ret_int (by first | exact E.out | rfl), rfl⟩
end Go.Proofs.Ytcgamkldlmmdnaa
