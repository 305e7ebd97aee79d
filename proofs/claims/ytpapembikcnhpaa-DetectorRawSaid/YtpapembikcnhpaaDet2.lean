import Derived.Test.YtpapembikcnhpaaDet
import Derived.Test.YtpapembikcnhpaaKeep
namespace Go.Proofs.Ytpapembikcnhpaa
open Go.RowKit

def reportF (s a b : Int) : Int := if s = 0 ∧ soundB s a b = true then (if a = 0 then 0 else 1) else 2
def resetT (s a b : Int) : Int × Int × Int := if soundB s a b then (s, a, b) else (2, 0, 0)
def resetF (s a b : Int) : Value := .agg #[.int .i64 (resetT s a b).1, .int .i64 (resetT s a b).2.1, .int .i64 (resetT s a b).2.2]

@[go_sem] theorem eqCtr (a b c a' b' c' : Int) (w : World) : (Op.equalIn 10000 26 (.agg #[.int .i64 a, .int .i64 b, .int .i64 c]) (.agg #[.int .i64 a', .int .i64 b', .int .i64 c'])).run Try.prog w = .ok (a == a' && (b == b' && c == c')) w := by
  have u3 := Try.underlying3
  have hS : Try.prog.underlying 26 = some (.struct (Try.prog.fieldsOf 26)) := by kernel_rfl
  rw [show (10000 : Nat) = 9999 + 1 from rfl, run_equalIn_agg w 9999 26 _ _ hS (by kernel_rfl)]
  simp only [Program.fieldsOf, Try.underlying26]
  go_simp
  by_cases h1 : a = a' <;> by_cases h2 : b = b' <;> by_cases h3 : c = c' <;> simp [h1, h2, h3]

set_option maxHeartbeats 800000 in
theorem report_any (s a b : Int) (w : World) :
    Calls Try.prog 15 #[.agg #[.int .i64 s, .int .i64 a, .int .i64 b]] w fun e w' => e = .returned (.int .i64 (reportF s a b)) ∧ Below w.heap.size w w' := by
  by_cases h0 : s = 0
  · subst h0
    by_cases hs : soundB 0 a b = true
    · go_enter Try.func15, Try.ntmps15
      go_wp2_with (first | (go_at_call 26; refine (sound_any _ _ _ _).mono ?_; rintro e w' ⟨rfl, rfl⟩))
      all_goals
        go_ret
        refine ⟨ret_int ?_, (by repeat (first | exact Below.refl _ _ | assumption | refine Below.drew ?_ | refine Below.alloc ?_ (by simp; try omega) _ | refine Below.setCell ?_ (by simp; try omega) _))⟩
        simp_all [reportF]
    · have hs' : soundB 0 a b = false := by simpa using hs
      clear hs
      go_enter Try.func15, Try.ntmps15
      go_wp2_with (first | (go_at_call 26; refine (sound_any _ _ _ _).mono ?_; rintro e w' ⟨rfl, rfl⟩))
      all_goals
        go_ret
        refine ⟨ret_int ?_, (by repeat (first | exact Below.refl _ _ | assumption | refine Below.drew ?_ | refine Below.alloc ?_ (by simp; try omega) _ | refine Below.setCell ?_ (by simp; try omega) _))⟩
        simp_all [reportF]
  · have h1 : (s != 0) = true := by simpa using h0
    go_enter Try.func15, Try.ntmps15
    go_wp2_with (first | (go_at_call 26; refine (sound_any _ _ _ _).mono ?_; rintro e w' ⟨rfl, rfl⟩))
    all_goals
      go_ret
      refine ⟨ret_int ?_, (by repeat (first | exact Below.refl _ _ | assumption | refine Below.drew ?_ | refine Below.alloc ?_ (by simp; try omega) _ | refine Below.setCell ?_ (by simp; try omega) _))⟩
      simp_all [reportF]

set_option maxHeartbeats 800000 in
theorem reset_any (s a b : Int) (w : World) :
    Calls Try.prog 18 #[.agg #[.int .i64 s, .int .i64 a, .int .i64 b]] w fun e w' => e = .returned (resetF s a b) ∧ Below w.heap.size w w' := by
  cases hs : soundB s a b
  all_goals
    go_enter Try.func18, Try.ntmps18
    go_wp2_with (first | (go_at_call 26; refine (sound_any _ _ _ _).mono ?_; rintro e w' ⟨rfl, rfl⟩))
    all_goals
      refine bodyPost_ret (v := resetF s a b) ?_ rfl ⟨rfl, (by repeat (first | exact Below.refl _ _ | assumption | refine Below.drew ?_ | refine Below.alloc ?_ (by simp; try omega) _ | refine Below.setCell ?_ (by simp; try omega) _))⟩
      simp [results, Try.results18, go_sem, resetF, resetT, hs]

set_option maxHeartbeats 800000 in
theorem awake_any (w : World) : Calls Try.prog 16 #[] w fun e w' => e = .returned (.bool true) ∧ Below w.heap.size w w' := by
  go_enter Try.func16, Try.ntmps16
  go_wp2_with fail
  refine (feed_any _ _ _ _ _ _ _ _).mono ?_
  rintro e w1 ⟨rfl, hb1⟩
  rw [show feedF 0 0 0 true 4 4 = (0, 4) by decide]
  simp only [ctr]
  go_wp2_with fail
  refine (feed_any _ _ _ _ _ _ _ _).mono ?_
  rintro e w2 ⟨rfl, hb2⟩
  rw [show feedF 0 4 4 false 4 3 = (1, 0) by decide]
  simp only [ctr]
  obtain ⟨hc2, hf2⟩ := bcell hb2
  have z2 : w1.heap.size < w2.heap.size := by have := hb2.size; simp at this; omega
  go_wp2_with fail
  refine (report_any _ _ _ _).mono ?_
  rintro e w3 ⟨rfl, hb3⟩
  rw [show reportF 0 4 4 = 1 by decide]
  obtain ⟨hc3, hf3⟩ := bcell hb3
  have z3 : w2.heap.size < w3.heap.size := by have := hb3.size; simp at this; omega
  have z3' : w1.heap.size < w3.heap.size := by omega
  go_wp2_with fail
  refine (report_any _ _ _ _).mono ?_
  rintro e w4 ⟨rfl, hb4⟩
  rw [show reportF 1 0 0 = 2 by decide]
  go_wp2_with fail
  go_ret
  refine ⟨rfl, ?_⟩
  have z1 := hb1.size
  refine (hb1.alloc z1 _).trans ((hb2.mono (by simp; omega)).trans (((Below.refl _ _).alloc ?_ _).trans ((hb3.mono (by simp; omega)).trans (hb4.mono (by omega)))))
  omega
end Go.Proofs.Ytpapembikcnhpaa
