import Derived.Test.YtpapembikcnhpaaRows
import Derived.WalkKit
import Derived.WalkSpells
import Derived.WalkLawsBesides
import Derived.WalkSmall
import Derived.Deep.QuietTactic
import Derived.BigQuiet
import Derived.Lib.Hide
import Derived.Test.YtpapembikcnhpaaKeep
namespace Go.Proofs.Ytpapembikcnhpaa
open Go.RowKit

def soundB (s a b : Int) : Bool := decide ((s = 0 ∨ s = 2) ∧ a = b ∧ 0 ≤ a ∧ a ≤ 1600)
def cleanB (a b : Int) : Bool := decide (a = b ∧ 1 ≤ a ∧ a ≤ 400)

/-- a counter as a value -/
def ctr (p : Int × Int) : Value := .agg #[.int .i64 p.1, .int .i64 p.2, .int .i64 p.2]
theorem ret_ctr {s x : Int} {p : Int × Int} (h : p = (s, x)) : Ending.returned (.agg #[.int .i64 s, .int .i64 x, .int .i64 x]) = .returned (ctr p) := by rw [h]; rfl

/-- what Feed gives: (state, count); both channels hold the count -/
def feedF (s a b : Int) (i : Bool) (pa pb : Int) : Int × Int :=
  if soundB s a b && cleanB pa pb then
    let x := if i then a + pa else a - pa
    if x < 0 ∨ 1600 < x then (1, 0) else if s = 2 ∧ i = false ∧ x = 0 then (0, 0) else (s, x)
  else (1, 0)

set_option maxHeartbeats 400000 in
theorem sound_any (s a b : Int) (w : World) :
    Calls Try.prog 26 #[.agg #[.int .i64 s, .int .i64 a, .int .i64 b]] w fun e w' => e = .returned (.bool (soundB s a b)) ∧ w.alloc (.cells #[.int .i64 s, .int .i64 a, .int .i64 b] 26) = w' := by
  go_enter Try.func26, Try.ntmps26
  go_wp2
  all_goals
    go_ret
    refine ⟨ret_bool ?_, by first | rfl | (simp_all; done)⟩
    unfold soundB
    simp_all
    try omega

set_option maxHeartbeats 400000 in
theorem clean_any (r : Int) (i : Bool) (a b : Int) (w : World) :
    Calls Try.prog 27 #[.agg #[.int .i64 r, .bool i, .int .i64 a, .int .i64 b]] w fun e w' => e = .returned (.bool (cleanB a b)) ∧ w.alloc (.cells #[.int .i64 r, .bool i, .int .i64 a, .int .i64 b] 31) = w' := by
  go_enter Try.func27, Try.ntmps27
  go_wp2
  all_goals
    go_ret
    refine ⟨ret_bool ?_, by first | rfl | (simp_all; done)⟩
    unfold cleanB
    simp_all
    try omega

theorem soundB_iff {s a b : Int} (h : soundB s a b = true) : (s = 0 ∨ s = 2) ∧ a = b ∧ 0 ≤ a ∧ a ≤ 1600 := by simpa [soundB] using h
theorem cleanB_iff {a b : Int} (h : cleanB a b = true) : a = b ∧ 1 ≤ a ∧ a ≤ 400 := by simpa [cleanB] using h

set_option maxHeartbeats 800000 in
theorem feed_any (s a b r : Int) (i : Bool) (pa pb : Int) (w : World) :
    Calls Try.prog 14 #[.agg #[.int .i64 s, .int .i64 a, .int .i64 b], .agg #[.int .i64 r, .bool i, .int .i64 pa, .int .i64 pb]] w fun e w' => e = .returned (ctr (feedF s a b i pa pb)) ∧ Below w.heap.size w w' := by
  by_cases hs : soundB s a b = true
  · by_cases hc : cleanB pa pb = true
    · obtain ⟨h1, h2, h3, h4⟩ := soundB_iff hs
      obtain ⟨h5, h6, h7⟩ := cleanB_iff hc
      subst h2 h5
      cases i
      all_goals
        go_enter Try.func14, Try.ntmps14
        go_wp2_with (first | (go_at_call 26; refine (sound_any _ _ _ _).mono ?_; rintro e w' ⟨rfl, rfl⟩) | (go_at_call 27; refine (clean_any _ _ _ _ _).mono ?_; rintro e w' ⟨rfl, rfl⟩))
        all_goals
          refine bodyPost_ret (v := ctr (feedF _ _ _ _ _ _)) ?_ rfl ⟨rfl, (by repeat (first | exact Below.refl _ _ | assumption | refine Below.drew ?_ | refine Below.alloc ?_ (by simp; try omega) _ | refine Below.setCell ?_ (by simp; try omega) _))⟩
          simp [results, Try.results14, go_sem, ctr]
          simp_all [feedF]
          try ((repeat' split) <;> simp_all <;> omega)
    · have hc' : cleanB pa pb = false := by simpa using hc
      clear hc
      go_enter Try.func14, Try.ntmps14
      go_wp2_with (first | (go_at_call 26; refine (sound_any _ _ _ _).mono ?_; rintro e w' ⟨rfl, rfl⟩) | (go_at_call 27; refine (clean_any _ _ _ _ _).mono ?_; rintro e w' ⟨rfl, rfl⟩))
      refine bodyPost_ret (v := ctr (feedF _ _ _ _ _ _)) ?_ rfl ⟨rfl, (by repeat (first | exact Below.refl _ _ | assumption | refine Below.drew ?_ | refine Below.alloc ?_ (by simp; try omega) _ | refine Below.setCell ?_ (by simp; try omega) _))⟩
      simp [results, Try.results14, go_sem, ctr]
      simp_all [feedF]
  · have hs' : soundB s a b = false := by simpa using hs
    clear hs
    go_enter Try.func14, Try.ntmps14
    go_wp2_with (first | (go_at_call 26; refine (sound_any _ _ _ _).mono ?_; rintro e w' ⟨rfl, rfl⟩) | (go_at_call 27; refine (clean_any _ _ _ _ _).mono ?_; rintro e w' ⟨rfl, rfl⟩))
    refine bodyPost_ret (v := ctr (feedF _ _ _ _ _ _)) ?_ rfl ⟨rfl, (by repeat (first | exact Below.refl _ _ | assumption | refine Below.drew ?_ | refine Below.alloc ?_ (by simp; try omega) _ | refine Below.setCell ?_ (by simp; try omega) _))⟩
    simp [results, Try.results14, go_sem, ctr]
    simp_all [feedF]
end Go.Proofs.Ytpapembikcnhpaa
