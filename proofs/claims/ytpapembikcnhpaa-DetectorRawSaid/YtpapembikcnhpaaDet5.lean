import Derived.Test.YtpapembikcnhpaaDet3
namespace Go.Proofs.Ytpapembikcnhpaa
open Go.RowKit

set_option maxHeartbeats 400000 in
theorem rsound_any (s a b : Int) (w : World) :
    Calls Try.prog 28 #[.agg #[.int .i64 s, .int .i64 a, .int .i64 b]] w fun e w' => e = .returned (.bool (soundB s a b)) ∧ w.alloc (.cells #[.int .i64 s, .int .i64 a, .int .i64 b] 26) = w' := by
  go_enter Try.func28, Try.ntmps28
  go_wp2
  all_goals
    go_ret
    refine ⟨ret_bool ?_, by first | rfl | (simp_all; done)⟩
    unfold soundB
    simp_all
    try omega

set_option maxHeartbeats 800000 in
theorem rfeed_any (s a b r : Int) (i : Bool) (pa pb : Int) (w : World) :
    Calls Try.prog 19 #[.agg #[.int .i64 s, .int .i64 a, .int .i64 b], .agg #[.int .i64 r, .bool i, .int .i64 pa, .int .i64 pb]] w fun e w' => e = .returned (ctr (feedF s a b i pa pb)) ∧ Below w.heap.size w w' := by
  by_cases hs : soundB s a b = true
  · by_cases hc : cleanB pa pb = true
    · obtain ⟨h1, h2, h3, h4⟩ := soundB_iff hs
      obtain ⟨h5, h6, h7⟩ := cleanB_iff hc
      subst h2 h5
      cases i
      all_goals
        go_enter Try.func19, Try.ntmps19
        go_wp2_with (first | (go_at_call 28; refine (rsound_any _ _ _ _).mono ?_; rintro e w' ⟨rfl, rfl⟩))
        all_goals
          refine bodyPost_ret (v := ctr (feedF _ _ _ _ _ _)) ?_ rfl ⟨rfl, (by repeat (first | exact Below.refl _ _ | assumption | refine Below.drew ?_ | refine Below.alloc ?_ (by simp; try omega) _ | refine Below.setCell ?_ (by simp; try omega) _))⟩
          simp [results, Try.results19, go_sem, ctr]
          simp_all [feedF]
          try ((repeat' split) <;> simp_all <;> omega)
    · have hc' : cleanB pa pb = false := by simpa using hc
      clear hc
      go_enter Try.func19, Try.ntmps19
      go_wp2_with (first | (go_at_call 28; refine (rsound_any _ _ _ _).mono ?_; rintro e w' ⟨rfl, rfl⟩))
      all_goals
        first
        | (exfalso; simp_all [cleanB]; done)
        | (exfalso; simp_all [cleanB]; omega)
        | (refine bodyPost_ret (v := ctr (feedF _ _ _ _ _ _)) ?_ rfl ⟨rfl, (by repeat (first | exact Below.refl _ _ | assumption | refine Below.drew ?_ | refine Below.alloc ?_ (by simp; try omega) _ | refine Below.setCell ?_ (by simp; try omega) _))⟩
           simp [results, Try.results19, go_sem, ctr]
           simp_all [feedF])
  · have hs' : soundB s a b = false := by simpa using hs
    clear hs
    go_enter Try.func19, Try.ntmps19
    go_wp2_with (first | (go_at_call 28; refine (rsound_any _ _ _ _).mono ?_; rintro e w' ⟨rfl, rfl⟩))
    refine bodyPost_ret (v := ctr (feedF _ _ _ _ _ _)) ?_ rfl ⟨rfl, (by repeat (first | exact Below.refl _ _ | assumption | refine Below.drew ?_ | refine Below.alloc ?_ (by simp; try omega) _ | refine Below.setCell ?_ (by simp; try omega) _))⟩
    simp [results, Try.results19, go_sem, ctr]
    simp_all [feedF]

set_option maxHeartbeats 800000 in
theorem rreport_any (s a b : Int) (w : World) :
    Calls Try.prog 20 #[.agg #[.int .i64 s, .int .i64 a, .int .i64 b]] w fun e w' => e = .returned (.int .i64 (reportF s a b)) ∧ Below w.heap.size w w' := by
  by_cases h0 : s = 0
  · subst h0
    cases hs : soundB 0 a b
    all_goals
      go_enter Try.func20, Try.ntmps20
      go_wp2_with (first | (go_at_call 28; refine (rsound_any _ _ _ _).mono ?_; rintro e w' ⟨rfl, rfl⟩))
      all_goals
        go_ret
        refine ⟨ret_int ?_, (by repeat (first | exact Below.refl _ _ | assumption | refine Below.drew ?_ | refine Below.alloc ?_ (by simp; try omega) _ | refine Below.setCell ?_ (by simp; try omega) _))⟩
        simp_all [reportF]
  · have h1 : (s != 0) = true := by simpa using h0
    go_enter Try.func20, Try.ntmps20
    go_wp2_with (first | (go_at_call 28; refine (rsound_any _ _ _ _).mono ?_; rintro e w' ⟨rfl, rfl⟩))
    all_goals
      go_ret
      refine ⟨ret_int ?_, (by repeat (first | exact Below.refl _ _ | assumption | refine Below.drew ?_ | refine Below.alloc ?_ (by simp; try omega) _ | refine Below.setCell ?_ (by simp; try omega) _))⟩
      simp_all [reportF]

set_option maxHeartbeats 800000 in
theorem rreset_any (s a b : Int) (w : World) :
    Calls Try.prog 21 #[.agg #[.int .i64 s, .int .i64 a, .int .i64 b]] w fun e w' => e = .returned (resetF s a b) ∧ Below w.heap.size w w' := by
  cases hs : soundB s a b
  all_goals
    go_enter Try.func21, Try.ntmps21
    go_wp2_with (first | (go_at_call 28; refine (rsound_any _ _ _ _).mono ?_; rintro e w' ⟨rfl, rfl⟩))
    all_goals
      refine bodyPost_ret (v := resetF s a b) ?_ rfl ⟨rfl, (by repeat (first | exact Below.refl _ _ | assumption | refine Below.drew ?_ | refine Below.alloc ?_ (by simp; try omega) _ | refine Below.setCell ?_ (by simp; try omega) _))⟩
      simp [results, Try.results21, go_sem, resetF, resetT, hs]
end Go.Proofs.Ytpapembikcnhpaa
