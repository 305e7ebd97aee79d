import Derived.Test.YtpapembikcnhpaaDet3
namespace Go.Proofs.Ytpapembikcnhpaa
open Go.RowKit

set_option maxHeartbeats 800000 in
theorem example_walk (w : World) :
    Calls Try.prog 5 #[] w fun e w' => e = .returned (.bool true) ∧ Below w.heap.size w w' := by
  go_enter Try.func5, Try.ntmps5
  go_wp2_with fail
  refine (reset_any _ _ _ _).mono ?_
  rintro e w1 ⟨rfl, hb1⟩
  have e1 : resetF 1 0 0 = .agg #[.int .i64 2, .int .i64 0, .int .i64 0] := by simp [resetF, resetT, soundB]
  rw [e1]
  clear e1
  have z1 := hb1.size
  go_wp2_with fail
  refine (feed_any _ _ _ _ _ _ _ _).mono ?_
  rintro e w2 ⟨rfl, hb2⟩
  rw [show feedF 2 0 0 true 2 2 = (2, 2) by decide]
  simp only [ctr]
  obtain ⟨hc2, hf2⟩ := bcell hb2
  have z2 := hb2.size
  try simp at z2
  have y12 : w1.heap.size < w2.heap.size := by omega
  go_wp2_with fail
  refine (feed_any _ _ _ _ _ _ _ _).mono ?_
  rintro e w3 ⟨rfl, hb3⟩
  rw [show feedF 2 2 2 false 2 2 = (0, 0) by decide]
  simp only [ctr]
  obtain ⟨hc3, hf3⟩ := bcell hb3
  have z3 := hb3.size
  try simp at z3
  have y13 : w1.heap.size < w3.heap.size := by omega
  have y23 : w2.heap.size < w3.heap.size := by omega
  go_wp2_with fail
  refine (awake_any _).mono ?_
  rintro e w4 ⟨rfl, hb4⟩
  obtain ⟨hc4, hf4⟩ := bcell hb4
  have z4 := hb4.size
  try simp at z4
  have y14 : w1.heap.size < w4.heap.size := by omega
  have y24 : w2.heap.size < w4.heap.size := by omega
  have y34 : w3.heap.size < w4.heap.size := by omega
  go_wp2_with fail
  refine (report_any _ _ _ _).mono ?_
  rintro e w5 ⟨rfl, hb5⟩
  rw [show reportF 2 0 0 = 2 by decide]
  obtain ⟨hc5, hf5⟩ := bcell hb5
  have z5 := hb5.size
  try simp at z5
  have y15 : w1.heap.size < w5.heap.size := by omega
  have y25 : w2.heap.size < w5.heap.size := by omega
  have y35 : w3.heap.size < w5.heap.size := by omega
  go_wp2_with fail
  refine (report_any _ _ _ _).mono ?_
  rintro e w6 ⟨rfl, hb6⟩
  rw [show reportF 2 2 2 = 2 by decide]
  obtain ⟨hc6, hf6⟩ := bcell hb6
  have z6 := hb6.size
  try simp at z6
  have y16 : w1.heap.size < w6.heap.size := by omega
  have y26 : w2.heap.size < w6.heap.size := by omega
  have y36 : w3.heap.size < w6.heap.size := by omega
  go_wp2_with fail
  refine (report_any _ _ _ _).mono ?_
  rintro e w7 ⟨rfl, hb7⟩
  rw [show reportF 0 0 0 = 0 by decide]
  obtain ⟨hc7, hf7⟩ := bcell hb7
  have z7 := hb7.size
  try simp at z7
  have y17 : w1.heap.size < w7.heap.size := by omega
  have y27 : w2.heap.size < w7.heap.size := by omega
  have y37 : w3.heap.size < w7.heap.size := by omega
  go_wp2_with fail
  go_ret
  exact ⟨rfl, (by repeat (first | exact Below.refl _ _ | (with_reducible refine Below.drew ?_) | (with_reducible refine below_drewN ?_ _) | (with_reducible refine Below.alloc ?_ (by first | omega | (simp; done) | (simp; omega)) _) | (with_reducible refine Below.setCell ?_ (by first | omega | (simp; done) | (simp; omega)) _) | (refine Below.trans ?_ (Below.mono (by with_reducible assumption) (by first | omega | (simp; done) | (simp; omega))))))⟩
end Go.Proofs.Ytpapembikcnhpaa
