import Derived.Test.YtpapembikcnhpaaDet2
namespace Go.Proofs.Ytpapembikcnhpaa
open Go.RowKit

theorem feed_up (x k : Int) (h0 : 0 ≤ x) (h1 : x ≤ 1600) (h2 : 1 ≤ k) (h3 : k ≤ 400) : feedF 0 x x true k k = if 1600 < x + k then (1, 0) else (0, x + k) := by
  have hs : soundB 0 x x = true := by simp [soundB]; omega
  have hc : cleanB k k = true := by simp [cleanB]; omega
  simp [feedF, hs, hc]
  by_cases h : 1600 < x + k
  · simp [h]
  · simp [h]; omega
theorem feed_down (x k : Int) (h0 : 0 ≤ x) (h1 : x ≤ 1600) (h2 : 1 ≤ k) (h3 : k ≤ 400) : feedF 0 x x false k k = if x < k then (1, 0) else (0, x - k) := by
  have hs : soundB 0 x x = true := by simp [soundB]; omega
  have hc : cleanB k k = true := by simp [cleanB]; omega
  simp [feedF, hs, hc]
  by_cases h : x < k
  · simp [h]; omega
  · simp [h]; omega

set_option maxHeartbeats 800000 in
theorem limits_walk (a b : Int) (w : World) (_wa : (Lit.int .i64 a).wf = true) (_wb : (Lit.int .i64 b).wf = true) :
    Calls Try.prog 4 #[.int .i64 a, .int .i64 b] w fun e w' => e = .returned (.bool true) ∧ Below w.heap.size w w' := by
  have hx := pick_bd a 1601 (by omega) (by omega)
  have hk := pick_bd b 400 (by omega) (by omega)
  clear _wa _wb
  go_enter Try.func4, Try.ntmps4
  go_wp2_with fail
  refine (pick_any _ _ _ (by omega) (by omega)).mono ?_
  rintro e w1 ⟨rfl, rfl⟩
  go_wp2_with fail
  refine (pick_any _ _ _ (by omega) (by omega)).mono ?_
  rintro e w1 ⟨rfl, rfl⟩
  generalize pick a 1601 = x at *
  generalize pick b 400 = y at *
  obtain ⟨hx0, hx1⟩ := hx
  obtain ⟨hk0, hk1⟩ := hk
  have e1 := Lib.hid (feed_up x (1 + y) hx0 (by omega) (by omega) (by omega))
  have e2 := Lib.hid (feed_down x (1 + y) hx0 (by omega) (by omega) (by omega))
  by_cases hu : 1600 < x + (1 + y)
  all_goals
    by_cases hd : x < 1 + y
    all_goals
      try (exfalso; omega)
    all_goals
      go_wp2_with fail
      refine (feed_any _ _ _ _ _ _ _ _).mono ?_
      rintro e w1 ⟨rfl, hb1⟩
      rw [e1.out]
      first | rw [if_pos (by omega)] | rw [if_neg (by omega)]
      simp only [ctr]
      obtain ⟨hc1, hf1⟩ := bcell hb1
      have z1 := hb1.size
      try simp at z1
      have z1' : w.heap.size < w1.heap.size := by omega
      go_wp2_with fail
      refine (feed_any _ _ _ _ _ _ _ _).mono ?_
      rintro e w2 ⟨rfl, hb2⟩
      rw [e2.out]
      first | rw [if_pos (by omega)] | rw [if_neg (by omega)]
      simp only [ctr]
      obtain ⟨hc2, hf2⟩ := bcell hb2
      have z2 := hb2.size
      try simp at z2
      have z2' : w1.heap.size < w2.heap.size := by omega
      have z2'' : w.heap.size < w2.heap.size := by omega
      go_wp2_with fail
      refine (awake_any _).mono ?_
      rintro e w3 ⟨rfl, hb3⟩
      obtain ⟨hc3, hf3⟩ := bcell hb3
      have z3 := hb3.size
      try simp at z3
      have z3' : w2.heap.size < w3.heap.size := by omega
      have z3'' : w1.heap.size < w3.heap.size := by omega
      go_wp2_with fail
      go_ret
      exact ⟨rfl, (by repeat (first | exact Below.refl _ _ | (with_reducible refine Below.drew ?_) | (with_reducible refine below_drewN ?_ _) | (with_reducible refine Below.alloc ?_ (by first | omega | (simp; done) | (simp; omega)) _) | (with_reducible refine Below.setCell ?_ (by first | omega | (simp; done) | (simp; omega)) _) | (refine Below.trans ?_ (Below.mono (by with_reducible assumption) (by first | omega | (simp; done) | (simp; omega))))))⟩
end Go.Proofs.Ytpapembikcnhpaa
