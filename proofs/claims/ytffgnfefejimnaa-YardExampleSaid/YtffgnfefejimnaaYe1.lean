import Derived.Test.YtffgnfefejimnaaYd11
namespace Go.Proofs.Ytffgnfefejimnaa
open Go.RowKit
set_option maxRecDepth 100000 in
set_option maxHeartbeats 3200000 in
theorem yexample_true (w : World) : Calls Try.prog 9 #[] w fun e w' => e = .returned (.bool true) ∧ Below w.heap.size w w' := by
  go_enter Try.func9, Try.ntmps9
  go_wp2_with fail
  refine (example_any 1 2 _).mono ?_
  rintro e w1 ⟨rfl, hm1, hb1⟩
  have HB1 := Lib.hid ((Blk.new w 43 #[.int .i64 20, .bool false]).bel hb1)
  have HM1 := Lib.hid hm1
  have HW1 := Lib.hid (show Below w.heap.size w w1 from (show Below w.heap.size w (w.alloc (.cells #[.int .i64 20, .bool false] 43)) from (by repeat (first | exact Below.refl _ _ | (with_reducible refine Below.drew ?_) | (with_reducible refine below_drewN ?_ _) | (with_reducible refine Below.alloc ?_ (by first | omega | (simp; done) | (simp; omega)) _) | (with_reducible refine Below.setCell ?_ (by first | omega | (simp; done) | (simp; omega)) _) | (refine Below.trans ?_ (Below.mono (by with_reducible assumption) (by first | omega | (simp; done) | (simp; omega))))))).trans (hb1.mono (by simp)))
  clear hm1 hb1
  generalize (w.alloc (.cells #[.int .i64 20, .bool false] 43)).heap.size = bq at *
  go_wp2_with fail
  refine (stuck_at ex_stuck (trk1 HB1.out) HM1.out (by simp [exM]) rfl rfl).mono ?_
  rintro e w2 ⟨rfl, hb2⟩
  have HB2 := Lib.hid (HB1.out.bel hb2)
  have HW2 := Lib.hid (HW1.out.trans (hb2.mono HW1.out.size))
  clear hb2
  go_wp2_with fail
  refine (example_any 1 2 w2).mono ?_
  rintro e w3 ⟨rfl, hm3, hb3⟩
  have HM3 := Lib.hid hm3
  have HB3 := Lib.hid (HB2.out.bel hb3)
  have HW3 := Lib.hid (HW2.out.trans (hb3.mono HW2.out.size))
  clear hm3 hb3
  go_wp2_with fail
  obtain ⟨⟨l2, u2, c2⟩, h2⟩ : ∃ r, planF [⟨20, false⟩] (exM 1 2) 10 = r := ⟨_, rfl⟩
  have hc2 := ex_plan2
  rw [h2] at hc2
  simp only at hc2
  subst hc2
  refine (plan_at h2 (trk1 HB3.out) HM3.out rfl rfl).mono ?_
  rintro e w4 ⟨A4, c4, rfl, hb4, _, _⟩
  have HB4 := Lib.hid (HB3.out.bel hb4)
  have HW4 := Lib.hid (HW3.out.trans (hb4.mono HW3.out.size))
  clear hb4 h2
  have x1 := HB4.out.cell 1
  have f1 := HB4.out.frozen 1
  have hxl := HB4.out.lt
  simp at x1
  go_upto_region 5 with fail
  have HB5 := Lib.hid (show Blk (w4.setCell ⟨w.heap.size, 1, none⟩ (.bool true)) w.heap.size 43 #[.int .i64 20, .bool true] by simpa using HB4.out.set_ 1 (.bool true))
  have HW5 := Lib.hid (HW4.out.setCell (show w.heap.size ≤ (⟨w.heap.size, 1, none⟩ : Addr).block from Nat.le_refl _) (.bool true))
  clear x1 f1 hxl HB4 HW4
  generalize w4.setCell ⟨w.heap.size, 1, none⟩ (.bool true) = w5 at *
  go_wp2_with fail
  refine (example_any 1 2 w5).mono ?_
  rintro e w6 ⟨rfl, hm6, hb6⟩
  have HM6 := Lib.hid hm6
  have HB6 := Lib.hid (HB5.out.bel hb6)
  have HW6 := Lib.hid (HW5.out.trans (hb6.mono HW5.out.size))
  clear hm6 hb6
  go_wp2_with fail
  obtain ⟨⟨l3, u3, c3⟩, h3⟩ : ∃ r, planF [⟨20, true⟩] (exM 1 2) 10 = r := ⟨_, rfl⟩
  have hc3 := ex_plan3
  rw [h3] at hc3
  simp only at hc3
  obtain ⟨hl3, hc3⟩ := hc3
  subst hc3
  refine (plan_at h3 (trk1 HB6.out) HM6.out rfl rfl).mono ?_
  rintro e w7 ⟨A7, c7, rfl, hb7, _, _⟩
  have HW7 := Lib.hid (HW6.out.trans (hb7.mono HW6.out.size))
  rw [hl3]
  clear hb7 h3
  go_wp2_with fail
  refine (awake_any w7).mono ?_
  rintro e w8 ⟨rfl, hb8⟩
  have HW8 := Lib.hid (HW7.out.trans (hb8.mono HW7.out.size))
  clear hb8
  go_wp2_with fail
  go_ret
  exact ⟨rfl, HW8.out⟩
end Go.Proofs.Ytffgnfefejimnaa
