import Derived.Test.YthmnalaeckfaaaaMp22
namespace Go.Proofs.Ythmnalaeckfaaaa
open Go.RowKit
theorem lit1 (w : World) (a : Int) : MRd ((w.alloc (.cells #[.int .i64 a] 3)).alloc (.cells #[.slice (some ⟨w.heap.size, 0, none⟩) 1 1] 22)) (some ⟨w.heap.size + 1, 0, none⟩) [⟨some ⟨w.heap.size, 0, none⟩, 1, [a]⟩] := by
  have k0 := (Blk.new w 3 #[.int .i64 a]).al (.cells #[.slice (some ⟨w.heap.size, 0, none⟩) 1 1] 22)
  have k2 := Blk.new (w.alloc (.cells #[.int .i64 a] 3)) 22 #[.slice (some ⟨w.heap.size, 0, none⟩) 1 1]
  simp only [World.size_alloc] at k2
  refine ⟨Rd.of_own (own_blk (base := 0) k2 rfl (by omega) (by simp)), fun x hx => ?_, by simp⟩
  simp at hx
  subst hx
  exact ⟨Rd.of_own (own_blk (base := 0) k0 rfl (by omega) (by simp)), by simp⟩
theorem ex_m1 : meanF [[-3]] = (-3, 1, true) := by kernel_rfl
theorem ex_m2 : meanF [[-1125899906842624, -4], [-2, -1125899906842624]] = (-3, 1, true) := by kernel_rfl
theorem ex_crit : critF exM = [0, 1] := by kernel_rfl
set_option maxRecDepth 100000 in
set_option maxHeartbeats 1600000 in
theorem example_true (w : World) : Calls Try.prog 7 #[] w fun e w' => e = .returned (.bool true) ∧ Below w.heap.size w w' := by
  go_enter Try.func7, Try.ntmps7
  go_wp2_with fail
  have hal : Below w.heap.size w ((w.alloc (.cells #[.int .i64 (-3)] 3)).alloc (.cells #[.slice (some ⟨w.heap.size, 0, none⟩) 1 1] 22)) := (by repeat (first | exact Below.refl _ _ | (with_reducible refine Below.drew ?_) | (with_reducible refine below_drewN ?_ _) | (with_reducible refine Below.alloc ?_ (by first | omega | (simp; done) | (simp; omega)) _) | (with_reducible refine Below.setCell ?_ (by first | omega | (simp; done) | (simp; omega)) _) | (refine Below.trans ?_ (Below.mono (by with_reducible assumption) (by first | omega | (simp; done) | (simp; omega))))))
  refine (mean_any (some ⟨w.heap.size + 1, 0, none⟩) 1 [⟨some ⟨w.heap.size, 0, none⟩, 1, [-3]⟩] _ (lit1 w (-3))).mono ?_
  rintro e w1 ⟨rfl, hb1⟩
  rw [show meanF (matR [⟨some ⟨w.heap.size, 0, none⟩, 1, [-3]⟩]) = (-3, 1, true) from ex_m1]
  have HB1 := Lib.hid (hal.trans (hb1.mono hal.size))
  clear hb1 hal
  go_wp2_with fail
  have hal : Below w1.heap.size w1 (((w1.alloc (.cells #[.int .i64 (-1125899906842624), .int .i64 (-4)] 3)).alloc (.cells #[.int .i64 (-2), .int .i64 (-1125899906842624)] 3)).alloc (.cells #[.slice (some ⟨w1.heap.size, 0, none⟩) 2 2, .slice (some ⟨w1.heap.size + 1, 0, none⟩) 2 2] 22)) := (by repeat (first | exact Below.refl _ _ | (with_reducible refine Below.drew ?_) | (with_reducible refine below_drewN ?_ _) | (with_reducible refine Below.alloc ?_ (by first | omega | (simp; done) | (simp; omega)) _) | (with_reducible refine Below.setCell ?_ (by first | omega | (simp; done) | (simp; omega)) _) | (refine Below.trans ?_ (Below.mono (by with_reducible assumption) (by first | omega | (simp; done) | (simp; omega))))))
  refine (mean_any (some ⟨w1.heap.size + 1 + 1, 0, none⟩) 2 [⟨some ⟨w1.heap.size, 0, none⟩, 2, [-1125899906842624, -4]⟩, ⟨some ⟨w1.heap.size + 1, 0, none⟩, 2, [-2, -1125899906842624]⟩] _ (lit2 w1 (-1125899906842624) (-4) (-2) (-1125899906842624))).mono ?_
  rintro e w2 ⟨rfl, hb2⟩
  rw [show meanF (matR [⟨some ⟨w1.heap.size, 0, none⟩, 2, [-1125899906842624, -4]⟩, ⟨some ⟨w1.heap.size + 1, 0, none⟩, 2, [-2, -1125899906842624]⟩]) = (-3, 1, true) from ex_m2]
  have HB2 := Lib.hid (HB1.out.trans ((hal.trans (hb2.mono hal.size)).mono HB1.out.size))
  clear hb2 hal HB1
  go_wp2_with fail
  refine (awake_any w2).mono ?_
  rintro e w3 ⟨rfl, hb3⟩
  have HB3 := Lib.hid (HB2.out.trans (hb3.mono HB2.out.size))
  clear hb3 HB2
  go_wp2_with fail
  refine (example_any w3).mono ?_
  rintro e w4 ⟨A4, c4, r4, rfl, hm4, ho4, hb4⟩
  have Hm4 := Lib.hid (show matR r4 = exM from hm4)
  have Ho4 := Lib.hid ho4.rd
  have HB4 := Lib.hid (HB3.out.trans (hb4.mono HB3.out.size))
  clear hm4 ho4 hb4 HB3
  go_wp2_with fail
  refine (critical_any A4 c4 r4 w4 Ho4.out).mono ?_
  rintro e w5 ⟨x5, rfl, hx5, ho5, hb5⟩
  have Hx5 := Lib.hid (show x5.zs = [0, 1] by rw [hx5, Hm4.out, ex_crit])
  have Ho5 := Lib.hid ho5.rd
  have HB5 := Lib.hid (HB4.out.trans (hb5.mono HB4.out.size))
  clear hx5 ho5 hb5 HB4 Hm4 Ho4
  go_wp2_with fail
  have hal : Below w5.heap.size w5 (w5.alloc (.cells #[.int .i64 0, .int .i64 1] 3)) := (by repeat (first | exact Below.refl _ _ | (with_reducible refine Below.drew ?_) | (with_reducible refine below_drewN ?_ _) | (with_reducible refine Below.alloc ?_ (by first | omega | (simp; done) | (simp; omega)) _) | (with_reducible refine Below.setCell ?_ (by first | omega | (simp; done) | (simp; omega)) _) | (refine Below.trans ?_ (Below.mono (by with_reducible assumption) (by first | omega | (simp; done) | (simp; omega))))))
  refine (samerow_eq (y := ⟨some ⟨w5.heap.size, 0, none⟩, 2, [0, 1]⟩) (Ho5.out.grow hal) ⟨Rd.of_own (own_blk (base := 0) (Blk.new w5 3 #[.int .i64 0, .int .i64 1]) rfl (by omega) (by simp)), by simp⟩ Hx5.out.symm).mono ?_
  rintro e w6 ⟨rfl, hb6⟩
  have HB6 := Lib.hid (HB5.out.trans ((hal.trans (hb6.mono hal.size)).mono HB5.out.size))
  clear hb6 hal HB5
  go_wp2_with fail
  go_ret
  exact ⟨rfl, HB6.out⟩
end Go.Proofs.Ythmnalaeckfaaaa
