import Derived.Test.YthmnalaeckfaaaaMp20
namespace Go.Proofs.Ythmnalaeckfaaaa
open Go.RowKit
def exM : List (List Int) := [[-1125899906842624, 3], [2, -1125899906842624]]
theorem ex_mean : meanF exM = (5, 2, true) := by kernel_rfl
theorem ex_powE : powE exM 2 = 0 := by kernel_rfl
theorem ex_powV : powV exM 2 = [[5, -1125899906842624], [-1125899906842624, 5]] := by kernel_rfl
theorem ex_rec : recF exM [2, 0] 4 9 = (1, true) := by kernel_rfl
theorem ex_chk : chkM exM = true := by kernel_rfl
theorem lit2 (w : World) (a b c d : Int) : MRd (((w.alloc (.cells #[.int .i64 a, .int .i64 b] 3)).alloc (.cells #[.int .i64 c, .int .i64 d] 3)).alloc (.cells #[.slice (some ⟨w.heap.size, 0, none⟩) 2 2, .slice (some ⟨w.heap.size + 1, 0, none⟩) 2 2] 22)) (some ⟨w.heap.size + 1 + 1, 0, none⟩) [⟨some ⟨w.heap.size, 0, none⟩, 2, [a, b]⟩, ⟨some ⟨w.heap.size + 1, 0, none⟩, 2, [c, d]⟩] := by
  have k0 := ((Blk.new w 3 #[.int .i64 a, .int .i64 b]).al (.cells #[.int .i64 c, .int .i64 d] 3)).al (.cells #[.slice (some ⟨w.heap.size, 0, none⟩) 2 2, .slice (some ⟨w.heap.size + 1, 0, none⟩) 2 2] 22)
  have k1 := (Blk.new (w.alloc (.cells #[.int .i64 a, .int .i64 b] 3)) 3 #[.int .i64 c, .int .i64 d]).al (.cells #[.slice (some ⟨w.heap.size, 0, none⟩) 2 2, .slice (some ⟨w.heap.size + 1, 0, none⟩) 2 2] 22)
  have k2 := Blk.new ((w.alloc (.cells #[.int .i64 a, .int .i64 b] 3)).alloc (.cells #[.int .i64 c, .int .i64 d] 3)) 22 #[.slice (some ⟨w.heap.size, 0, none⟩) 2 2, .slice (some ⟨w.heap.size + 1, 0, none⟩) 2 2]
  simp only [World.size_alloc] at k1 k2
  refine ⟨Rd.of_own (own_blk (base := 0) k2 rfl (by omega) (by simp)), fun x hx => ?_, by simp⟩
  simp at hx
  rcases hx with rfl | rfl
  · exact ⟨Rd.of_own (own_blk (base := 0) k0 rfl (by omega) (by simp)), by simp⟩
  · exact ⟨Rd.of_own (own_blk (base := 0) k1 rfl (by omega) (by simp)), by simp⟩
set_option maxRecDepth 100000 in
set_option maxHeartbeats 1600000 in
theorem awake_any (w : World) : Calls Try.prog 17 #[] w fun e w' => e = .returned (.bool true) ∧ Below w.heap.size w w' := by
  go_enter Try.func17, Try.ntmps17
  go_wp2_with fail
  refine (example_any w).mono ?_
  rintro e w1 ⟨A1, c1, r1, rfl, hm1, ho1, hb1⟩
  have Hm1 := Lib.hid (show matR r1 = exM from hm1)
  have Ho1 := Lib.hid ho1
  have HB1 := Lib.hid hb1
  clear hm1 ho1 hb1
  go_wp2_with fail
  refine (mean_any A1 c1 r1 w1 Ho1.out.rd).mono ?_
  rintro e w2 ⟨rfl, hb2⟩
  rw [Hm1.out, ex_mean]
  have HB2 := Lib.hid (HB1.out.trans (hb2.mono HB1.out.size))
  clear hb2 HB1 Hm1 Ho1
  go_wp2_with fail
  refine (example_any w2).mono ?_
  rintro e w3 ⟨A3, c3, r3, rfl, hm3, ho3, hb3⟩
  have Hm3 := Lib.hid (show matR r3 = exM from hm3)
  have Ho3 := Lib.hid ho3
  have HB3 := Lib.hid (HB2.out.trans (hb3.mono HB2.out.size))
  clear hm3 ho3 hb3 HB2
  go_wp2_with fail
  refine (power_any A3 c3 r3 2 w3 Ho3.out.rd).mono ?_
  rintro e w4 ⟨A4, c4, r4, rfl, hm4, ho4, hb4⟩
  rw [Hm3.out, ex_powE]
  have Hm4 := Lib.hid (show matR r4 = [[5, -1125899906842624], [-1125899906842624, 5]] by rw [hm4, Hm3.out, ex_powV])
  have Hr4 := Lib.hid (show r4.length = 2 by rw [← matR_len, Hm4.out]; rfl)
  have Ho4 := Lib.hid ho4.rd
  have HB4 := Lib.hid (HB3.out.trans (hb4.mono HB3.out.size))
  clear hm4 ho4 hb4 HB3 Hm3 Ho3
  go_wp2_with fail
  refine (example_any w4).mono ?_
  rintro e w5 ⟨A5, c5, r5, rfl, hm5, ho5, hb5⟩
  have Hm5 := Lib.hid (show matR r5 = exM from hm5)
  have Ho5 := Lib.hid ho5.rd
  have HB5 := Lib.hid (HB4.out.trans (hb5.mono HB4.out.size))
  have Hr5 := Lib.hid (Ho4.out.grow hb5)
  clear hm5 ho5 hb5 HB4 Ho4
  go_wp2_with fail
  have hal : Below w5.heap.size w5 (w5.alloc (.cells #[.int .i64 2, .int .i64 0] 3)) := (Below.refl _ _).alloc (Nat.le_refl _) _
  refine (recover_any A5 (some ⟨w5.heap.size, 0, none⟩) c5 2 r5 [2, 0] 4 9 _ (Ho5.out.grow hal) (Rd.of_own (own_blk (base := 0) (Blk.new w5 3 #[.int .i64 2, .int .i64 0]) rfl (by omega) (by simp))) (by simp)).mono ?_
  rintro e w6 ⟨rfl, hb6⟩
  rw [Hm5.out, ex_rec]
  have HB6 := Lib.hid (HB5.out.trans ((hal.trans (hb6.mono hal.size)).mono HB5.out.size))
  have Hr6 := Lib.hid (Hr5.out.grow (hal.trans (hb6.mono hal.size)))
  clear hb6 hal HB5 Hr5 Hm5 Ho5
  go_wp2_with fail
  have hal : Below w6.heap.size w6 (((w6.alloc (.cells #[.int .i64 5, .int .i64 (-1125899906842624)] 3)).alloc (.cells #[.int .i64 (-1125899906842624), .int .i64 5] 3)).alloc (.cells #[.slice (some ⟨w6.heap.size, 0, none⟩) 2 2, .slice (some ⟨w6.heap.size + 1, 0, none⟩) 2 2] 22)) := (by repeat (first | exact Below.refl _ _ | (with_reducible refine Below.drew ?_) | (with_reducible refine below_drewN ?_ _) | (with_reducible refine Below.alloc ?_ (by first | omega | (simp; done) | (simp; omega)) _) | (with_reducible refine Below.setCell ?_ (by first | omega | (simp; done) | (simp; omega)) _) | (refine Below.trans ?_ (Below.mono (by with_reducible assumption) (by first | omega | (simp; done) | (simp; omega))))))
  refine (samelists_yes A4 (some ⟨w6.heap.size + 1 + 1, 0, none⟩) 2 c4 2 r4 [⟨some ⟨w6.heap.size, 0, none⟩, 2, [5, -1125899906842624]⟩, ⟨some ⟨w6.heap.size + 1, 0, none⟩, 2, [-1125899906842624, 5]⟩] _ (Hr6.out.grow hal) (lit2 w6 5 (-1125899906842624) (-1125899906842624) 5) rfl (by rw [Hm4.out]; rfl)).mono ?_
  rintro e w7 ⟨rfl, hb7⟩
  have HB7 := Lib.hid (HB6.out.trans ((hal.trans (hb7.mono hal.size)).mono HB6.out.size))
  clear hb7 hal HB6 Hr6
  go_wp2_with fail
  refine (example_any w7).mono ?_
  rintro e w8 ⟨A8, c8, r8, rfl, hm8, ho8, hb8⟩
  have Hm8 := Lib.hid (show matR r8 = exM from hm8)
  have Ho8 := Lib.hid ho8.rd
  have HB8 := Lib.hid (HB7.out.trans (hb8.mono HB7.out.size))
  clear hm8 ho8 hb8 HB7
  go_wp2_with fail
  refine (check_any A8 c8 r8 w8 Ho8.out).mono ?_
  rintro e w9 ⟨rfl, rfl⟩
  rw [Hm8.out, ex_chk]
  go_wp2_with fail
  go_ret
  exact ⟨rfl, HB8.out⟩
end Go.Proofs.Ythmnalaeckfaaaa
