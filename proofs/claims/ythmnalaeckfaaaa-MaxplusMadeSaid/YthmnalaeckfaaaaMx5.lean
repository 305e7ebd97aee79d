import Derived.Test.YthmnalaeckfaaaaMx3
import Derived.Test.YthmnalaeckfaaaaMp29
import Derived.Test.YthmnalaeckfaaaaMp24
namespace Go.Proofs.Ythmnalaeckfaaaa
open Go.RowKit
set_option maxRecDepth 100000 in
set_option maxHeartbeats 6400000 in
theorem made_true (a0 : Int) (A1 : Option Addr) (n1 c1 : Nat) (z1 : List Int) (a2 : Int) (w : World) (_w0 : (Lit.int .i64 a0).wf = true) (h1 : Rd w w.heap.size 1 A1 n1 (z1.map (Value.int .i64))) (m1 : n1 ≤ c1 ∧ c1 ≤ maxLen ∧ c1 * 8 ≤ 140737488351232) (_w2 : (Lit.int .i64 a2).wf = true) :
    Calls Try.prog 11 #[.int .i64 a0, .slice A1 n1 c1, .int .i64 a2] w fun e w' => e = .returned (.bool true) ∧ Below w.heap.size w w' := by
  have I1 := Lib.hid h1
  have Hm1 := Lib.hid (show n1 ≤ maxLen by omega)
  clear h1 m1
  go_enter Try.func11, Try.ntmps11
  go_wp2_with fail
  refine (pick_any a0 4 w (by omega) (by omega)).mono ?_
  rintro e w1 ⟨rfl, rfl⟩
  have hp := pick_bd a0 4 (by omega) (by omega)
  obtain ⟨n, hn⟩ := Int.eq_ofNat_of_zero_le (show 0 ≤ 1 + pick a0 4 by omega)
  have hnb : 1 ≤ n ∧ n ≤ 4 := by omega
  obtain ⟨hn1, hn2⟩ := hnb
  generalize pick a0 4 = p0 at *
  obtain rfl : p0 = (n : Int) - 1 := by omega
  have hn3 : (1 + ((n : Int) - 1)) = n := by omega
  clear hp hn
  go_wp2_with fail
  try rw [hn3]
  clear hn3
  refine (matrix_any n A1 n1 c1 z1 w ⟨hn1, by omega⟩ I1.out Hm1.out).mono ?_
  rintro e w2 ⟨A, ca, ra, rfl, hl, _, ho, hb2⟩
  rw [← hl]
  have HA := Lib.hid ho.rdn
  have HB := Lib.hid hb2
  have HL := Lib.hid hl
  clear hl ho hb2
  go_wp2_with fail
  refine (mean_any A ca ra _ HA.out).mono ?_
  rintro e w3 ⟨rfl, hb⟩
  have HB := Lib.hid (HB.out.trans (hb.mono HB.out.size))
  have HA := Lib.hid (HA.out.grow hb)
  clear hb
  go_wp2_with fail
  refine (rmean_any A ca ra _ HA.out).mono ?_
  rintro e w4 ⟨rfl, hb⟩
  have HB := Lib.hid (HB.out.trans (hb.mono HB.out.size))
  have HA := Lib.hid (HA.out.grow hb)
  clear hb
  generalize meanF (matR ra) = mf at *
  obtain ⟨num, den, okb⟩ := mf
  simp only
  have hq1 : (num == num) = true := by simp
  have hq2 : (den == den) = true := by simp
  have hq3 : (okb == okb) = true := by simp
  go_wp2_with fail
  refine (star_any A ca ra _ HA.out).mono ?_
  rintro e w5 ⟨A5, c5, r5, rfl, hm5, ho5, hb⟩
  have HB := Lib.hid (HB.out.trans (hb.mono HB.out.size))
  have HA := Lib.hid (HA.out.grow hb)
  clear hb
  have M5 := Lib.hid hm5
  have R5 := Lib.hid ho5.rd
  clear hm5 ho5
  go_wp2_with fail
  refine (rstar_any A ca ra _ HA.out).mono ?_
  rintro e w6 ⟨A6, c6, r6, rfl, hm6, ho6, hb⟩
  have R5 := Lib.hid (R5.out.grow hb)
  have HB := Lib.hid (HB.out.trans (hb.mono HB.out.size))
  have HA := Lib.hid (HA.out.grow hb)
  clear hb
  have M6 := Lib.hid hm6
  have R6 := Lib.hid ho6.rd
  clear hm6 ho6
  generalize starE (matR ra) = e5 at *
  have hq5 : (e5 == e5) = true := by simp
  go_wp2_with fail
  refine (pick_any a2 12 _ (by omega) (by omega)).mono ?_
  rintro e w7 ⟨rfl, rfl⟩
  go_wp2_with fail
  refine (power_any A ca ra _ _ HA.out).mono ?_
  rintro e w7 ⟨A7, c7, r7, rfl, hm7, ho7, hb⟩
  have R5 := Lib.hid (R5.out.grow hb)
  have R6 := Lib.hid (R6.out.grow hb)
  have HB := Lib.hid (HB.out.trans (hb.mono HB.out.size))
  have HA := Lib.hid (HA.out.grow hb)
  clear hb
  have M7 := Lib.hid hm7
  have R7 := Lib.hid ho7.rd
  clear hm7 ho7
  go_wp2_with fail
  refine (pick_any a2 12 _ (by omega) (by omega)).mono ?_
  rintro e w8 ⟨rfl, rfl⟩
  go_wp2_with fail
  refine (rpower_any A ca ra _ _ HA.out).mono ?_
  rintro e w8 ⟨A8, c8, r8, rfl, hm8, ho8, hb⟩
  have R5 := Lib.hid (R5.out.grow hb)
  have R6 := Lib.hid (R6.out.grow hb)
  have R7 := Lib.hid (R7.out.grow hb)
  have HB := Lib.hid (HB.out.trans (hb.mono HB.out.size))
  have HA := Lib.hid (HA.out.grow hb)
  clear hb
  have M8 := Lib.hid hm8
  have R8 := Lib.hid ho8.rd
  clear hm8 ho8
  generalize powE (matR ra) _ = e7 at *
  have hq7 : (e7 == e7) = true := by simp
  go_wp2_with fail
  refine (awake_any _).mono ?_
  rintro e w9 ⟨rfl, hb⟩
  have R5 := Lib.hid (R5.out.grow hb)
  have R6 := Lib.hid (R6.out.grow hb)
  have R7 := Lib.hid (R7.out.grow hb)
  have R8 := Lib.hid (R8.out.grow hb)
  have HB := Lib.hid (HB.out.trans (hb.mono HB.out.size))
  have HA := Lib.hid (HA.out.grow hb)
  clear hb
  go_wp2_with fail
  refine (critical_any A ca ra _ HA.out).mono ?_
  rintro e w10 ⟨x10, rfl, hm10, ho10, hb⟩
  have R5 := Lib.hid (R5.out.grow hb)
  have R6 := Lib.hid (R6.out.grow hb)
  have R7 := Lib.hid (R7.out.grow hb)
  have R8 := Lib.hid (R8.out.grow hb)
  have HB := Lib.hid (HB.out.trans (hb.mono HB.out.size))
  have HA := Lib.hid (HA.out.grow hb)
  clear hb
  have M10 := Lib.hid hm10
  have R10 := Lib.hid ho10.rd
  clear hm10 ho10
  go_wp2_with fail
  refine (rcritical_any A ca ra _ HA.out).mono ?_
  rintro e w11 ⟨x11, rfl, hm11, ho11, hb⟩
  have R5 := Lib.hid (R5.out.grow hb)
  have R6 := Lib.hid (R6.out.grow hb)
  have R7 := Lib.hid (R7.out.grow hb)
  have R8 := Lib.hid (R8.out.grow hb)
  have R10 := Lib.hid (R10.out.grow hb)
  have HB := Lib.hid (HB.out.trans (hb.mono HB.out.size))
  have HA := Lib.hid (HA.out.grow hb)
  clear hb
  have M11 := Lib.hid hm11
  have R11 := Lib.hid ho11.rd
  clear hm11 ho11
  go_wp2_with fail
  refine (samerow_eq R10.out R11.out (M11.out.trans M10.out.symm)).mono ?_
  rintro e w12 ⟨rfl, hb⟩
  have R5 := Lib.hid (R5.out.grow hb)
  have R6 := Lib.hid (R6.out.grow hb)
  have R7 := Lib.hid (R7.out.grow hb)
  have R8 := Lib.hid (R8.out.grow hb)
  have HB := Lib.hid (HB.out.trans (hb.mono HB.out.size))
  have HA := Lib.hid (HA.out.grow hb)
  clear hb
  go_wp2_with fail
  refine (samelists_yes A5 A6 r6.length c5 c6 r5 r6 _ R5.out R6.out rfl (M6.out.trans M5.out.symm)).mono ?_
  rintro e w13 ⟨rfl, hb⟩
  have R7 := Lib.hid (R7.out.grow hb)
  have R8 := Lib.hid (R8.out.grow hb)
  have HB := Lib.hid (HB.out.trans (hb.mono HB.out.size))
  have HA := Lib.hid (HA.out.grow hb)
  clear hb
  go_wp2_with fail
  refine (samelists_yes A7 A8 r8.length c7 c8 r7 r8 _ R7.out R8.out rfl (M8.out.trans M7.out.symm)).mono ?_
  rintro e w14 ⟨rfl, hb⟩
  have HB := Lib.hid (HB.out.trans (hb.mono HB.out.size))
  have HA := Lib.hid (HA.out.grow hb)
  clear hb
  go_wp2_with fail
  go_ret
  exact ⟨rfl, HB.out⟩
end Go.Proofs.Ythmnalaeckfaaaa
