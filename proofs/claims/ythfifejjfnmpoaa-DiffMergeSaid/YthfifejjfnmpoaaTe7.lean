import Derived.Test.YthfifejjfnmpoaaTe1
import Derived.Test.YthfifejjfnmpoaaTp28
namespace Go.Proofs.Ythfifejjfnmpoaa
open Go.RowKit
set_option maxRecDepth 100000 in
set_option maxHeartbeats 6400000 in
theorem dmerge_true (A0 : Option Addr) (n0 c0 : Nat) (z0 : List Int) (A8 : Option Addr) (n8 c8 : Nat) (z8 : List Int) (A9 : Option Addr) (n9 c9 : Nat) (z9 : List Int) (x3 : STrip) (w : World) (h0 : Rd w w.heap.size 1 A0 n0 (z0.map (Value.int .i64))) (m0 : n0 ≤ c0 ∧ c0 ≤ maxLen ∧ c0 * 8 ≤ 140737488351232) (h8 : Rd w w.heap.size 1 A8 n8 (z8.map (Value.int .i64))) (m8 : n8 ≤ c8 ∧ c8 ≤ maxLen ∧ c8 * 8 ≤ 140737488351232) (h9 : Rd w w.heap.size 1 A9 n9 (z9.map (Value.int .i64))) (m9 : n9 ≤ c9 ∧ c9 ≤ maxLen ∧ c9 * 8 ≤ 140737488351232) (_t3 : True) (s3 : TL w x3.A x3.c x3.xs) :
    Calls Try.prog 9 #[.slice A0 n0 c0, .slice A8 n8 c8, .slice A9 n9 c9, .slice x3.A x3.xs.length x3.c] w fun e w' => e = .returned (.bool true) ∧ Below w.heap.size w w' := by
  have H0 := Lib.hid h0
  have Hm0 := Lib.hid (show n0 ≤ maxLen by omega)
  have H8 := Lib.hid h8
  have Hm8 := Lib.hid (show n8 ≤ maxLen by omega)
  have H9 := Lib.hid h9
  have Hm9 := Lib.hid (show n9 ≤ maxLen by omega)
  obtain ⟨RA, rc, rs⟩ := x3
  simp only at s3 ⊢
  have HR := Lib.hid s3
  clear h0 m0 h8 m8 h9 m9 s3
  go_enter Try.func9, Try.ntmps9
  go_wp2_with fail
  refine (trips_any A0 n0 c0 z0 w H0.out Hm0.out).mono ?_
  rintro e w1 ⟨A1, c1, xs, rfl, ho1, hl1, hg1, hb1⟩
  have HG1 := Lib.hid hg1
  have HX := Lib.hid (ho1.tl (by omega))
  have HB1 := Lib.hid hb1
  have HXO := Lib.hid (own_at0 ho1.o)
  have HCX := Lib.hid (hg1.chk (by omega))
  clear ho1 hg1 hb1
  go_wp2_with fail
  refine (other_any A1 A8 c1 n8 c8 xs z8 w1 HX.out HG1.out.asc (fun t ht => by have := HG1.out.ok t ht; exact ⟨this.1, this.2.2.1, this.2.2.2⟩) hl1 (H8.out.grow HB1.out |>.more HB1.out.size) Hm8.out).mono ?_
  rintro e w2 ⟨A2, c2, ys, rfl, ho2, hl2, hc2, hb2⟩
  have HY := Lib.hid (ho2.tl (by omega))
  have HYO := Lib.hid (own_at0 ho2.o)
  have HX2 := Lib.hid (HX.out.go hb2)
  have HB2 := Lib.hid (HB1.out.trans (hb2.mono HB1.out.size))
  have HCY := Lib.hid hc2
  clear ho2 hb2 hc2 HX HB1
  go_wp2_with fail
  refine (other_any A1 A9 c1 n9 c9 xs z9 w2 HX2.out HG1.out.asc (fun t ht => by have := HG1.out.ok t ht; exact ⟨this.1, this.2.2.1, this.2.2.2⟩) hl1 (H9.out.grow HB2.out |>.more HB2.out.size) Hm9.out).mono ?_
  rintro e w3 ⟨A3, c3, vs, rfl, ho3, hl3, hc3, hb3⟩
  have HV := Lib.hid (ho3.tl (by omega))
  have HX3 := Lib.hid (HX2.out.go hb3)
  have HY3 := Lib.hid (HY.out.go hb3)
  have HB3 := Lib.hid (HB2.out.trans (hb3.mono HB2.out.size))
  have HCV := Lib.hid hc3
  clear ho3 hb3 hc3 HX2 HY HB2
  go_wp2_with fail
  refine (merge_any A1 A2 A3 c1 c2 c3 xs ys vs w3 HX3.out HY3.out HV.out HXO.out).mono ?_
  rintro e w4 ⟨B4, C4, d4, f4, t4, s4, rfl, ht4, he4, hv4, hw4, hb4⟩
  have HT4 := Lib.hid ht4.l
  have HE4 := Lib.hid he4
  have HV4 := Lib.hid hv4
  have HW4 := Lib.hid hw4
  have HX4 := Lib.hid (HX3.out.go hb4)
  have HY4 := Lib.hid (HY3.out.go hb4)
  have HZ4 := Lib.hid (HV.out.go hb4)
  have HB4 := Lib.hid (HB3.out.trans (hb4.mono HB3.out.size))
  clear ht4 he4 hv4 hw4 hb4 HX3 HY3 HV HB3
  go_wp2_with fail
  refine (rmerge_any A1 A2 A3 c1 c2 c3 xs ys vs w4 HX4.out HY4.out HZ4.out).mono ?_
  rintro e w5 ⟨B5, C5, d5, f5, t5, s5, rfl, ht5, he5, hv5, hw5, hb5⟩
  have HT5 := Lib.hid ht5.l
  have HE5 := Lib.hid he5
  have HV5 := Lib.hid (show t5.map CT.pt = t4.map CT.pt from hv5.trans HV4.out.symm)
  have HW5 := Lib.hid (show s5.map CE.pe = s4.map CE.pe from hw5.trans HW4.out.symm)
  have HT45 := Lib.hid (HT4.out.go hb5)
  have HE45 := Lib.hid (HE4.out.go hb5)
  have HX5 := Lib.hid (HX4.out.go hb5)
  have HZ5 := Lib.hid (HZ4.out.go hb5)
  have HB5 := Lib.hid (HB4.out.trans (hb5.mono HB4.out.size))
  clear ht5 he5 hv5 hw5 hb5 HX4 HY4 HZ4 HB4 HT4 HE4 HV4 HW4
  generalize (mgV (xs.map CT.pt) (ys.map CT.pt) (vs.map CT.pt)).1 = k1 at *
  go_wp2_with fail
  refine (merge_any A1 RA A3 c1 rc c3 xs rs vs w5 HX5.out (HR.out.go HB5.out) HZ5.out HXO.out).mono ?_
  rintro e w6 ⟨B6, C6, d6, f6, t6, s6, rfl, ht6, he6, hv6, hw6, hb6⟩
  have HT46 := Lib.hid (HT45.out.go hb6)
  have HE46 := Lib.hid (HE45.out.go hb6)
  have HT56 := Lib.hid (HT5.out.go hb6)
  have HE56 := Lib.hid (HE5.out.go hb6)
  have HX6 := Lib.hid (HX5.out.go hb6)
  have HZ6 := Lib.hid (HZ5.out.go hb6)
  have HB6 := Lib.hid (HB5.out.trans (hb6.mono HB5.out.size))
  clear ht6 he6 hv6 hw6 hb6 HX5 HZ5 HB5 HT45 HE45 HT5 HE5
  go_wp2_with fail
  refine (rmerge_any A1 RA A3 c1 rc c3 xs rs vs w6 HX6.out (HR.out.go HB6.out) HZ6.out).mono ?_
  rintro e w7 ⟨B7, C7, d7, f7, t7, s7, rfl, ht7, he7, hv7, hw7, hb7⟩
  have HT47 := Lib.hid (HT46.out.go hb7)
  have HE47 := Lib.hid (HE46.out.go hb7)
  have HT57 := Lib.hid (HT56.out.go hb7)
  have HE57 := Lib.hid (HE56.out.go hb7)
  have HB7 := Lib.hid (HB6.out.trans (hb7.mono HB6.out.size))
  clear ht7 he7 hv7 hw7 hb7 HX6 HZ6 HB6 HT46 HE46 HT56 HE56
  generalize (mgV (xs.map CT.pt) (rs.map CT.pt) (vs.map CT.pt)).1 = k2 at *
  have hk1 : ((k1 : Int) == (k1 : Int)) = true := by simp
  have hk2 : ((k2 : Int) == (k2 : Int)) = true := by simp
  go_wp2_with fail
  refine (awake_any w7).mono ?_
  rintro e w8 ⟨rfl, hb8⟩
  have HT48 := Lib.hid (HT47.out.go hb8)
  have HE48 := Lib.hid (HE47.out.go hb8)
  have HT58 := Lib.hid (HT57.out.go hb8)
  have HE58 := Lib.hid (HE57.out.go hb8)
  have HB8 := Lib.hid (HB7.out.trans (hb8.mono HB7.out.size))
  clear hb8 HB7 HT47 HE47 HT57 HE57
  go_wp2_with fail
  refine (sameT_yes B4 B5 d4 d5 _ t4 t5 w8 HT48.out HT58.out rfl HV5.out).mono ?_
  rintro e wa ⟨rfl, hba⟩
  have HE4a := Lib.hid (HE48.out.go hba)
  have HE5a := Lib.hid (HE58.out.go hba)
  have HBa := Lib.hid (HB8.out.trans (hba.mono HB8.out.size))
  clear hba HB8 HT48 HE48 HT58 HE58
  go_wp2_with fail
  refine (sameE_yes C4 C5 f4 f5 _ s4 s5 wa HE4a.out HE5a.out rfl HW5.out).mono ?_
  rintro e wb ⟨rfl, hbb⟩
  have HBb := Lib.hid (HBa.out.trans (hbb.mono HBa.out.size))
  clear hbb HBa HE4a HE5a
  go_wp2_with fail
  go_ret
  exact ⟨rfl, HBb.out⟩
end Go.Proofs.Ythfifejjfnmpoaa
