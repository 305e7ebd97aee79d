import Derived.Test.YthfifejjfnmpoaaTe1
import Derived.Test.YthfifejjfnmpoaaTp25
import Derived.Test.YthfifejjfnmpoaaTpMath10
namespace Go.Proofs.Ythfifejjfnmpoaa
open Go.RowKit
set_option maxRecDepth 100000 in
set_option maxHeartbeats 6400000 in
theorem dpatch_true (A0 : Option Addr) (n0 c0 : Nat) (z0 : List Int) (A9 : Option Addr) (n9 c9 : Nat) (z9 : List Int) (w : World) (h0 : Rd w w.heap.size 1 A0 n0 (z0.map (Value.int .i64))) (m0 : n0 ≤ c0 ∧ c0 ≤ maxLen ∧ c0 * 8 ≤ 140737488351232) (h9 : Rd w w.heap.size 1 A9 n9 (z9.map (Value.int .i64))) (m9 : n9 ≤ c9 ∧ c9 ≤ maxLen ∧ c9 * 8 ≤ 140737488351232) :
    Calls Try.prog 7 #[.slice A0 n0 c0, .slice A9 n9 c9] w fun e w' => e = .returned (.bool true) ∧ Below w.heap.size w w' := by
  have H0 := Lib.hid h0
  have Hm0 := Lib.hid (show n0 ≤ maxLen by omega)
  have H9 := Lib.hid h9
  have Hm9 := Lib.hid (show n9 ≤ maxLen by omega)
  clear h0 m0 h9 m9
  go_enter Try.func7, Try.ntmps7
  go_wp2_with fail
  refine (trips_any A0 n0 c0 z0 w H0.out Hm0.out).mono ?_
  rintro e w1 ⟨A1, c1, xs, rfl, ho1, hl1, hg1, hb1⟩
  have HG1 := Lib.hid hg1
  have HX := Lib.hid (ho1.tl (by omega))
  have HB1 := Lib.hid hb1
  have HXO := Lib.hid (own_at0 ho1.o)
  have HCX := Lib.hid (hg1.chk (by omega))
  clear ho1 hg1 hb1
  go_wp2_with fail
  refine (other_any A1 A9 c1 n9 c9 xs z9 w1 HX.out HG1.out.asc (fun t ht => by have := HG1.out.ok t ht; exact ⟨this.1, this.2.2.1, this.2.2.2⟩) hl1 (H9.out.grow HB1.out |>.more HB1.out.size) Hm9.out).mono ?_
  rintro e w2 ⟨A2, c2, ys, rfl, ho2, hl2, hc2, hb2⟩
  have HY := Lib.hid (ho2.tl (by omega))
  have HYO := Lib.hid (own_at0 ho2.o)
  have HX2 := Lib.hid (HX.out.go hb2)
  have HB2 := Lib.hid (HB1.out.trans (hb2.mono HB1.out.size))
  have HCY := Lib.hid hc2
  clear ho2 hb2 hc2 HX HB1
  go_wp2_with fail
  have HC1 := Lib.hid (show dfC (xs.map CT.pt) (ys.map CT.pt) = 0 by unfold dfC; rw [if_pos ⟨HCX.out, HCY.out⟩])
  have HV1 := Lib.hid (show dfV (xs.map CT.pt) (ys.map CT.pt) = diffM (xs.map CT.pt) (ys.map CT.pt) by unfold dfV; rw [if_pos ⟨HCX.out, HCY.out⟩])
  refine (diff_any A1 A2 c1 c2 xs ys w2 HX2.out HY.out).mono ?_
  rintro e w3 ⟨B3, d3, e3, rfl, ho3, hv3, hl3, hb3⟩
  rw [HC1.out]
  have HV3 := Lib.hid (hv3.trans HV1.out)
  have HE3 := Lib.hid (ho3.el (by omega))
  have HB3 := Lib.hid (HB2.out.trans (hb3.mono HB2.out.size))
  have HX3 := Lib.hid (HX2.out.go hb3)
  have HY3 := Lib.hid (HY.out.go hb3)
  clear ho3 hv3 hb3 HX2 HY HB2 HC1 HV1
  go_wp2_with fail
  refine (app_any A1 B3 c1 d3 xs e3 w3 HX3.out HE3.out HXO.out).mono ?_
  rintro e w4 ⟨A4, c4, t4, rfl, ht4, hv4, hb4⟩
  have HP4 := Lib.hid (show apV (xs.map CT.pt) (e3.map CE.pe) = (0, ys.map CT.pt) by rw [HV3.out]; exact apV_patch HCX.out HCY.out)
  rw [HP4.out]
  rw [HP4.out] at hv4
  have HV4 := Lib.hid hv4
  have HT4 := Lib.hid ht4.l
  have HE4 := Lib.hid (HE3.out.go hb4)
  have HX4 := Lib.hid (HX3.out.go hb4)
  have HY4 := Lib.hid (HY3.out.go hb4)
  have HB4 := Lib.hid (HB3.out.trans (hb4.mono HB3.out.size))
  clear ht4 hv4 hb4 HE3 HX3 HY3 HB3 HP4
  go_wp2_with fail
  refine (inv_any B3 d3 e3 w4 HE4.out).mono ?_
  rintro e w5 ⟨A5, f5, o5, rfl, h5, hv5, hb5⟩
  have HV5 := Lib.hid (show o5.map CE.pe = diffM (ys.map CT.pt) (xs.map CT.pt) by rw [hv5, HV3.out, inv_diff])
  have HE5 := Lib.hid h5
  have HT5 := Lib.hid (HT4.out.go hb5)
  have HX5 := Lib.hid (HX4.out.go hb5)
  have HY5 := Lib.hid (HY4.out.go hb5)
  have HB5 := Lib.hid (HB4.out.trans (hb5.mono HB4.out.size))
  clear h5 hv5 hb5 HT4 HX4 HY4 HB4 HE4 HV3
  go_wp2_with fail
  refine (app_any A2 A5 c2 f5 ys o5 w5 HY5.out HE5.out HYO.out).mono ?_
  rintro e w6 ⟨A6, c6, t6, rfl, ht6, hv6, hb6⟩
  have HP6 := Lib.hid (show apV (ys.map CT.pt) (o5.map CE.pe) = (0, xs.map CT.pt) by rw [HV5.out]; exact apV_patch HCY.out HCX.out)
  rw [HP6.out]
  rw [HP6.out] at hv6
  have HV6 := Lib.hid hv6
  have HT6 := Lib.hid ht6.l
  have HT46 := Lib.hid (HT5.out.go hb6)
  have HX6 := Lib.hid (HX5.out.go hb6)
  have HY6 := Lib.hid (HY5.out.go hb6)
  have HB6 := Lib.hid (HB5.out.trans (hb6.mono HB5.out.size))
  clear ht6 hv6 hb6 HT5 HE5 HX5 HY5 HB5 HP6 HV5
  go_wp2_with fail
  refine (awake_any w6).mono ?_
  rintro e w7 ⟨rfl, hb7⟩
  have HT7 := Lib.hid (HT6.out.go hb7)
  have HT47 := Lib.hid (HT46.out.go hb7)
  have HX7 := Lib.hid (HX6.out.go hb7)
  have HY7 := Lib.hid (HY6.out.go hb7)
  have HB7 := Lib.hid (HB6.out.trans (hb7.mono HB6.out.size))
  clear hb7 HT6 HT46 HX6 HY6 HB6
  go_wp2_with fail
  refine (sameT_yes A4 A2 c4 c2 _ t4 ys w7 HT47.out HY7.out rfl HV4.out.symm).mono ?_
  rintro e w8 ⟨rfl, hb8⟩
  have HT8 := Lib.hid (HT7.out.go hb8)
  have HX8 := Lib.hid (HX7.out.go hb8)
  have HB8 := Lib.hid (HB7.out.trans (hb8.mono HB7.out.size))
  clear hb8 HT7 HT47 HX7 HY7 HB7
  go_wp2_with fail
  refine (sameT_yes A6 A1 c6 c1 _ t6 xs w8 HT8.out HX8.out rfl HV6.out.symm).mono ?_
  rintro e wa ⟨rfl, hba⟩
  have HBa := Lib.hid (HB8.out.trans (hba.mono HB8.out.size))
  clear hba
  go_wp2_with fail
  go_ret
  exact ⟨rfl, HBa.out⟩
end Go.Proofs.Ythfifejjfnmpoaa
