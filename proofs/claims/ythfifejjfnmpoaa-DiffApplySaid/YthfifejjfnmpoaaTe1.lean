import Derived.Test.YthfifejjfnmpoaaTp22
import Derived.Test.YthfifejjfnmpoaaTp23
import Derived.Test.YthfifejjfnmpoaaOpenTp
namespace Go.Proofs.Ythfifejjfnmpoaa
open Go.RowKit
set_option maxRecDepth 100000 in
set_option maxHeartbeats 6400000 in
theorem ddiff_true (A0 : Option Addr) (n0 c0 : Nat) (z0 : List Int) (A9 : Option Addr) (n9 c9 : Nat) (z9 : List Int) (x2 : STrip) (w : World) (h0 : Rd w w.heap.size 1 A0 n0 (z0.map (Value.int .i64))) (m0 : n0 ≤ c0 ∧ c0 ≤ maxLen ∧ c0 * 8 ≤ 140737488351232) (h9 : Rd w w.heap.size 1 A9 n9 (z9.map (Value.int .i64))) (m9 : n9 ≤ c9 ∧ c9 ≤ maxLen ∧ c9 * 8 ≤ 140737488351232) (_t2 : True) (s2 : TL w x2.A x2.c x2.xs) :
    Calls Try.prog 4 #[.slice A0 n0 c0, .slice A9 n9 c9, .slice x2.A x2.xs.length x2.c] w fun e w' => e = .returned (.bool true) ∧ Below w.heap.size w w' := by
  have H0 := Lib.hid h0
  have Hm0 := Lib.hid (show n0 ≤ maxLen by omega)
  have H9 := Lib.hid h9
  have Hm9 := Lib.hid (show n9 ≤ maxLen by omega)
  obtain ⟨RA, rc, rs⟩ := x2
  simp only at s2 ⊢
  have HR := Lib.hid s2
  clear h0 m0 h9 m9 s2
  go_enter Try.func4, Try.ntmps4
  go_wp2_with fail
  refine (trips_any A0 n0 c0 z0 w H0.out Hm0.out).mono ?_
  rintro e w1 ⟨A1, c1, xs, rfl, ho1, hl1, hg1, hb1⟩
  have HG1 := Lib.hid hg1
  have HX := Lib.hid (ho1.tl (by omega))
  have HB1 := Lib.hid hb1
  have HXO := Lib.hid (own_at0 ho1.o)
  have HCX := Lib.hid (hg1.chk (by omega))
  clear ho1 hg1 hb1
  go_wp2_with fail
  refine (other_any A1 A9 c1 n9 c9 xs z9 w1 HX.out HG1.out.asc (fun t ht => by have := HG1.out.ok t ht; exact ⟨this.1, this.2.2.1, this.2.2.2⟩) hl1 (H9.out.grow HB1.out |>.more HB1.out.size) Hm9.out).mono ?_
  rintro e w2 ⟨A2, c2, ys, rfl, ho2, hl2, hc2, hb2⟩
  have HY := Lib.hid (ho2.tl (by omega))
  have HYO := Lib.hid (own_at0 ho2.o)
  have HX2 := Lib.hid (HX.out.go hb2)
  have HB2 := Lib.hid (HB1.out.trans (hb2.mono HB1.out.size))
  have HCY := Lib.hid hc2
  clear ho2 hb2 hc2 HX HB1
  go_wp2_with fail
  refine (diff_any A1 A2 c1 c2 xs ys w2 HX2.out HY.out).mono ?_
  rintro e w3 ⟨B3, d3, e3, rfl, ho3, hv3, hl3, hb3⟩
  have HE3 := Lib.hid (ho3.el (by omega))
  have HB3 := Lib.hid (HB2.out.trans (hb3.mono HB2.out.size))
  have HV3 := Lib.hid hv3
  have HX3 := Lib.hid (HX2.out.go hb3)
  have HY3 := Lib.hid (HY.out.go hb3)
  clear ho3 hv3 hb3 HX2 HY HB2
  go_wp2_with fail
  refine (rdiff_any A1 A2 c1 c2 xs ys w3 HX3.out HY3.out).mono ?_
  rintro e w4 ⟨B4, d4, e4, rfl, ho4, hv4, hl4, hb4⟩
  have HE4 := Lib.hid (ho4.el (by omega))
  have HE34 := Lib.hid (HE3.out.go hb4)
  have HB4 := Lib.hid (HB3.out.trans (hb4.mono HB3.out.size))
  have HV4 := Lib.hid (show e4.map CE.pe = e3.map CE.pe from hv4.trans HV3.out.symm)
  have HX4 := Lib.hid (HX3.out.go hb4)
  have HY4 := Lib.hid (HY3.out.go hb4)
  clear ho4 hv4 hb4 HX3 HY3 HB3 HV3 HE3
  generalize dfC (xs.map CT.pt) (ys.map CT.pt) = k1 at *
  go_wp2_with fail
  refine (diff_any RA A2 rc c2 rs ys w4 (HR.out.go HB4.out) HY4.out).mono ?_
  rintro e w5 ⟨B5, d5, e5, rfl, ho5, hv5, hl5, hb5⟩
  have HE5 := Lib.hid (ho5.el (by omega))
  have HE35 := Lib.hid (HE34.out.go hb5)
  have HE45 := Lib.hid (HE4.out.go hb5)
  have HB5 := Lib.hid (HB4.out.trans (hb5.mono HB4.out.size))
  have HV5 := Lib.hid hv5
  have HX5 := Lib.hid (HX4.out.go hb5)
  have HY5 := Lib.hid (HY4.out.go hb5)
  clear ho5 hv5 hb5 HX4 HY4 HB4 HE34 HE4
  go_wp2_with fail
  refine (rdiff_any RA A2 rc c2 rs ys w5 (HR.out.go HB5.out) HY5.out).mono ?_
  rintro e w6 ⟨B6, d6, e6, rfl, ho6, hv6, hl6, hb6⟩
  have HE6 := Lib.hid (ho6.el (by omega))
  have HE36 := Lib.hid (HE35.out.go hb6)
  have HE46 := Lib.hid (HE45.out.go hb6)
  have HE56 := Lib.hid (HE5.out.go hb6)
  have HB6 := Lib.hid (HB5.out.trans (hb6.mono HB5.out.size))
  have HV6 := Lib.hid (show e6.map CE.pe = e5.map CE.pe from hv6.trans HV5.out.symm)
  have HX6 := Lib.hid (HX5.out.go hb6)
  clear ho6 hv6 hb6 HX5 HY5 HB5 HE35 HE45 HE5 HV5
  generalize dfC (rs.map CT.pt) (ys.map CT.pt) = k2 at *
  go_wp2_with fail
  refine (diff_any A1 RA c1 rc xs rs w6 HX6.out (HR.out.go HB6.out)).mono ?_
  rintro e w7 ⟨B7, d7, e7, rfl, ho7, hv7, hl7, hb7⟩
  have HE37 := Lib.hid (HE36.out.go hb7)
  have HE47 := Lib.hid (HE46.out.go hb7)
  have HE57 := Lib.hid (HE56.out.go hb7)
  have HE67 := Lib.hid (HE6.out.go hb7)
  have HB7 := Lib.hid (HB6.out.trans (hb7.mono HB6.out.size))
  have HX7 := Lib.hid (HX6.out.go hb7)
  clear ho7 hv7 hb7 HX6 HB6 HE36 HE46 HE56 HE6
  go_wp2_with fail
  refine (rdiff_any A1 RA c1 rc xs rs w7 HX7.out (HR.out.go HB7.out)).mono ?_
  rintro e w8 ⟨B8, d8, e8, rfl, ho8, hv8, hl8, hb8⟩
  have HE38 := Lib.hid (HE37.out.go hb8)
  have HE48 := Lib.hid (HE47.out.go hb8)
  have HE58 := Lib.hid (HE57.out.go hb8)
  have HE68 := Lib.hid (HE67.out.go hb8)
  have HB8 := Lib.hid (HB7.out.trans (hb8.mono HB7.out.size))
  clear ho8 hv8 hb8 HX7 HB7 HE37 HE47 HE57 HE67
  generalize dfC (xs.map CT.pt) (rs.map CT.pt) = k3 at *
  have hk1 : (k1 == k1) = true := by simp
  have hk2 : (k2 == k2) = true := by simp
  have hk3 : (k3 == k3) = true := by simp
  go_wp2_with fail
  refine (awake_any w8).mono ?_
  rintro e wa ⟨rfl, hba⟩
  have HE3a := Lib.hid (HE38.out.go hba)
  have HE4a := Lib.hid (HE48.out.go hba)
  have HE5a := Lib.hid (HE58.out.go hba)
  have HE6a := Lib.hid (HE68.out.go hba)
  have HBa := Lib.hid (HB8.out.trans (hba.mono HB8.out.size))
  clear hba HE38 HE48 HE58 HE68 HB8
  go_wp2_with fail
  refine (sameE_yes B3 B4 d3 d4 _ e3 e4 wa HE3a.out HE4a.out rfl HV4.out).mono ?_
  rintro e wb ⟨rfl, hbb⟩
  have HE5b := Lib.hid (HE5a.out.go hbb)
  have HE6b := Lib.hid (HE6a.out.go hbb)
  have HBb := Lib.hid (HBa.out.trans (hbb.mono HBa.out.size))
  clear hbb HE3a HE4a HE5a HE6a HBa
  go_wp2_with fail
  refine (sameE_yes B5 B6 d5 d6 _ e5 e6 wb HE5b.out HE6b.out rfl HV6.out).mono ?_
  rintro e wc ⟨rfl, hbc⟩
  have HBc := Lib.hid (HBb.out.trans (hbc.mono HBb.out.size))
  clear hbc HE5b HE6b HBb
  go_wp2_with fail
  go_ret
  exact ⟨rfl, HBc.out⟩
end Go.Proofs.Ythfifejjfnmpoaa
