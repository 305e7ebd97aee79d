import Derived.Test.YthfifejjfnmpoaaTe1
import Derived.Test.YthfifejjfnmpoaaTp25
namespace Go.Proofs.Ythfifejjfnmpoaa
open Go.RowKit
theorem inv_twice {l : List PE} : (l.map invE).map invE = l := by
  rw [List.map_map]
  refine (List.map_congr_left (fun e _ => ?_)).trans (List.map_id l)
  exact invE_invE e
set_option maxRecDepth 100000 in
set_option maxHeartbeats 6400000 in
theorem dinvert_true (x0 : SEdit) (A0 : Option Addr) (n0 c0 : Nat) (z0 : List Int) (A9 : Option Addr) (n9 c9 : Nat) (z9 : List Int) (w : World) (_t0 : True) (s0 : EL w x0.A x0.c x0.xs) (h0 : Rd w w.heap.size 1 A0 n0 (z0.map (Value.int .i64))) (m0 : n0 ≤ c0 ∧ c0 ≤ maxLen ∧ c0 * 8 ≤ 140737488351232) (h9 : Rd w w.heap.size 1 A9 n9 (z9.map (Value.int .i64))) (m9 : n9 ≤ c9 ∧ c9 ≤ maxLen ∧ c9 * 8 ≤ 140737488351232) :
    Calls Try.prog 8 #[.slice x0.A x0.xs.length x0.c, .slice A0 n0 c0, .slice A9 n9 c9] w fun e w' => e = .returned (.bool true) ∧ Below w.heap.size w w' := by
  have H0 := Lib.hid h0
  have Hm0 := Lib.hid (show n0 ≤ maxLen by omega)
  have H9 := Lib.hid h9
  have Hm9 := Lib.hid (show n9 ≤ maxLen by omega)
  obtain ⟨RA, rc, rs⟩ := x0
  simp only at s0 ⊢
  have HR := Lib.hid s0
  clear h0 m0 h9 m9 s0
  go_enter Try.func8, Try.ntmps8
  go_wp2_with fail
  refine (trips_any A0 n0 c0 z0 w H0.out Hm0.out).mono ?_
  rintro e w1 ⟨A1, c1, xs, rfl, ho1, hl1, hg1, hb1⟩
  have HG1 := Lib.hid hg1
  have HX := Lib.hid (ho1.tl (by omega))
  have HB1 := Lib.hid hb1
  have HXO := Lib.hid (own_at0 ho1.o)
  have HCX := Lib.hid (hg1.chk (by omega))
  clear ho1 hg1 hb1
  go_wp2_with fail
  refine (other_any A1 A9 c1 n9 c9 xs z9 w1 HX.out HG1.out.asc (fun t ht => by have := HG1.out.ok t ht; exact ⟨this.1, this.2.2.1, this.2.2.2⟩) hl1 (H9.out.grow HB1.out |>.more HB1.out.size) Hm9.out).mono ?_
  rintro e w2 ⟨A2, c2, ys, rfl, ho2, hl2, hc2, hb2⟩
  have HY := Lib.hid (ho2.tl (by omega))
  have HYO := Lib.hid (own_at0 ho2.o)
  have HX2 := Lib.hid (HX.out.go hb2)
  have HB2 := Lib.hid (HB1.out.trans (hb2.mono HB1.out.size))
  have HCY := Lib.hid hc2
  clear ho2 hb2 hc2 HX HB1
  go_wp2_with fail
  refine (rdiff_any A1 A2 c1 c2 xs ys w2 HX2.out HY.out).mono ?_
  rintro e w3 ⟨B3, d3, e3, rfl, ho3, hv3, hl3, hb3⟩
  have HE33 := Lib.hid (ho3.el (by omega))
  have HB3 := Lib.hid (HB2.out.trans (hb3.mono HB2.out.size))
  clear ho3 hv3 hb3 HX2 HY HB2
  generalize dfC (xs.map CT.pt) (ys.map CT.pt) = k1 at *
  go_wp2_with fail
  refine (awake_any w3).mono ?_
  rintro e w4 ⟨rfl, hb4⟩
  have HB4 := Lib.hid (HB3.out.trans ((hb4).mono HB3.out.size))
  have HE34 := Lib.hid (HE33.out.go hb4)
  clear HE33 HB3
  go_wp2_with fail
  refine (inv_any RA rc rs w4 (HR.out.go HB4.out)).mono ?_
  rintro e w5 ⟨A5, f5, o5, rfl, h5, hv5, hb5⟩
  have HB5 := Lib.hid (HB4.out.trans ((hb5).mono HB4.out.size))
  have HE35 := Lib.hid (HE34.out.go hb5)
  clear HE34 HB4
  go_wp2_with fail
  refine (rinv_any RA rc rs w5 (HR.out.go HB5.out)).mono ?_
  rintro e w6 ⟨A6, f6, o6, rfl, h6, hv6, hb6⟩
  have HB6 := Lib.hid (HB5.out.trans ((hb6).mono HB5.out.size))
  have HE36 := Lib.hid (HE35.out.go hb6)
  clear HE35 HB5
  go_wp2_with fail
  refine (sameE_yes A5 A6 f5 f6 _ o5 o6 w6 (h5.go hb6) h6 rfl (hv6.trans hv5.symm)).mono ?_
  rintro e w7 ⟨rfl, hb7⟩
  have HB7 := Lib.hid (HB6.out.trans ((hb7).mono HB6.out.size))
  have HE37 := Lib.hid (HE36.out.go hb7)
  clear HE36 HB6
  clear h5 h6 hv5 hv6
  go_wp2_with fail
  refine (inv_any RA rc rs w7 (HR.out.go HB7.out)).mono ?_
  rintro e w8 ⟨A8, f8, o8, rfl, h8, hv8, hb8⟩
  have HB8 := Lib.hid (HB7.out.trans ((hb8).mono HB7.out.size))
  have HE38 := Lib.hid (HE37.out.go hb8)
  clear HE37 HB7
  go_wp2_with fail
  refine (inv_any A8 f8 o8 w8 h8).mono ?_
  rintro e wa ⟨A10, fa, oa, rfl, ha, hva, hba⟩
  have HBa := Lib.hid (HB8.out.trans ((hba).mono HB8.out.size))
  have HE3a := Lib.hid (HE38.out.go hba)
  clear HE38 HB8
  rw [hv8, inv_twice] at hva
  have HA := Lib.hid ha
  have HVA := Lib.hid hva
  clear ha hva h8 hv8
  go_wp2_with fail
  refine (sameE_yes A10 RA fa rc _ oa rs wa HA.out (HR.out.go HBa.out) rfl HVA.out.symm).mono ?_
  rintro e wb ⟨rfl, hbb⟩
  have HBb := Lib.hid (HBa.out.trans ((hbb).mono HBa.out.size))
  have HE3b := Lib.hid (HE3a.out.go hbb)
  clear HE3a HBa
  clear HA HVA
  go_wp2_with fail
  refine (inv_any B3 d3 e3 wb HE3b.out).mono ?_
  rintro e wc ⟨Ac, fc, oc, rfl, hc, hvc, hbc⟩
  have HBc := Lib.hid (HBb.out.trans ((hbc).mono HBb.out.size))
  have HE3c := Lib.hid (HE3b.out.go hbc)
  clear HE3b HBb
  go_wp2_with fail
  refine (rinv_any B3 d3 e3 wc HE3c.out).mono ?_
  rintro e wd ⟨Ad, fd, od, rfl, hd, hvd, hbd⟩
  have HBd := Lib.hid (HBc.out.trans ((hbd).mono HBc.out.size))
  have HE3d := Lib.hid (HE3c.out.go hbd)
  clear HE3c HBc
  go_wp2_with fail
  refine (sameE_yes Ac Ad fc fd _ oc od wd (hc.go hbd) hd rfl (hvd.trans hvc.symm)).mono ?_
  rintro e we ⟨rfl, hbe⟩
  have HBe := Lib.hid (HBd.out.trans (hbe.mono HBd.out.size))
  clear hbe hc hd hvc hvd
  go_wp2_with fail
  go_ret
  exact ⟨rfl, HBe.out⟩
end Go.Proofs.Ythfifejjfnmpoaa
