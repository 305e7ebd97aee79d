import Derived.Test.YthfifejjfnmpoaaTe1
import Derived.Test.YthfifejjfnmpoaaTpMath10
namespace Go.Proofs.Ythfifejjfnmpoaa
open Go.RowKit
set_option maxRecDepth 100000 in
set_option maxHeartbeats 12800000 in
theorem dsides_true (A0 : Option Addr) (n0 c0 : Nat) (z0 : List Int) (A8 : Option Addr) (n8 c8 : Nat) (z8 : List Int) (A9 : Option Addr) (n9 c9 : Nat) (z9 : List Int) (w : World) (h0 : Rd w w.heap.size 1 A0 n0 (z0.map (Value.int .i64))) (m0 : n0 ≤ c0 ∧ c0 ≤ maxLen ∧ c0 * 8 ≤ 140737488351232) (h8 : Rd w w.heap.size 1 A8 n8 (z8.map (Value.int .i64))) (m8 : n8 ≤ c8 ∧ c8 ≤ maxLen ∧ c8 * 8 ≤ 140737488351232) (h9 : Rd w w.heap.size 1 A9 n9 (z9.map (Value.int .i64))) (m9 : n9 ≤ c9 ∧ c9 ≤ maxLen ∧ c9 * 8 ≤ 140737488351232) :
    Calls Try.prog 10 #[.slice A0 n0 c0, .slice A8 n8 c8, .slice A9 n9 c9] w fun e w' => e = .returned (.bool true) ∧ Below w.heap.size w w' := by
  have H0 := Lib.hid h0
  have Hm0 := Lib.hid (show n0 ≤ maxLen by omega)
  have H8 := Lib.hid h8
  have Hm8 := Lib.hid (show n8 ≤ maxLen by omega)
  have H9 := Lib.hid h9
  have Hm9 := Lib.hid (show n9 ≤ maxLen by omega)
  clear h0 m0 h8 m8 h9 m9
  go_enter Try.func10, Try.ntmps10
  go_wp2_with fail
  refine (trips_any A0 n0 c0 z0 w H0.out Hm0.out).mono ?_
  rintro e w1 ⟨A1, c1, xs, rfl, ho1, hl1, hg1, hb1⟩
  have HG1 := Lib.hid hg1
  have HX := Lib.hid (ho1.tl (by omega))
  have HB1 := Lib.hid hb1
  have HXO := Lib.hid (own_at0 ho1.o)
  have HCX := Lib.hid (hg1.chk (by omega))
  clear ho1 hg1 hb1
  go_wp2_with fail
  refine (other_any A1 A8 c1 n8 c8 xs z8 w1 HX.out HG1.out.asc (fun t ht => by have := HG1.out.ok t ht; exact ⟨this.1, this.2.2.1, this.2.2.2⟩) hl1 (H8.out.grow HB1.out |>.more HB1.out.size) Hm8.out).mono ?_
  rintro e w2 ⟨A2, c2, ys, rfl, ho2, hl2, hc2, hb2⟩
  have HY := Lib.hid (ho2.tl (by omega))
  have HYO := Lib.hid (own_at0 ho2.o)
  have HX2 := Lib.hid (HX.out.go hb2)
  have HB2 := Lib.hid (HB1.out.trans (hb2.mono HB1.out.size))
  have HCY := Lib.hid hc2
  clear ho2 hb2 hc2 HX HB1
  go_wp2_with fail
  refine (other_any A1 A9 c1 n9 c9 xs z9 w2 HX2.out HG1.out.asc (fun t ht => by have := HG1.out.ok t ht; exact ⟨this.1, this.2.2.1, this.2.2.2⟩) hl1 (H9.out.grow HB2.out |>.more HB2.out.size) Hm9.out).mono ?_
  rintro e w3 ⟨A3, c3, vs, rfl, ho3, hl3, hc3, hb3⟩
  have HV := Lib.hid (ho3.tl (by omega))
  have HX3 := Lib.hid (HX2.out.go hb3)
  have HY3 := Lib.hid (HY.out.go hb3)
  have HB3 := Lib.hid (HB2.out.trans (hb3.mono HB2.out.size))
  have HCV := Lib.hid hc3
  clear ho3 hb3 hc3 HX2 HY HB2
  go_wp2_with fail
  refine (merge_any A1 A2 A1 c1 c2 c1 xs ys xs w3 HX3.out HY3.out HX3.out HXO.out).mono ?_
  rintro e w4 ⟨B4, C4, d4, f4, t4, s4, rfl, ht4, he4, hv4, hw4, hb4⟩
  have E4 := mgV_right HCX.out HCY.out
  rw [E4] at hv4 hw4 ⊢
  have hs4 : s4 = [] := by simpa using hw4
  subst hs4
  have HT4 := Lib.hid ht4.l
  have HV4 := Lib.hid hv4
  have HX4 := Lib.hid (HX3.out.go hb4)
  have HY4 := Lib.hid (HY3.out.go hb4)
  have HZ4 := Lib.hid (HV.out.go hb4)
  have HB4 := Lib.hid (HB3.out.trans (hb4.mono HB3.out.size))
  clear ht4 he4 hv4 hw4 hb4 E4 HX3 HY3 HV HB3
  go_wp2_with fail
  refine (merge_any A1 A1 A2 c1 c1 c2 xs xs ys w4 HX4.out HX4.out HY4.out HXO.out).mono ?_
  rintro e w5 ⟨B5, C5, d5, f5, t5, s5, rfl, ht5, he5, hv5, hw5, hb5⟩
  have E5 := mgV_left HCX.out HCY.out
  rw [E5] at hv5 hw5 ⊢
  have hs5 : s5 = [] := by simpa using hw5
  subst hs5
  have HT45 := Lib.hid (HT4.out.go hb5)
  have HT5 := Lib.hid ht5.l
  have HV5 := Lib.hid hv5
  have HX5 := Lib.hid (HX4.out.go hb5)
  have HY5 := Lib.hid (HY4.out.go hb5)
  have HZ5 := Lib.hid (HZ4.out.go hb5)
  have HB5 := Lib.hid (HB4.out.trans (hb5.mono HB4.out.size))
  clear ht5 he5 hv5 hw5 hb5 E5 HX4 HY4 HZ4 HB4 HT4
  go_wp2_with fail
  refine (sameT_yes B4 A2 d4 c2 _ t4 ys w5 HT45.out HY5.out rfl HV4.out.symm).mono ?_
  rintro e w6 ⟨rfl, hb6⟩
  have HT6 := Lib.hid (HT5.out.go hb6)
  have HX6 := Lib.hid (HX5.out.go hb6)
  have HY6 := Lib.hid (HY5.out.go hb6)
  have HZ6 := Lib.hid (HZ5.out.go hb6)
  have HB6 := Lib.hid (HB5.out.trans (hb6.mono HB5.out.size))
  clear hb6 HX5 HY5 HZ5 HB5 HT5 HT45
  go_wp2_with fail
  refine (sameT_yes B5 A2 d5 c2 _ t5 ys w6 HT6.out HY6.out rfl HV5.out.symm).mono ?_
  rintro e w7 ⟨rfl, hb7⟩
  have HX7 := Lib.hid (HX6.out.go hb7)
  have HY7 := Lib.hid (HY6.out.go hb7)
  have HZ7 := Lib.hid (HZ6.out.go hb7)
  have HB7 := Lib.hid (HB6.out.trans (hb7.mono HB6.out.size))
  clear hb7 HX6 HY6 HZ6 HB6 HT6
  go_wp2_with fail
  have HSW := Lib.hid (mgV_swap HCX.out HCY.out HCV.out (by simpa using hl1) (by simpa using hl2) (by simpa using hl3))
  refine (merge_any A1 A2 A3 c1 c2 c3 xs ys vs w7 HX7.out HY7.out HZ7.out HXO.out).mono ?_
  rintro e w8 ⟨B8, C8, d8, f8, t8, s8, rfl, ht8, he8, hv8, hw8, hb8⟩
  rw [HSW.out.1]
  have HT8 := Lib.hid ht8.l
  have HV8 := Lib.hid hv8
  have HS8 := Lib.hid (show (mgV (xs.map CT.pt) (ys.map CT.pt) (vs.map CT.pt)).2.2.length = s8.length by rw [← hw8, List.length_map])
  have hs8n : s8.length ≤ 1034834473170 := he8.sz
  have HX8 := Lib.hid (HX7.out.go hb8)
  have HY8 := Lib.hid (HY7.out.go hb8)
  have HZ8 := Lib.hid (HZ7.out.go hb8)
  have HB8 := Lib.hid (HB7.out.trans (hb8.mono HB7.out.size))
  clear ht8 he8 hv8 hw8 hb8 HX7 HY7 HZ7 HB7
  go_wp2_with fail
  refine (merge_any A1 A3 A2 c1 c3 c2 xs vs ys w8 HX8.out HZ8.out HY8.out HXO.out).mono ?_
  rintro e wa ⟨B9, C9, d9, f9, t9, s9, rfl, ht9, he9, hv9, hw9, hb9⟩
  rw [HSW.out.2.1]
  have hs89 : s9.length = s8.length := by
    have h1 := HSW.out.2.2.1
    rw [HS8.out, ← hw9, List.length_map] at h1
    exact h1.symm
  have HT9 := Lib.hid ht9.l
  have HT89 := Lib.hid (HT8.out.go hb9)
  have HEQ := Lib.hid (show s8.length = 0 → t9.map CT.pt = t8.map CT.pt from fun h => by rw [hv9, HV8.out]; exact HSW.out.2.2.2 (by rw [HS8.out]; exact h))
  have HB9 := Lib.hid (HB8.out.trans (hb9.mono HB8.out.size))
  rw [hs89]
  clear ht9 he9 hv9 hw9 hb9 hs89 HX8 HY8 HZ8 HB8 HT8 HSW HS8
  generalize s8.length = ns at *
  go_wp2_with fail
  refine (awake_any wa).mono ?_
  rintro e wb ⟨rfl, hbb⟩
  have HTa := Lib.hid (HT89.out.go hbb)
  have HTb := Lib.hid (HT9.out.go hbb)
  have HBb := Lib.hid (HB9.out.trans (hbb.mono HB9.out.size))
  clear hbb HT9 HT89 HB9
  by_cases hz : ns = 0
  · subst hz
    have HQ := Lib.hid (HEQ.out rfl)
    go_wp2_with fail
    refine (sameT_yes B8 B9 d8 d9 _ t8 t9 wb HTa.out HTb.out rfl HQ.out).mono ?_
    rintro e wc ⟨rfl, hbc⟩
    have HBc := Lib.hid (HBb.out.trans (hbc.mono HBb.out.size))
    clear hbc
    go_wp2_with fail
    go_ret
    exact ⟨rfl, HBc.out⟩
  · have hpos : decide ((ns : Int) > 0) = true := by simp; omega
    have hpos2 : decide (0 < ns) = true := by simp; omega
    go_wp2_with fail
    go_ret
    exact ⟨rfl, HBb.out⟩
end Go.Proofs.Ythfifejjfnmpoaa
