import Derived.Test.YthfifejjfnmpoaaTe1
import Derived.Test.YthfifejjfnmpoaaTp30
import Derived.Test.YthfifejjfnmpoaaTp25
import Derived.Test.YthfifejjfnmpoaaCut
import Derived.Test.YthfifejjfnmpoaaOpenTp
namespace Go.Proofs.Ythfifejjfnmpoaa
open Go.RowKit
set_option linter.unusedSimpArgs false in
set_option maxRecDepth 100000 in
set_option maxHeartbeats 16000000 in
theorem dapply_true (A0 : Option Addr) (n0 c0 : Nat) (z0 : List Int) (A9 : Option Addr) (n9 c9 : Nat) (z9 : List Int) (x0 : SEdit) (a3 a4 a5 : Int) (w : World) (h0 : Rd w w.heap.size 1 A0 n0 (z0.map (Value.int .i64))) (m0 : n0 ≤ c0 ∧ c0 ≤ maxLen ∧ c0 * 8 ≤ 140737488351232) (h9 : Rd w w.heap.size 1 A9 n9 (z9.map (Value.int .i64))) (m9 : n9 ≤ c9 ∧ c9 ≤ maxLen ∧ c9 * 8 ≤ 140737488351232) (_t0 : True) (s0 : EL w x0.A x0.c x0.xs) (_w3 : (Lit.int .i64 a3).wf = true) (_w4 : (Lit.int .i64 a4).wf = true) (_w5 : (Lit.int .i64 a5).wf = true) :
    Calls Try.prog 5 #[.slice A0 n0 c0, .slice A9 n9 c9, .slice x0.A x0.xs.length x0.c, .int .i64 a3, .int .i64 a4, .int .i64 a5] w fun e w' => e = .returned (.bool true) ∧ Below w.heap.size w w' := by
  have H0 := Lib.hid h0
  have Hm0 := Lib.hid (show n0 ≤ maxLen by omega)
  have H9 := Lib.hid h9
  have Hm9 := Lib.hid (show n9 ≤ maxLen by omega)
  obtain ⟨RA, rc, rs⟩ := x0
  simp only at s0 ⊢
  have HR := Lib.hid s0
  clear h0 m0 h9 m9 s0 _t0 _w3 _w4 _w5
  go_enter Try.func5, Try.ntmps5
  go_wp2_with fail
  refine (trips_any A0 n0 c0 z0 w H0.out Hm0.out).mono ?_
  rintro e w1 ⟨A1, c1, xs, rfl, ho1, hl1, hg1, hb1⟩
  have HG1 := Lib.hid hg1
  have HX := Lib.hid (ho1.tl (by omega))
  have HB1 := Lib.hid hb1
  have HXO := Lib.hid (own_at0 ho1.o)
  have HCX := Lib.hid (hg1.chk (by omega))
  clear ho1 hg1 hb1
  go_wp2_with fail
  refine (other_any A1 A9 c1 n9 c9 xs z9 w1 HX.out HG1.out.asc (fun t ht => by have := HG1.out.ok t ht; exact ⟨this.1, this.2.2.1, this.2.2.2⟩) hl1 (H9.out.grow HB1.out |>.more HB1.out.size) Hm9.out).mono ?_
  rintro e w2 ⟨A2, c2, ys, rfl, ho2, hl2, hc2, hb2⟩
  have HY := Lib.hid (ho2.tl (by omega))
  have HYO := Lib.hid (own_at0 ho2.o)
  have HX2 := Lib.hid (HX.out.go hb2)
  have HB2 := Lib.hid (HB1.out.trans (hb2.mono HB1.out.size))
  have HCY := Lib.hid hc2
  clear ho2 hb2 hc2 HX HB1
  go_wp2_with fail
  refine (rdiff_any A1 A2 c1 c2 xs ys w2 HX2.out HY.out).mono ?_
  rintro e w3 ⟨B3, d3, es, rfl, ho3, hv3, hl3, hb3⟩
  have HO := Lib.hid ho3
  have HB := Lib.hid hb3
  have hbase := hb3.size
  clear ho3 hv3 hb3 HY HCX HCY HYO HG1
  generalize dfC (xs.map CT.pt) (ys.map CT.pt) = k1 at *
  by_cases h0 : es.length = 0
  · have HTL := Lib.hid (HO.out.el (by omega))
    have HXZ := Lib.hid (HX2.out.go HB.out)
    have HBZ := Lib.hid (HB2.out.trans (HB.out.mono HB2.out.size))
    obtain rfl := List.eq_nil_of_length_eq_zero h0
    go_wp2_with fail
    obtain ⟨j1, hj1⟩ : ∃ j : Nat, (apV (xs.map CT.pt) (([]).map CE.pe)).1 = j := ⟨_, rfl⟩
    have HJ := Lib.hid hj1
    obtain ⟨j2, hj2⟩ : ∃ j : Nat, (apV (xs.map CT.pt) (rs.map CE.pe)).1 = j := ⟨_, rfl⟩
    have HK := Lib.hid hj2
    clear hj1 hj2
    refine (app_any A1 (B3) c1 (d3) xs ([]) (w3) HXZ.out HTL.out HXO.out).mono ?_
    rintro e w4 ⟨A4, c4, t4, rfl, ht4, hv4, hb4⟩
    rw [HJ.out]
    have HT4 := Lib.hid ht4.l
    have HV4 := Lib.hid hv4
    have HE4 := Lib.hid (HTL.out.go hb4)
    have HX4 := Lib.hid (HXZ.out.go hb4)
    have HB4 := Lib.hid (HBZ.out.trans (hb4.mono HBZ.out.size))
    clear ht4 hv4 hb4 HTL HXZ HBZ
    go_wp2_with fail
    refine (rapp_any A1 (B3) c1 (d3) xs ([]) w4 HX4.out HE4.out).mono ?_
    rintro e w5 ⟨A5, c5, t5, rfl, ht5, hv5, hb5⟩
    rw [HJ.out]
    have HT5 := Lib.hid ht5.l
    have HV5 := Lib.hid (show t5.map CT.pt = t4.map CT.pt from hv5.trans HV4.out.symm)
    have HT45 := Lib.hid (HT4.out.go hb5)
    have HX5 := Lib.hid (HX4.out.go hb5)
    have HB5 := Lib.hid (HB4.out.trans (hb5.mono HB4.out.size))
    clear ht5 hv5 hb5 HE4 HX4 HB4 HT4 HV4
    go_wp2_with fail
    refine (app_any A1 RA c1 rc xs rs w5 HX5.out (HR.out.go HB5.out) HXO.out).mono ?_
    rintro e w6 ⟨A6, c6, t6, rfl, ht6, hv6, hb6⟩
    rw [HK.out]
    have HT46 := Lib.hid (HT45.out.go hb6)
    have HT56 := Lib.hid (HT5.out.go hb6)
    have HX6 := Lib.hid (HX5.out.go hb6)
    have HB6 := Lib.hid (HB5.out.trans (hb6.mono HB5.out.size))
    clear ht6 hv6 hb6 HT45 HT5 HX5 HB5
    go_wp2_with fail
    refine (rapp_any A1 RA c1 rc xs rs w6 HX6.out (HR.out.go HB6.out)).mono ?_
    rintro e w7 ⟨A7, c7, t7, rfl, ht7, hv7, hb7⟩
    rw [HK.out]
    have HT47 := Lib.hid (HT46.out.go hb7)
    have HT57 := Lib.hid (HT56.out.go hb7)
    have HB7 := Lib.hid (HB6.out.trans (hb7.mono HB6.out.size))
    clear ht7 hv7 hb7 HT46 HT56 HX6 HB6
    have hk1 : ((j1 : Int) == (j1 : Int)) = true := by simp
    have hk2 : ((j2 : Int) == (j2 : Int)) = true := by simp
    go_wp2_with fail
    refine (awake_any w7).mono ?_
    rintro e w8 ⟨rfl, hb8⟩
    have HT48 := Lib.hid (HT47.out.go hb8)
    have HT58 := Lib.hid (HT57.out.go hb8)
    have HB8 := Lib.hid (HB7.out.trans (hb8.mono HB7.out.size))
    clear hb8 HB7 HT47 HT57
    go_wp2_with fail
    refine (sameT_yes A4 A5 c4 c5 _ t4 t5 w8 HT48.out HT58.out rfl HV5.out).mono ?_
    rintro e wa ⟨rfl, hba⟩
    have HBa := Lib.hid (HB8.out.trans (hba.mono HB8.out.size))
    clear hba HB8
    go_wp2_with fail
    go_ret
    exact ⟨rfl, HBa.out⟩
  obtain ⟨b, rfl⟩ : ∃ b, B3 = some ⟨b, 0, none⟩ := by
    rcases own_at0 HO.out.o with rfl | h
    · have := (own_nil HO.out.o).1; omega
    · exact h
  have hp := pick_bd a4 es.length (by omega) (by omega)
  go_wp2_with fail
  refine (pick_any a4 es.length w3 (by omega) (by omega)).mono ?_
  rintro e w' ⟨rfl, rfl⟩
  obtain ⟨k, hk⟩ : ∃ k : Nat, pick a4 es.length = (k : Int) := ⟨(pick a4 es.length).toNat, by omega⟩
  rw [hk] at hp ⊢
  have hkl : k < es.length := by omega
  clear hk
  obtain ⟨⟨hb0, hbl⟩, ⟨d0, d1, d2, d3', d4, d5, d6, d7, d8⟩, hfz⟩ := HO.out.cells hkl
  have g0 := hfz (k * 9)
  have g1 := hfz (k * 9 + 1)
  have g2 := hfz (k * 9 + 2)
  have g3 := hfz (k * 9 + 3)
  have g4 := hfz (k * 9 + 4)
  have g5 := hfz (k * 9 + 5)
  have g6 := hfz (k * 9 + 6)
  have g7 := hfz (k * 9 + 7)
  have g8 := hfz (k * 9 + 8)
  clear hfz
  have hq := pick_bd a3 6 (by omega) (by omega)
  go_wp2_with fail
  refine (pick_any a3 6 w3 (by omega) (by omega)).mono ?_
  rintro e w' ⟨rfl, rfl⟩
  generalize pick a3 6 = q at *
  have HM := Lib.hid (HO.out.m _ (List.getElem_mem hkl))
  generalize hx : es[k] = x at d0 d1 d2 d3' d4 d5 d6 d7 d8 HM
  have HXX := Lib.hid hx
  clear hx
  obtain ⟨kk, o, n⟩ := x
  dsimp only at d0 d1 d2 d3' d4 d5 d6 d7 d8
  obtain rfl | rfl | rfl | rfl | rfl | rfl : q = 0 ∨ q = 1 ∨ q = 2 ∨ q = 3 ∨ q = 4 ∨ q = 5 := by omega
  · go_wp2_with fail
    have hv := pick_bd a5 5 (by omega) (by omega)
    refine (pick_any a5 5 w3 (by omega) (by omega)).mono ?_
    rintro e w' ⟨rfl, rfl⟩
    generalize pick a5 5 = u at *
    go_upto_region 16 with fail
    have HTL := Lib.hid ((HO.out.st hkl (f := 0) (u := .int .i64 u) (by omega) ⟨u, o, n⟩ (by rw [HXX.out]; rfl) ⟨HM.out.o, HM.out.n⟩).fin (by simp) (show es.length ≤ 4096 by omega))
    have HBZ := Lib.hid (show Below w2.heap.size w2 (w3.setCell ⟨b, k * 9 + 0, none⟩ (.int .i64 u)) from HB.out.setCell hb0 _)
    clear d0 d1 d2 d3' d4 d5 d6 d7 d8 g0 g1 g2 g3 g4 g5 g6 g7 g8
    refine world_gen (fun W => (∃ L, es.length = List.length L ∧ EL W (some ⟨b, 0, none⟩) (d3) L) ∧ TL W A1 c1 xs ∧ Below w.heap.size w W) ⟨HTL.out, HX2.out.go HBZ.out, HB2.out.trans (HBZ.out.mono HB2.out.size)⟩ ?_
    clear HTL HB2 HX2 hp hkl hbl hb0 hq hbase HXX HM
    rintro W ⟨⟨L, hl, htl⟩, hxz, hbz⟩
    rw [hl]
    have HTL := Lib.hid htl
    have HXZ := Lib.hid hxz
    have HBZ := Lib.hid hbz
    clear hl htl hbz hxz
    go_wp2_with fail
    obtain ⟨j1, hj1⟩ : ∃ j : Nat, (apV (xs.map CT.pt) ((L).map CE.pe)).1 = j := ⟨_, rfl⟩
    have HJ := Lib.hid hj1
    obtain ⟨j2, hj2⟩ : ∃ j : Nat, (apV (xs.map CT.pt) (rs.map CE.pe)).1 = j := ⟨_, rfl⟩
    have HK := Lib.hid hj2
    clear hj1 hj2
    refine (app_any A1 (some ⟨b, 0, none⟩) c1 (d3) xs (L) (W) HXZ.out HTL.out HXO.out).mono ?_
    rintro e w4 ⟨A4, c4, t4, rfl, ht4, hv4, hb4⟩
    rw [HJ.out]
    have HT4 := Lib.hid ht4.l
    have HV4 := Lib.hid hv4
    have HE4 := Lib.hid (HTL.out.go hb4)
    have HX4 := Lib.hid (HXZ.out.go hb4)
    have HB4 := Lib.hid (HBZ.out.trans (hb4.mono HBZ.out.size))
    clear ht4 hv4 hb4 HTL HXZ HBZ
    go_wp2_with fail
    refine (rapp_any A1 (some ⟨b, 0, none⟩) c1 (d3) xs (L) w4 HX4.out HE4.out).mono ?_
    rintro e w5 ⟨A5, c5, t5, rfl, ht5, hv5, hb5⟩
    rw [HJ.out]
    have HT5 := Lib.hid ht5.l
    have HV5 := Lib.hid (show t5.map CT.pt = t4.map CT.pt from hv5.trans HV4.out.symm)
    have HT45 := Lib.hid (HT4.out.go hb5)
    have HX5 := Lib.hid (HX4.out.go hb5)
    have HB5 := Lib.hid (HB4.out.trans (hb5.mono HB4.out.size))
    clear ht5 hv5 hb5 HE4 HX4 HB4 HT4 HV4
    go_wp2_with fail
    refine (app_any A1 RA c1 rc xs rs w5 HX5.out (HR.out.go HB5.out) HXO.out).mono ?_
    rintro e w6 ⟨A6, c6, t6, rfl, ht6, hv6, hb6⟩
    rw [HK.out]
    have HT46 := Lib.hid (HT45.out.go hb6)
    have HT56 := Lib.hid (HT5.out.go hb6)
    have HX6 := Lib.hid (HX5.out.go hb6)
    have HB6 := Lib.hid (HB5.out.trans (hb6.mono HB5.out.size))
    clear ht6 hv6 hb6 HT45 HT5 HX5 HB5
    go_wp2_with fail
    refine (rapp_any A1 RA c1 rc xs rs w6 HX6.out (HR.out.go HB6.out)).mono ?_
    rintro e w7 ⟨A7, c7, t7, rfl, ht7, hv7, hb7⟩
    rw [HK.out]
    have HT47 := Lib.hid (HT46.out.go hb7)
    have HT57 := Lib.hid (HT56.out.go hb7)
    have HB7 := Lib.hid (HB6.out.trans (hb7.mono HB6.out.size))
    clear ht7 hv7 hb7 HT46 HT56 HX6 HB6
    have hk1 : ((j1 : Int) == (j1 : Int)) = true := by simp
    have hk2 : ((j2 : Int) == (j2 : Int)) = true := by simp
    go_wp2_with fail
    refine (awake_any w7).mono ?_
    rintro e w8 ⟨rfl, hb8⟩
    have HT48 := Lib.hid (HT47.out.go hb8)
    have HT58 := Lib.hid (HT57.out.go hb8)
    have HB8 := Lib.hid (HB7.out.trans (hb8.mono HB7.out.size))
    clear hb8 HB7 HT47 HT57
    go_wp2_with fail
    refine (sameT_yes A4 A5 c4 c5 _ t4 t5 w8 HT48.out HT58.out rfl HV5.out).mono ?_
    rintro e wa ⟨rfl, hba⟩
    have HBa := Lib.hid (HB8.out.trans (hba.mono HB8.out.size))
    clear hba HB8
    go_wp2_with fail
    go_ret
    exact ⟨rfl, HBa.out⟩
  · go_upto_region 9 with fail
    refine wp_region_any (by kernel_rfl) ?_
    refine wpAny_of_held (S := fun _ => True) _ _ _ _ ?_
    change wpAnyH _ _ _ _ _ 20 _ _ w3.drew
    have HOd := Lib.hid (HO.out.bel (Below.refl w3.heap.size w3).drew)
    have HBd := Lib.hid (show Below w2.heap.size w2 w3.drew from HB.out.drew)
    have HMd := Lib.hid (show EM w3.drew w2.heap.size ⟨kk, o, n⟩ from HM.out.kp (Kp.bel (Below.refl w3.heap.size w3).drew))
    clear d0 d1 d2 d3' d4 d5 d6 d7 d8 g0 g1 g2 g3 g4 g5 g6 g7 g8 HO HB HM
    generalize w3.drew = W at *
    have hHeld : (fun _ : World => True) W := trivial
    obtain ⟨_, ⟨d0, d1, d2, d3', d4, d5, d6, d7, d8⟩, hfz⟩ := HOd.out.cells hkl
    rw [HXX.out] at d0 d1 d2 d3' d4 d5 d6 d7 d8
    dsimp only at d0 d1 d2 d3' d4 d5 d6 d7 d8
    have g0 := hfz (k * 9)
    have g1 := hfz (k * 9 + 1)
    have g2 := hfz (k * 9 + 2)
    have g3 := hfz (k * 9 + 3)
    have g4 := hfz (k * 9 + 4)
    have g5 := hfz (k * 9 + 5)
    have g6 := hfz (k * 9 + 6)
    have g7 := hfz (k * 9 + 7)
    have g8 := hfz (k * 9 + 8)
    clear hfz
    have hWl : b < W.heap.size := (HOd.out.cells hkl).1.2
    refine wpAnyH_take (i := 0) (oi := ⟨some _, _, _, _, _, _⟩) (v := ?_) rfl (by kernel_rfl) (by kernel_rfl) (by kernel_rfl) (fun _ _ _ h => h) (Or.inl ⟨by rfl, ?_⟩) (by assumption) ?_
    rotate_left
    · (intro w hSw; (try dsimp only at hSw); go_simp; try with_reducible rfl)
    simp only [Act.put, List.setIfInBounds_toArray, List.set_cons_zero, List.set_cons_succ]
    refine wpAnyH_take (i := 1) (oi := ⟨some _, _, _, _, _, _⟩) (v := ?_) rfl (by kernel_rfl) (by kernel_rfl) (by kernel_rfl) (fun _ _ _ h => h) (Or.inl ⟨by rfl, ?_⟩) (by assumption) ?_
    rotate_left
    · (intro w hSw; (try dsimp only at hSw); go_simp; try with_reducible rfl)
    simp only [Act.put, List.setIfInBounds_toArray, List.set_cons_zero, List.set_cons_succ]
    refine wpAnyH_take (i := 2) (oi := ⟨some _, _, _, _, _, _⟩) (v := ?_) rfl (by kernel_rfl) (by kernel_rfl) (by kernel_rfl) (fun _ _ _ h => h) (Or.inl ⟨by rfl, ?_⟩) (by assumption) ?_
    rotate_left
    · (intro w hSw; (try dsimp only at hSw); go_simp; try with_reducible rfl)
    simp only [Act.put, List.setIfInBounds_toArray, List.set_cons_zero, List.set_cons_succ]
    refine wpAnyH_take (i := 3) (oi := ⟨some _, _, _, _, _, _⟩) (v := ?_) rfl (by kernel_rfl) (by kernel_rfl) (by kernel_rfl) (fun _ _ _ h => h) (Or.inl ⟨by rfl, ?_⟩) (by assumption) ?_
    rotate_left
    · (intro w hSw; (try dsimp only at hSw); go_simp; try with_reducible rfl)
    simp only [Act.put, List.setIfInBounds_toArray, List.set_cons_zero, List.set_cons_succ]
    refine wpAnyH_take (i := 4) (oi := ⟨some _, _, _, _, _, _⟩) (v := ?_) rfl (by kernel_rfl) (by kernel_rfl) (by kernel_rfl) (fun _ _ _ h => h) (Or.inl ⟨by rfl, ?_⟩) (by assumption) ?_
    rotate_left
    · (intro w hSw; (try dsimp only at hSw); go_simp; try with_reducible rfl)
    simp only [Act.put, List.setIfInBounds_toArray, List.set_cons_zero, List.set_cons_succ]
    refine wpAnyH_take (i := 5) (oi := ⟨some _, _, _, _, _, _⟩) (v := ?_) rfl (by kernel_rfl) (by kernel_rfl) (by kernel_rfl) (fun _ _ _ h => h) (Or.inl ⟨by rfl, ?_⟩) (by assumption) ?_
    rotate_left
    · (intro w hSw; (try dsimp only at hSw); go_simp; try with_reducible rfl)
    simp only [Act.put, List.setIfInBounds_toArray, List.set_cons_zero, List.set_cons_succ]
    refine wpAnyH_take (i := 6) (oi := ⟨some _, _, _, _, _, _⟩) (v := ?_) rfl (by kernel_rfl) (by kernel_rfl) (by kernel_rfl) (fun _ _ _ h => h) (Or.inl ⟨by rfl, ?_⟩) (by assumption) ?_
    rotate_left
    · (intro w hSw; (try dsimp only at hSw); go_simp; try with_reducible rfl)
    simp only [Act.put, List.setIfInBounds_toArray, List.set_cons_zero, List.set_cons_succ]
    refine wpAnyH_take (i := 7) (oi := ⟨some _, _, _, _, _, _⟩) (v := ?_) rfl (by kernel_rfl) (by kernel_rfl) (by kernel_rfl) (fun _ _ _ h => h) (Or.inl ⟨by rfl, ?_⟩) (by assumption) ?_
    rotate_left
    · (intro w hSw; (try dsimp only at hSw); go_simp; try with_reducible rfl)
    simp only [Act.put, List.setIfInBounds_toArray, List.set_cons_zero, List.set_cons_succ]
    refine wpAnyH_take (i := 9) (oi := ⟨some _, _, _, _, _, _⟩) (v := ?_) rfl (by kernel_rfl) (by kernel_rfl) (by kernel_rfl) (fun _ _ _ h => h) (Or.inl ⟨by rfl, ?_⟩) (by assumption) ?_
    rotate_left
    · (intro w hSw; (try dsimp only at hSw); go_simp; try with_reducible rfl)
    simp only [Act.put, List.setIfInBounds_toArray, List.set_cons_zero, List.set_cons_succ]
    refine wpAnyH_take (i := 10) (oi := ⟨some _, _, _, _, _, _⟩) (v := ?_) rfl (by kernel_rfl) (by kernel_rfl) (by kernel_rfl) (fun _ _ _ h => h) (Or.inl ⟨by rfl, ?_⟩) (by assumption) ?_
    rotate_left
    · (intro w hSw; (try dsimp only at hSw); go_simp; try with_reducible rfl)
    simp only [Act.put, List.setIfInBounds_toArray, List.set_cons_zero, List.set_cons_succ]
    refine wpAnyH_take (i := 11) (oi := ⟨some _, _, _, _, _, _⟩) (v := ?_) rfl (by kernel_rfl) (by kernel_rfl) (by kernel_rfl) (fun _ _ _ h => h) (Or.inl ⟨by rfl, ?_⟩) (by assumption) ?_
    rotate_left
    · (intro w hSw; (try dsimp only at hSw); go_simp; try with_reducible rfl)
    simp only [Act.put, List.setIfInBounds_toArray, List.set_cons_zero, List.set_cons_succ]
    refine wpAnyH_take (i := 12) (oi := ⟨some _, _, _, _, _, _⟩) (v := ?_) rfl (by kernel_rfl) (by kernel_rfl) (by kernel_rfl) (fun _ _ _ h => h) (Or.inl ⟨by rfl, ?_⟩) (by assumption) ?_
    rotate_left
    · (intro w hSw; (try dsimp only at hSw); go_simp; try with_reducible rfl)
    simp only [Act.put, List.setIfInBounds_toArray, List.set_cons_zero, List.set_cons_succ]
    refine wpAnyH_ready (rs := [8, 13]) (by kernel_rfl) (by simp) ?_
    refine AllReadyH.cons rfl (fun K hK => ?_) (AllReadyH.cons rfl (fun K hK => ?_) AllReadyH.nil)
    · refine step_val (v := .agg #[.int .i64 n.ln, .int .i64 n.dy, .slice n.Ad n.dep.length n.cd, .slice n.Aa n.arr.length n.ca]) (by rfl) ?_ ?_
      · (go_simp; try with_reducible rfl)
      refine hK.out _ _ hHeld (fun hHeld => ?_)
      clear hK K
      try simp only [Act.put, List.setIfInBounds_toArray, List.set_cons_zero, List.set_cons_succ]
      refine wpAnyH_ready (rs := [13]) (by kernel_rfl) (by simp) ?_
      refine AllReadyH.cons rfl (fun K hK => ?_) AllReadyH.nil
      refine step_val (v := .agg #[.int .i64 o.ln, .int .i64 o.dy, .slice o.Ad o.dep.length o.cd, .slice o.Aa o.arr.length o.ca]) (by rfl) ?_ ?_
      · (go_simp; try with_reducible rfl)
      refine hK.out _ _ hHeld (fun hHeld => ?_)
      clear hK K
      try simp only [Act.put, List.setIfInBounds_toArray, List.set_cons_zero, List.set_cons_succ]
      refine wpAnyH_take (i := 14) (oi := ⟨some _, _, _, _, _, _⟩) (v := ?_) rfl (by kernel_rfl) (by kernel_rfl) (by kernel_rfl) (fun _ _ _ h => h) (Or.inl ⟨by rfl, ?_⟩) (by assumption) ?_
      rotate_left
      · (intro w hSw; (try dsimp only at hSw); go_simp; try with_reducible rfl)
      simp only [Act.put, List.setIfInBounds_toArray, List.set_cons_zero, List.set_cons_succ]
      refine wpAnyH_take (i := 15) (oi := ⟨some _, _, _, _, _, _⟩) (v := ?_) rfl (by kernel_rfl) (by kernel_rfl) (by kernel_rfl) (fun _ _ _ h => h) (Or.inl ⟨by rfl, ?_⟩) (by assumption) ?_
      rotate_left
      · (intro w hSw; (try dsimp only at hSw); go_simp; try with_reducible rfl)
      simp only [Act.put, List.setIfInBounds_toArray, List.set_cons_zero, List.set_cons_succ]
      refine wpAnyH_ready (rs := [16]) (by kernel_rfl) (by simp) ?_
      refine AllReadyH.cons rfl (fun K hK => ?_) AllReadyH.nil
      go_simp
      refine hK.out _ _ hHeld (fun hHeld => ?_)
      clear hK K
      try simp only [Act.put, List.setIfInBounds_toArray, List.set_cons_zero, List.set_cons_succ]
      refine wpAnyH_take (i := 17) (oi := ⟨some _, _, _, _, _, _⟩) (v := ?_) rfl (by kernel_rfl) (by kernel_rfl) (by kernel_rfl) (fun _ _ _ h => h) (Or.inl ⟨by rfl, ?_⟩) (by assumption) ?_
      rotate_left
      · (intro w hSw; (try dsimp only at hSw); go_simp; try with_reducible rfl)
      simp only [Act.put, List.setIfInBounds_toArray, List.set_cons_zero, List.set_cons_succ]
      refine wpAnyH_take (i := 18) (oi := ⟨some _, _, _, _, _, _⟩) (v := ?_) rfl (by kernel_rfl) (by kernel_rfl) (by kernel_rfl) (fun _ _ _ h => h) (Or.inl ⟨by rfl, ?_⟩) (by assumption) ?_
      rotate_left
      · (intro w hSw; (try dsimp only at hSw); go_simp; try with_reducible rfl)
      simp only [Act.put, List.setIfInBounds_toArray, List.set_cons_zero, List.set_cons_succ]
      refine wpAnyH_ready (rs := [19]) (by kernel_rfl) (by simp) ?_
      refine AllReadyH.cons rfl (fun K hK => ?_) AllReadyH.nil
      go_simp
      refine hK.out _ _ hHeld (fun hHeld => ?_)
      clear hK K
      try simp only [Act.put, List.setIfInBounds_toArray, List.set_cons_zero, List.set_cons_succ]
      clear hHeld
      refine wpAnyH_done (by kernel_rfl) ?_ _
      go_upto_region 16 with fail
      have HTL := Lib.hid ((HOd.out.swap hkl HXX.out).fin (by simp) (show es.length ≤ 4096 by omega))
      clear d0 d1 d2 d3' d4 d5 d6 d7 d8 g0 g1 g2 g3 g4 g5 g6 g7 g8 hWl
      have HM := HMd
      refine world_gen (fun W => (∃ L, es.length = List.length L ∧ EL W (some ⟨b, 0, none⟩) (d3) L) ∧ TL W A1 c1 xs ∧ Below w.heap.size w W) ⟨HTL.out, HX2.out.go (below_swap HBd.out hb0), HB2.out.trans ((below_swap HBd.out hb0).mono HB2.out.size)⟩ ?_
      clear HTL HB2 HX2 hp hkl hbl hb0 hq hbase HXX HM
      rintro W ⟨⟨L, hl, htl⟩, hxz, hbz⟩
      rw [hl]
      have HTL := Lib.hid htl
      have HXZ := Lib.hid hxz
      have HBZ := Lib.hid hbz
      clear hl htl hbz hxz
      go_wp2_with fail
      obtain ⟨j1, hj1⟩ : ∃ j : Nat, (apV (xs.map CT.pt) ((L).map CE.pe)).1 = j := ⟨_, rfl⟩
      have HJ := Lib.hid hj1
      obtain ⟨j2, hj2⟩ : ∃ j : Nat, (apV (xs.map CT.pt) (rs.map CE.pe)).1 = j := ⟨_, rfl⟩
      have HK := Lib.hid hj2
      clear hj1 hj2
      refine (app_any A1 (some ⟨b, 0, none⟩) c1 (d3) xs (L) (W) HXZ.out HTL.out HXO.out).mono ?_
      rintro e w4 ⟨A4, c4, t4, rfl, ht4, hv4, hb4⟩
      rw [HJ.out]
      have HT4 := Lib.hid ht4.l
      have HV4 := Lib.hid hv4
      have HE4 := Lib.hid (HTL.out.go hb4)
      have HX4 := Lib.hid (HXZ.out.go hb4)
      have HB4 := Lib.hid (HBZ.out.trans (hb4.mono HBZ.out.size))
      clear ht4 hv4 hb4 HTL HXZ HBZ
      go_wp2_with fail
      refine (rapp_any A1 (some ⟨b, 0, none⟩) c1 (d3) xs (L) w4 HX4.out HE4.out).mono ?_
      rintro e w5 ⟨A5, c5, t5, rfl, ht5, hv5, hb5⟩
      rw [HJ.out]
      have HT5 := Lib.hid ht5.l
      have HV5 := Lib.hid (show t5.map CT.pt = t4.map CT.pt from hv5.trans HV4.out.symm)
      have HT45 := Lib.hid (HT4.out.go hb5)
      have HX5 := Lib.hid (HX4.out.go hb5)
      have HB5 := Lib.hid (HB4.out.trans (hb5.mono HB4.out.size))
      clear ht5 hv5 hb5 HE4 HX4 HB4 HT4 HV4
      go_wp2_with fail
      refine (app_any A1 RA c1 rc xs rs w5 HX5.out (HR.out.go HB5.out) HXO.out).mono ?_
      rintro e w6 ⟨A6, c6, t6, rfl, ht6, hv6, hb6⟩
      rw [HK.out]
      have HT46 := Lib.hid (HT45.out.go hb6)
      have HT56 := Lib.hid (HT5.out.go hb6)
      have HX6 := Lib.hid (HX5.out.go hb6)
      have HB6 := Lib.hid (HB5.out.trans (hb6.mono HB5.out.size))
      clear ht6 hv6 hb6 HT45 HT5 HX5 HB5
      go_wp2_with fail
      refine (rapp_any A1 RA c1 rc xs rs w6 HX6.out (HR.out.go HB6.out)).mono ?_
      rintro e w7 ⟨A7, c7, t7, rfl, ht7, hv7, hb7⟩
      rw [HK.out]
      have HT47 := Lib.hid (HT46.out.go hb7)
      have HT57 := Lib.hid (HT56.out.go hb7)
      have HB7 := Lib.hid (HB6.out.trans (hb7.mono HB6.out.size))
      clear ht7 hv7 hb7 HT46 HT56 HX6 HB6
      have hk1 : ((j1 : Int) == (j1 : Int)) = true := by simp
      have hk2 : ((j2 : Int) == (j2 : Int)) = true := by simp
      go_wp2_with fail
      refine (awake_any w7).mono ?_
      rintro e w8 ⟨rfl, hb8⟩
      have HT48 := Lib.hid (HT47.out.go hb8)
      have HT58 := Lib.hid (HT57.out.go hb8)
      have HB8 := Lib.hid (HB7.out.trans (hb8.mono HB7.out.size))
      clear hb8 HB7 HT47 HT57
      go_wp2_with fail
      refine (sameT_yes A4 A5 c4 c5 _ t4 t5 w8 HT48.out HT58.out rfl HV5.out).mono ?_
      rintro e wa ⟨rfl, hba⟩
      have HBa := Lib.hid (HB8.out.trans (hba.mono HB8.out.size))
      clear hba HB8
      go_wp2_with fail
      go_ret
      exact ⟨rfl, HBa.out⟩
    · refine step_val (v := .agg #[.int .i64 o.ln, .int .i64 o.dy, .slice o.Ad o.dep.length o.cd, .slice o.Aa o.arr.length o.ca]) (by rfl) ?_ ?_
      · (go_simp; try with_reducible rfl)
      refine hK.out _ _ hHeld (fun hHeld => ?_)
      clear hK K
      try simp only [Act.put, List.setIfInBounds_toArray, List.set_cons_zero, List.set_cons_succ]
      refine wpAnyH_ready (rs := [8]) (by kernel_rfl) (by simp) ?_
      refine AllReadyH.cons rfl (fun K hK => ?_) AllReadyH.nil
      refine step_val (v := .agg #[.int .i64 n.ln, .int .i64 n.dy, .slice n.Ad n.dep.length n.cd, .slice n.Aa n.arr.length n.ca]) (by rfl) ?_ ?_
      · (go_simp; try with_reducible rfl)
      refine hK.out _ _ hHeld (fun hHeld => ?_)
      clear hK K
      try simp only [Act.put, List.setIfInBounds_toArray, List.set_cons_zero, List.set_cons_succ]
      refine wpAnyH_take (i := 14) (oi := ⟨some _, _, _, _, _, _⟩) (v := ?_) rfl (by kernel_rfl) (by kernel_rfl) (by kernel_rfl) (fun _ _ _ h => h) (Or.inl ⟨by rfl, ?_⟩) (by assumption) ?_
      rotate_left
      · (intro w hSw; (try dsimp only at hSw); go_simp; try with_reducible rfl)
      simp only [Act.put, List.setIfInBounds_toArray, List.set_cons_zero, List.set_cons_succ]
      refine wpAnyH_take (i := 15) (oi := ⟨some _, _, _, _, _, _⟩) (v := ?_) rfl (by kernel_rfl) (by kernel_rfl) (by kernel_rfl) (fun _ _ _ h => h) (Or.inl ⟨by rfl, ?_⟩) (by assumption) ?_
      rotate_left
      · (intro w hSw; (try dsimp only at hSw); go_simp; try with_reducible rfl)
      simp only [Act.put, List.setIfInBounds_toArray, List.set_cons_zero, List.set_cons_succ]
      refine wpAnyH_ready (rs := [16]) (by kernel_rfl) (by simp) ?_
      refine AllReadyH.cons rfl (fun K hK => ?_) AllReadyH.nil
      go_simp
      refine hK.out _ _ hHeld (fun hHeld => ?_)
      clear hK K
      try simp only [Act.put, List.setIfInBounds_toArray, List.set_cons_zero, List.set_cons_succ]
      refine wpAnyH_take (i := 17) (oi := ⟨some _, _, _, _, _, _⟩) (v := ?_) rfl (by kernel_rfl) (by kernel_rfl) (by kernel_rfl) (fun _ _ _ h => h) (Or.inl ⟨by rfl, ?_⟩) (by assumption) ?_
      rotate_left
      · (intro w hSw; (try dsimp only at hSw); go_simp; try with_reducible rfl)
      simp only [Act.put, List.setIfInBounds_toArray, List.set_cons_zero, List.set_cons_succ]
      refine wpAnyH_take (i := 18) (oi := ⟨some _, _, _, _, _, _⟩) (v := ?_) rfl (by kernel_rfl) (by kernel_rfl) (by kernel_rfl) (fun _ _ _ h => h) (Or.inl ⟨by rfl, ?_⟩) (by assumption) ?_
      rotate_left
      · (intro w hSw; (try dsimp only at hSw); go_simp; try with_reducible rfl)
      simp only [Act.put, List.setIfInBounds_toArray, List.set_cons_zero, List.set_cons_succ]
      refine wpAnyH_ready (rs := [19]) (by kernel_rfl) (by simp) ?_
      refine AllReadyH.cons rfl (fun K hK => ?_) AllReadyH.nil
      go_simp
      refine hK.out _ _ hHeld (fun hHeld => ?_)
      clear hK K
      try simp only [Act.put, List.setIfInBounds_toArray, List.set_cons_zero, List.set_cons_succ]
      clear hHeld
      refine wpAnyH_done (by kernel_rfl) ?_ _
      go_upto_region 16 with fail
      have HTL := Lib.hid ((HOd.out.swap hkl HXX.out).fin (by simp) (show es.length ≤ 4096 by omega))
      clear d0 d1 d2 d3' d4 d5 d6 d7 d8 g0 g1 g2 g3 g4 g5 g6 g7 g8 hWl
      have HM := HMd
      refine world_gen (fun W => (∃ L, es.length = List.length L ∧ EL W (some ⟨b, 0, none⟩) (d3) L) ∧ TL W A1 c1 xs ∧ Below w.heap.size w W) ⟨HTL.out, HX2.out.go (below_swap HBd.out hb0), HB2.out.trans ((below_swap HBd.out hb0).mono HB2.out.size)⟩ ?_
      clear HTL HB2 HX2 hp hkl hbl hb0 hq hbase HXX HM
      rintro W ⟨⟨L, hl, htl⟩, hxz, hbz⟩
      rw [hl]
      have HTL := Lib.hid htl
      have HXZ := Lib.hid hxz
      have HBZ := Lib.hid hbz
      clear hl htl hbz hxz
      go_wp2_with fail
      obtain ⟨j1, hj1⟩ : ∃ j : Nat, (apV (xs.map CT.pt) ((L).map CE.pe)).1 = j := ⟨_, rfl⟩
      have HJ := Lib.hid hj1
      obtain ⟨j2, hj2⟩ : ∃ j : Nat, (apV (xs.map CT.pt) (rs.map CE.pe)).1 = j := ⟨_, rfl⟩
      have HK := Lib.hid hj2
      clear hj1 hj2
      refine (app_any A1 (some ⟨b, 0, none⟩) c1 (d3) xs (L) (W) HXZ.out HTL.out HXO.out).mono ?_
      rintro e w4 ⟨A4, c4, t4, rfl, ht4, hv4, hb4⟩
      rw [HJ.out]
      have HT4 := Lib.hid ht4.l
      have HV4 := Lib.hid hv4
      have HE4 := Lib.hid (HTL.out.go hb4)
      have HX4 := Lib.hid (HXZ.out.go hb4)
      have HB4 := Lib.hid (HBZ.out.trans (hb4.mono HBZ.out.size))
      clear ht4 hv4 hb4 HTL HXZ HBZ
      go_wp2_with fail
      refine (rapp_any A1 (some ⟨b, 0, none⟩) c1 (d3) xs (L) w4 HX4.out HE4.out).mono ?_
      rintro e w5 ⟨A5, c5, t5, rfl, ht5, hv5, hb5⟩
      rw [HJ.out]
      have HT5 := Lib.hid ht5.l
      have HV5 := Lib.hid (show t5.map CT.pt = t4.map CT.pt from hv5.trans HV4.out.symm)
      have HT45 := Lib.hid (HT4.out.go hb5)
      have HX5 := Lib.hid (HX4.out.go hb5)
      have HB5 := Lib.hid (HB4.out.trans (hb5.mono HB4.out.size))
      clear ht5 hv5 hb5 HE4 HX4 HB4 HT4 HV4
      go_wp2_with fail
      refine (app_any A1 RA c1 rc xs rs w5 HX5.out (HR.out.go HB5.out) HXO.out).mono ?_
      rintro e w6 ⟨A6, c6, t6, rfl, ht6, hv6, hb6⟩
      rw [HK.out]
      have HT46 := Lib.hid (HT45.out.go hb6)
      have HT56 := Lib.hid (HT5.out.go hb6)
      have HX6 := Lib.hid (HX5.out.go hb6)
      have HB6 := Lib.hid (HB5.out.trans (hb6.mono HB5.out.size))
      clear ht6 hv6 hb6 HT45 HT5 HX5 HB5
      go_wp2_with fail
      refine (rapp_any A1 RA c1 rc xs rs w6 HX6.out (HR.out.go HB6.out)).mono ?_
      rintro e w7 ⟨A7, c7, t7, rfl, ht7, hv7, hb7⟩
      rw [HK.out]
      have HT47 := Lib.hid (HT46.out.go hb7)
      have HT57 := Lib.hid (HT56.out.go hb7)
      have HB7 := Lib.hid (HB6.out.trans (hb7.mono HB6.out.size))
      clear ht7 hv7 hb7 HT46 HT56 HX6 HB6
      have hk1 : ((j1 : Int) == (j1 : Int)) = true := by simp
      have hk2 : ((j2 : Int) == (j2 : Int)) = true := by simp
      go_wp2_with fail
      refine (awake_any w7).mono ?_
      rintro e w8 ⟨rfl, hb8⟩
      have HT48 := Lib.hid (HT47.out.go hb8)
      have HT58 := Lib.hid (HT57.out.go hb8)
      have HB8 := Lib.hid (HB7.out.trans (hb8.mono HB7.out.size))
      clear hb8 HB7 HT47 HT57
      go_wp2_with fail
      refine (sameT_yes A4 A5 c4 c5 _ t4 t5 w8 HT48.out HT58.out rfl HV5.out).mono ?_
      rintro e wa ⟨rfl, hba⟩
      have HBa := Lib.hid (HB8.out.trans (hba.mono HB8.out.size))
      clear hba HB8
      go_wp2_with fail
      go_ret
      exact ⟨rfl, HBa.out⟩
  · have hv := pick_bd a5 3 (by omega) (by omega)
    go_upto_region 11 with fail
    refine wp_region_cut 9 (by kernel_rfl) (by kernel_rfl) ?_
    simp only [dulled, dull, List.take_succ_cons, List.take_zero, List.drop_succ_cons, List.drop_zero, List.map_cons, List.map_nil, List.cons_append, List.nil_append]
    refine wpAny_of_held (S := fun W => W.cell? ⟨b, k * 9 + 2, none⟩ = some (.int .i64 (o.dy))) _ _ _ _ ?_
    change wpAnyH _ _ _ _ _ _ _ _ w3.drew
    have hHeld : (fun W : World => W.cell? ⟨b, k * 9 + 2, none⟩ = some (.int .i64 (o.dy))) w3.drew := d2
    refine wpAnyH_take (i := 0) (oi := ⟨some _, _, _, _, _, _⟩) (v := ?_) rfl (by kernel_rfl) (by kernel_rfl) (by kernel_rfl) (fun _ _ _ h => h) (Or.inl ⟨by rfl, ?_⟩) (by assumption) ?_
    rotate_left
    · (intro w hSw; (try dsimp only at hSw); go_simp; try with_reducible rfl)
    simp only [Act.put, List.setIfInBounds_toArray, List.set_cons_zero, List.set_cons_succ]
    refine wpAnyH_take (i := 1) (oi := ⟨some _, _, _, _, _, _⟩) (v := ?_) rfl (by kernel_rfl) (by kernel_rfl) (by kernel_rfl) (fun _ _ _ h => h) (Or.inl ⟨by rfl, ?_⟩) (by assumption) ?_
    rotate_left
    · (intro w hSw; (try dsimp only at hSw); go_simp; try with_reducible rfl)
    simp only [Act.put, List.setIfInBounds_toArray, List.set_cons_zero, List.set_cons_succ]
    refine wpAnyH_take (i := 2) (oi := ⟨some _, _, _, _, _, _⟩) (v := ?_) rfl (by kernel_rfl) (by kernel_rfl) (by kernel_rfl) (fun _ _ _ h => h) (Or.inl ⟨by rfl, ?_⟩) (by assumption) ?_
    rotate_left
    · (intro w hSw; (try dsimp only at hSw); go_simp; try with_reducible rfl)
    simp only [Act.put, List.setIfInBounds_toArray, List.set_cons_zero, List.set_cons_succ]
    refine wpAnyH_take (i := 3) (oi := ⟨some _, _, _, _, _, _⟩) (v := ?_) rfl (by kernel_rfl) (by kernel_rfl) (by kernel_rfl) (fun _ _ _ h => h) (Or.inl ⟨by rfl, ?_⟩) (by assumption) ?_
    rotate_left
    · (intro w hSw; (try dsimp only at hSw); go_simp; try with_reducible rfl)
    simp only [Act.put, List.setIfInBounds_toArray, List.set_cons_zero, List.set_cons_succ]
    refine wpAnyH_take (i := 4) (oi := ⟨some _, _, _, _, _, _⟩) (v := ?_) rfl (by kernel_rfl) (by kernel_rfl) (by kernel_rfl) (fun _ _ _ h => h) (Or.inl ⟨by rfl, ?_⟩) (by assumption) ?_
    rotate_left
    · (intro w hSw; (try dsimp only at hSw); go_simp; try with_reducible rfl)
    simp only [Act.put, List.setIfInBounds_toArray, List.set_cons_zero, List.set_cons_succ]
    refine wpAnyH_take (i := 5) (oi := ⟨some _, _, _, _, _, _⟩) (v := ?_) rfl (by kernel_rfl) (by kernel_rfl) (by kernel_rfl) (fun _ _ _ h => h) (Or.inl ⟨by rfl, ?_⟩) (by assumption) ?_
    rotate_left
    · (intro w hSw; (try dsimp only at hSw); go_simp; try with_reducible rfl)
    simp only [Act.put, List.setIfInBounds_toArray, List.set_cons_zero, List.set_cons_succ]
    refine wpAnyH_take (i := 6) (oi := ⟨some _, _, _, _, _, _⟩) (v := ?_) rfl (by kernel_rfl) (by kernel_rfl) (by kernel_rfl) (fun _ _ _ h => h) (Or.inl ⟨by rfl, ?_⟩) (by assumption) ?_
    rotate_left
    · (intro w hSw; (try dsimp only at hSw); go_simp; try with_reducible rfl)
    simp only [Act.put, List.setIfInBounds_toArray, List.set_cons_zero, List.set_cons_succ]
    refine wpAnyH_ready (rs := [7]) (by kernel_rfl) (by simp) ?_
    refine AllReadyH.cons rfl (fun K hK => ?_) AllReadyH.nil
    go_simp
    go_at_call 14
    refine (pick_any a5 3 _ (by omega) (by omega)).mono ?_
    rintro e w' ⟨rfl, rfl⟩
    generalize pick a5 3 = u at *
    refine hK.out _ _ hHeld (fun hHeld => ?_)
    clear hK K
    try simp only [Act.put, List.setIfInBounds_toArray, List.set_cons_zero, List.set_cons_succ]
    refine wpAnyH_take (i := 8) (oi := ⟨some _, _, _, _, _, _⟩) (v := ?_) rfl (by kernel_rfl) (by kernel_rfl) (by kernel_rfl) (fun _ _ _ h => h) (Or.inl ⟨by rfl, ?_⟩) (by assumption) ?_
    rotate_left
    · (intro w hSw; (try dsimp only at hSw); go_simp; try with_reducible rfl)
    simp only [Act.put, List.setIfInBounds_toArray, List.set_cons_zero, List.set_cons_succ]
    refine wpAnyH_ready (rs := [9]) (by kernel_rfl) (by simp) ?_
    refine AllReadyH.cons rfl (fun K hK => ?_) AllReadyH.nil
    go_simp
    refine hK.out _ _ hHeld (fun hHeld => ?_)
    clear hK K
    refine wpAnyH_ready (rs := [10]) (by kernel_rfl) (by simp) ?_
    refine AllReadyH.cons rfl (fun K hK => ?_) AllReadyH.nil
    go_simp
    refine hK.out _ _ hHeld (fun hHeld => ?_)
    clear hK K
    refine wpAnyH_ready (rs := [11]) (by kernel_rfl) (by simp) ?_
    refine AllReadyH.cons rfl (fun K hK => ?_) AllReadyH.nil
    go_simp
    refine hK.out _ _ hHeld (fun hHeld => ?_)
    clear hK K
    refine wpAnyH_ready (rs := [12]) (by kernel_rfl) (by simp) ?_
    refine AllReadyH.cons rfl (fun K hK => ?_) AllReadyH.nil
    go_simp
    refine hK.out _ _ hHeld (fun hHeld => ?_)
    clear hK K
    clear hHeld
    refine wpAnyH_done (by kernel_rfl) ?_ _
    simp only [cutQ, List.drop_succ_cons, List.drop_zero]
    go_upto_region 16 with fail
    have HTL := Lib.hid (((HO.out.st hkl (f := 2) (u := .int .i64 (wrap64 (o.dy + u))) (by omega) ⟨kk, ⟨o.ln, wrap64 (o.dy + u), o.Ad, o.cd, o.Aa, o.ca, o.dep, o.arr⟩, n⟩ (by rw [HXX.out]; rfl) ⟨⟨HM.out.o.d, HM.out.o.a⟩, HM.out.n⟩).bel (Below.refl _ _).drew).fin (by simp) (show es.length ≤ 4096 by omega))
    have HBZ := Lib.hid (show Below w2.heap.size w2 (w3.setCell ⟨b, k * 9 + 2, none⟩ (.int .i64 (wrap64 (o.dy + u)))).drew from (HB.out.setCell hb0 _).drew)
    clear d0 d1 d2 d3' d4 d5 d6 d7 d8 g0 g1 g2 g3 g4 g5 g6 g7 g8
    refine world_gen (fun W => (∃ L, es.length = List.length L ∧ EL W (some ⟨b, 0, none⟩) (d3) L) ∧ TL W A1 c1 xs ∧ Below w.heap.size w W) ⟨HTL.out, HX2.out.go HBZ.out, HB2.out.trans (HBZ.out.mono HB2.out.size)⟩ ?_
    clear HTL HB2 HX2 hp hkl hbl hb0 hq hbase HXX HM
    rintro W ⟨⟨L, hl, htl⟩, hxz, hbz⟩
    rw [hl]
    have HTL := Lib.hid htl
    have HXZ := Lib.hid hxz
    have HBZ := Lib.hid hbz
    clear hl htl hbz hxz
    go_wp2_with fail
    obtain ⟨j1, hj1⟩ : ∃ j : Nat, (apV (xs.map CT.pt) ((L).map CE.pe)).1 = j := ⟨_, rfl⟩
    have HJ := Lib.hid hj1
    obtain ⟨j2, hj2⟩ : ∃ j : Nat, (apV (xs.map CT.pt) (rs.map CE.pe)).1 = j := ⟨_, rfl⟩
    have HK := Lib.hid hj2
    clear hj1 hj2
    refine (app_any A1 (some ⟨b, 0, none⟩) c1 (d3) xs (L) (W) HXZ.out HTL.out HXO.out).mono ?_
    rintro e w4 ⟨A4, c4, t4, rfl, ht4, hv4, hb4⟩
    rw [HJ.out]
    have HT4 := Lib.hid ht4.l
    have HV4 := Lib.hid hv4
    have HE4 := Lib.hid (HTL.out.go hb4)
    have HX4 := Lib.hid (HXZ.out.go hb4)
    have HB4 := Lib.hid (HBZ.out.trans (hb4.mono HBZ.out.size))
    clear ht4 hv4 hb4 HTL HXZ HBZ
    go_wp2_with fail
    refine (rapp_any A1 (some ⟨b, 0, none⟩) c1 (d3) xs (L) w4 HX4.out HE4.out).mono ?_
    rintro e w5 ⟨A5, c5, t5, rfl, ht5, hv5, hb5⟩
    rw [HJ.out]
    have HT5 := Lib.hid ht5.l
    have HV5 := Lib.hid (show t5.map CT.pt = t4.map CT.pt from hv5.trans HV4.out.symm)
    have HT45 := Lib.hid (HT4.out.go hb5)
    have HX5 := Lib.hid (HX4.out.go hb5)
    have HB5 := Lib.hid (HB4.out.trans (hb5.mono HB4.out.size))
    clear ht5 hv5 hb5 HE4 HX4 HB4 HT4 HV4
    go_wp2_with fail
    refine (app_any A1 RA c1 rc xs rs w5 HX5.out (HR.out.go HB5.out) HXO.out).mono ?_
    rintro e w6 ⟨A6, c6, t6, rfl, ht6, hv6, hb6⟩
    rw [HK.out]
    have HT46 := Lib.hid (HT45.out.go hb6)
    have HT56 := Lib.hid (HT5.out.go hb6)
    have HX6 := Lib.hid (HX5.out.go hb6)
    have HB6 := Lib.hid (HB5.out.trans (hb6.mono HB5.out.size))
    clear ht6 hv6 hb6 HT45 HT5 HX5 HB5
    go_wp2_with fail
    refine (rapp_any A1 RA c1 rc xs rs w6 HX6.out (HR.out.go HB6.out)).mono ?_
    rintro e w7 ⟨A7, c7, t7, rfl, ht7, hv7, hb7⟩
    rw [HK.out]
    have HT47 := Lib.hid (HT46.out.go hb7)
    have HT57 := Lib.hid (HT56.out.go hb7)
    have HB7 := Lib.hid (HB6.out.trans (hb7.mono HB6.out.size))
    clear ht7 hv7 hb7 HT46 HT56 HX6 HB6
    have hk1 : ((j1 : Int) == (j1 : Int)) = true := by simp
    have hk2 : ((j2 : Int) == (j2 : Int)) = true := by simp
    go_wp2_with fail
    refine (awake_any w7).mono ?_
    rintro e w8 ⟨rfl, hb8⟩
    have HT48 := Lib.hid (HT47.out.go hb8)
    have HT58 := Lib.hid (HT57.out.go hb8)
    have HB8 := Lib.hid (HB7.out.trans (hb8.mono HB7.out.size))
    clear hb8 HB7 HT47 HT57
    go_wp2_with fail
    refine (sameT_yes A4 A5 c4 c5 _ t4 t5 w8 HT48.out HT58.out rfl HV5.out).mono ?_
    rintro e wa ⟨rfl, hba⟩
    have HBa := Lib.hid (HB8.out.trans (hba.mono HB8.out.size))
    clear hba HB8
    go_wp2_with fail
    go_ret
    exact ⟨rfl, HBa.out⟩
  · have hv := pick_bd a5 3 (by omega) (by omega)
    go_upto_region 13 with fail
    refine wp_region_cut 9 (by kernel_rfl) (by kernel_rfl) ?_
    simp only [dulled, dull, List.take_succ_cons, List.take_zero, List.drop_succ_cons, List.drop_zero, List.map_cons, List.map_nil, List.cons_append, List.nil_append]
    refine wpAny_of_held (S := fun W => W.cell? ⟨b, k * 9 + 5, none⟩ = some (.int .i64 (n.ln))) _ _ _ _ ?_
    change wpAnyH _ _ _ _ _ _ _ _ w3.drew
    have hHeld : (fun W : World => W.cell? ⟨b, k * 9 + 5, none⟩ = some (.int .i64 (n.ln))) w3.drew := d5
    refine wpAnyH_take (i := 0) (oi := ⟨some _, _, _, _, _, _⟩) (v := ?_) rfl (by kernel_rfl) (by kernel_rfl) (by kernel_rfl) (fun _ _ _ h => h) (Or.inl ⟨by rfl, ?_⟩) (by assumption) ?_
    rotate_left
    · (intro w hSw; (try dsimp only at hSw); go_simp; try with_reducible rfl)
    simp only [Act.put, List.setIfInBounds_toArray, List.set_cons_zero, List.set_cons_succ]
    refine wpAnyH_take (i := 1) (oi := ⟨some _, _, _, _, _, _⟩) (v := ?_) rfl (by kernel_rfl) (by kernel_rfl) (by kernel_rfl) (fun _ _ _ h => h) (Or.inl ⟨by rfl, ?_⟩) (by assumption) ?_
    rotate_left
    · (intro w hSw; (try dsimp only at hSw); go_simp; try with_reducible rfl)
    simp only [Act.put, List.setIfInBounds_toArray, List.set_cons_zero, List.set_cons_succ]
    refine wpAnyH_take (i := 2) (oi := ⟨some _, _, _, _, _, _⟩) (v := ?_) rfl (by kernel_rfl) (by kernel_rfl) (by kernel_rfl) (fun _ _ _ h => h) (Or.inl ⟨by rfl, ?_⟩) (by assumption) ?_
    rotate_left
    · (intro w hSw; (try dsimp only at hSw); go_simp; try with_reducible rfl)
    simp only [Act.put, List.setIfInBounds_toArray, List.set_cons_zero, List.set_cons_succ]
    refine wpAnyH_take (i := 3) (oi := ⟨some _, _, _, _, _, _⟩) (v := ?_) rfl (by kernel_rfl) (by kernel_rfl) (by kernel_rfl) (fun _ _ _ h => h) (Or.inl ⟨by rfl, ?_⟩) (by assumption) ?_
    rotate_left
    · (intro w hSw; (try dsimp only at hSw); go_simp; try with_reducible rfl)
    simp only [Act.put, List.setIfInBounds_toArray, List.set_cons_zero, List.set_cons_succ]
    refine wpAnyH_take (i := 4) (oi := ⟨some _, _, _, _, _, _⟩) (v := ?_) rfl (by kernel_rfl) (by kernel_rfl) (by kernel_rfl) (fun _ _ _ h => h) (Or.inl ⟨by rfl, ?_⟩) (by assumption) ?_
    rotate_left
    · (intro w hSw; (try dsimp only at hSw); go_simp; try with_reducible rfl)
    simp only [Act.put, List.setIfInBounds_toArray, List.set_cons_zero, List.set_cons_succ]
    refine wpAnyH_take (i := 5) (oi := ⟨some _, _, _, _, _, _⟩) (v := ?_) rfl (by kernel_rfl) (by kernel_rfl) (by kernel_rfl) (fun _ _ _ h => h) (Or.inl ⟨by rfl, ?_⟩) (by assumption) ?_
    rotate_left
    · (intro w hSw; (try dsimp only at hSw); go_simp; try with_reducible rfl)
    simp only [Act.put, List.setIfInBounds_toArray, List.set_cons_zero, List.set_cons_succ]
    refine wpAnyH_take (i := 6) (oi := ⟨some _, _, _, _, _, _⟩) (v := ?_) rfl (by kernel_rfl) (by kernel_rfl) (by kernel_rfl) (fun _ _ _ h => h) (Or.inl ⟨by rfl, ?_⟩) (by assumption) ?_
    rotate_left
    · (intro w hSw; (try dsimp only at hSw); go_simp; try with_reducible rfl)
    simp only [Act.put, List.setIfInBounds_toArray, List.set_cons_zero, List.set_cons_succ]
    refine wpAnyH_ready (rs := [7]) (by kernel_rfl) (by simp) ?_
    refine AllReadyH.cons rfl (fun K hK => ?_) AllReadyH.nil
    go_simp
    go_at_call 14
    refine (pick_any a5 3 _ (by omega) (by omega)).mono ?_
    rintro e w' ⟨rfl, rfl⟩
    generalize pick a5 3 = u at *
    refine hK.out _ _ hHeld (fun hHeld => ?_)
    clear hK K
    try simp only [Act.put, List.setIfInBounds_toArray, List.set_cons_zero, List.set_cons_succ]
    refine wpAnyH_take (i := 8) (oi := ⟨some _, _, _, _, _, _⟩) (v := ?_) rfl (by kernel_rfl) (by kernel_rfl) (by kernel_rfl) (fun _ _ _ h => h) (Or.inl ⟨by rfl, ?_⟩) (by assumption) ?_
    rotate_left
    · (intro w hSw; (try dsimp only at hSw); go_simp; try with_reducible rfl)
    simp only [Act.put, List.setIfInBounds_toArray, List.set_cons_zero, List.set_cons_succ]
    refine wpAnyH_ready (rs := [9]) (by kernel_rfl) (by simp) ?_
    refine AllReadyH.cons rfl (fun K hK => ?_) AllReadyH.nil
    go_simp
    refine hK.out _ _ hHeld (fun hHeld => ?_)
    clear hK K
    refine wpAnyH_ready (rs := [10]) (by kernel_rfl) (by simp) ?_
    refine AllReadyH.cons rfl (fun K hK => ?_) AllReadyH.nil
    go_simp
    refine hK.out _ _ hHeld (fun hHeld => ?_)
    clear hK K
    refine wpAnyH_ready (rs := [11]) (by kernel_rfl) (by simp) ?_
    refine AllReadyH.cons rfl (fun K hK => ?_) AllReadyH.nil
    go_simp
    refine hK.out _ _ hHeld (fun hHeld => ?_)
    clear hK K
    refine wpAnyH_ready (rs := [12]) (by kernel_rfl) (by simp) ?_
    refine AllReadyH.cons rfl (fun K hK => ?_) AllReadyH.nil
    go_simp
    refine hK.out _ _ hHeld (fun hHeld => ?_)
    clear hK K
    clear hHeld
    refine wpAnyH_done (by kernel_rfl) ?_ _
    simp only [cutQ, List.drop_succ_cons, List.drop_zero]
    go_upto_region 16 with fail
    have HTL := Lib.hid (((HO.out.st hkl (f := 5) (u := .int .i64 (wrap64 (n.ln + u))) (by omega) ⟨kk, o, ⟨wrap64 (n.ln + u), n.dy, n.Ad, n.cd, n.Aa, n.ca, n.dep, n.arr⟩⟩ (by rw [HXX.out]; rfl) ⟨HM.out.o, ⟨HM.out.n.d, HM.out.n.a⟩⟩).bel (Below.refl _ _).drew).fin (by simp) (show es.length ≤ 4096 by omega))
    have HBZ := Lib.hid (show Below w2.heap.size w2 (w3.setCell ⟨b, k * 9 + 5, none⟩ (.int .i64 (wrap64 (n.ln + u)))).drew from (HB.out.setCell hb0 _).drew)
    clear d0 d1 d2 d3' d4 d5 d6 d7 d8 g0 g1 g2 g3 g4 g5 g6 g7 g8
    refine world_gen (fun W => (∃ L, es.length = List.length L ∧ EL W (some ⟨b, 0, none⟩) (d3) L) ∧ TL W A1 c1 xs ∧ Below w.heap.size w W) ⟨HTL.out, HX2.out.go HBZ.out, HB2.out.trans (HBZ.out.mono HB2.out.size)⟩ ?_
    clear HTL HB2 HX2 hp hkl hbl hb0 hq hbase HXX HM
    rintro W ⟨⟨L, hl, htl⟩, hxz, hbz⟩
    rw [hl]
    have HTL := Lib.hid htl
    have HXZ := Lib.hid hxz
    have HBZ := Lib.hid hbz
    clear hl htl hbz hxz
    go_wp2_with fail
    obtain ⟨j1, hj1⟩ : ∃ j : Nat, (apV (xs.map CT.pt) ((L).map CE.pe)).1 = j := ⟨_, rfl⟩
    have HJ := Lib.hid hj1
    obtain ⟨j2, hj2⟩ : ∃ j : Nat, (apV (xs.map CT.pt) (rs.map CE.pe)).1 = j := ⟨_, rfl⟩
    have HK := Lib.hid hj2
    clear hj1 hj2
    refine (app_any A1 (some ⟨b, 0, none⟩) c1 (d3) xs (L) (W) HXZ.out HTL.out HXO.out).mono ?_
    rintro e w4 ⟨A4, c4, t4, rfl, ht4, hv4, hb4⟩
    rw [HJ.out]
    have HT4 := Lib.hid ht4.l
    have HV4 := Lib.hid hv4
    have HE4 := Lib.hid (HTL.out.go hb4)
    have HX4 := Lib.hid (HXZ.out.go hb4)
    have HB4 := Lib.hid (HBZ.out.trans (hb4.mono HBZ.out.size))
    clear ht4 hv4 hb4 HTL HXZ HBZ
    go_wp2_with fail
    refine (rapp_any A1 (some ⟨b, 0, none⟩) c1 (d3) xs (L) w4 HX4.out HE4.out).mono ?_
    rintro e w5 ⟨A5, c5, t5, rfl, ht5, hv5, hb5⟩
    rw [HJ.out]
    have HT5 := Lib.hid ht5.l
    have HV5 := Lib.hid (show t5.map CT.pt = t4.map CT.pt from hv5.trans HV4.out.symm)
    have HT45 := Lib.hid (HT4.out.go hb5)
    have HX5 := Lib.hid (HX4.out.go hb5)
    have HB5 := Lib.hid (HB4.out.trans (hb5.mono HB4.out.size))
    clear ht5 hv5 hb5 HE4 HX4 HB4 HT4 HV4
    go_wp2_with fail
    refine (app_any A1 RA c1 rc xs rs w5 HX5.out (HR.out.go HB5.out) HXO.out).mono ?_
    rintro e w6 ⟨A6, c6, t6, rfl, ht6, hv6, hb6⟩
    rw [HK.out]
    have HT46 := Lib.hid (HT45.out.go hb6)
    have HT56 := Lib.hid (HT5.out.go hb6)
    have HX6 := Lib.hid (HX5.out.go hb6)
    have HB6 := Lib.hid (HB5.out.trans (hb6.mono HB5.out.size))
    clear ht6 hv6 hb6 HT45 HT5 HX5 HB5
    go_wp2_with fail
    refine (rapp_any A1 RA c1 rc xs rs w6 HX6.out (HR.out.go HB6.out)).mono ?_
    rintro e w7 ⟨A7, c7, t7, rfl, ht7, hv7, hb7⟩
    rw [HK.out]
    have HT47 := Lib.hid (HT46.out.go hb7)
    have HT57 := Lib.hid (HT56.out.go hb7)
    have HB7 := Lib.hid (HB6.out.trans (hb7.mono HB6.out.size))
    clear ht7 hv7 hb7 HT46 HT56 HX6 HB6
    have hk1 : ((j1 : Int) == (j1 : Int)) = true := by simp
    have hk2 : ((j2 : Int) == (j2 : Int)) = true := by simp
    go_wp2_with fail
    refine (awake_any w7).mono ?_
    rintro e w8 ⟨rfl, hb8⟩
    have HT48 := Lib.hid (HT47.out.go hb8)
    have HT58 := Lib.hid (HT57.out.go hb8)
    have HB8 := Lib.hid (HB7.out.trans (hb8.mono HB7.out.size))
    clear hb8 HB7 HT47 HT57
    go_wp2_with fail
    refine (sameT_yes A4 A5 c4 c5 _ t4 t5 w8 HT48.out HT58.out rfl HV5.out).mono ?_
    rintro e wa ⟨rfl, hba⟩
    have HBa := Lib.hid (HB8.out.trans (hba.mono HB8.out.size))
    clear hba HB8
    go_wp2_with fail
    go_ret
    exact ⟨rfl, HBa.out⟩
  · obtain ⟨iE, b1, b2, b3, b4⟩ := info_parts infoEd
    have HIE := Lib.hid (And.intro b1 (And.intro b2 (And.intro b3 b4)))
    clear b1 b2 b3 b4
    go_upto_region 16 with (at_builtin; refine wpList_append_own_at _ rfl _ _ 33 rfl ((w2.heap.size)) 40 iE _ 9 136 Try.underlying33 HIE.out.1 HIE.out.2.1 HIE.out.2.2.1 HIE.out.2.2.2 rfl (by omega) _ (es.length) _ rfl (World.ownsRow.alloc HO.out.o _) ⟨(w3).heap.size, 0, none⟩ 1 1 (CE.cells ⟨kk, o, n⟩) rfl rfl ?c0 ?c1 ?c2 ?c3 ?c4 ?_; rotate_right; intro v' w' hown' hg' _ hat')
    case c0 => first | exact news_new _ _ (CE.cells ⟨kk, o, n⟩) | exact fun _ _ h => h
    case c1 => exact CE.one _
    case c2 => simp only [maxLen]; omega
    case c3 => omega
    case c4 => first | omega | (simp; omega)
    have HAL := Lib.hid (show Below w3.heap.size w3 (w3.alloc (.cells (CE.cells ⟨kk, o, n⟩).toArray 40)) from (by repeat (first | exact Below.refl _ _ | (with_reducible refine Below.drew ?_) | (with_reducible refine below_drewN ?_ _) | (with_reducible refine Below.alloc ?_ (by first | omega | (simp; done) | (simp; omega)) _) | (with_reducible refine Below.setCell ?_ (by first | omega | (simp; done) | (simp; omega)) _) | (refine Below.trans ?_ (Below.mono (by with_reducible assumption) (by first | omega | (simp; done) | (simp; omega)))))))
    have HT5 := Lib.hid ((HO.out.bel HAL.out).app (HM.out.kp (Kp.bel HAL.out)) hown' hg')
    obtain ⟨Az, cz, rfl, _, _⟩ := own_slice hown'
    have HBZ := Lib.hid ((HB.out.trans (HAL.out.mono hbase)).grown hg' (Nat.le_trans hbase HAL.out.size) (fun k hk => (own_block HO.out.o k hk).1))
    have HTL := Lib.hid ((show EO w' w2.heap.size (.slice Az (es ++ [(⟨kk, o, n⟩ : CE)]).length cz) _ from by rw [List.length_append]; exact HT5.out).fin (by simp) (show es.length + 1 ≤ 4096 by omega))
    clear hown' hg' HAL HT5 HIE
    clear d0 d1 d2 d3' d4 d5 d6 d7 d8 g0 g1 g2 g3 g4 g5 g6 g7 g8
    refine world_gen (fun W => (∃ L, es.length + 1 = List.length L ∧ EL W (Az) (cz) L) ∧ TL W A1 c1 xs ∧ Below w.heap.size w W) ⟨HTL.out, HX2.out.go HBZ.out, HB2.out.trans (HBZ.out.mono HB2.out.size)⟩ ?_
    clear HTL HB2 HX2 hp hkl hbl hb0 hq hbase HXX HM
    rintro W ⟨⟨L, hl, htl⟩, hxz, hbz⟩
    rw [hl]
    have HTL := Lib.hid htl
    have HXZ := Lib.hid hxz
    have HBZ := Lib.hid hbz
    clear hl htl hbz hxz
    go_wp2_with fail
    obtain ⟨j1, hj1⟩ : ∃ j : Nat, (apV (xs.map CT.pt) ((L).map CE.pe)).1 = j := ⟨_, rfl⟩
    have HJ := Lib.hid hj1
    obtain ⟨j2, hj2⟩ : ∃ j : Nat, (apV (xs.map CT.pt) (rs.map CE.pe)).1 = j := ⟨_, rfl⟩
    have HK := Lib.hid hj2
    clear hj1 hj2
    refine (app_any A1 (Az) c1 (cz) xs (L) (W) HXZ.out HTL.out HXO.out).mono ?_
    rintro e w4 ⟨A4, c4, t4, rfl, ht4, hv4, hb4⟩
    rw [HJ.out]
    have HT4 := Lib.hid ht4.l
    have HV4 := Lib.hid hv4
    have HE4 := Lib.hid (HTL.out.go hb4)
    have HX4 := Lib.hid (HXZ.out.go hb4)
    have HB4 := Lib.hid (HBZ.out.trans (hb4.mono HBZ.out.size))
    clear ht4 hv4 hb4 HTL HXZ HBZ
    go_wp2_with fail
    refine (rapp_any A1 (Az) c1 (cz) xs (L) w4 HX4.out HE4.out).mono ?_
    rintro e w5 ⟨A5, c5, t5, rfl, ht5, hv5, hb5⟩
    rw [HJ.out]
    have HT5 := Lib.hid ht5.l
    have HV5 := Lib.hid (show t5.map CT.pt = t4.map CT.pt from hv5.trans HV4.out.symm)
    have HT45 := Lib.hid (HT4.out.go hb5)
    have HX5 := Lib.hid (HX4.out.go hb5)
    have HB5 := Lib.hid (HB4.out.trans (hb5.mono HB4.out.size))
    clear ht5 hv5 hb5 HE4 HX4 HB4 HT4 HV4
    go_wp2_with fail
    refine (app_any A1 RA c1 rc xs rs w5 HX5.out (HR.out.go HB5.out) HXO.out).mono ?_
    rintro e w6 ⟨A6, c6, t6, rfl, ht6, hv6, hb6⟩
    rw [HK.out]
    have HT46 := Lib.hid (HT45.out.go hb6)
    have HT56 := Lib.hid (HT5.out.go hb6)
    have HX6 := Lib.hid (HX5.out.go hb6)
    have HB6 := Lib.hid (HB5.out.trans (hb6.mono HB5.out.size))
    clear ht6 hv6 hb6 HT45 HT5 HX5 HB5
    go_wp2_with fail
    refine (rapp_any A1 RA c1 rc xs rs w6 HX6.out (HR.out.go HB6.out)).mono ?_
    rintro e w7 ⟨A7, c7, t7, rfl, ht7, hv7, hb7⟩
    rw [HK.out]
    have HT47 := Lib.hid (HT46.out.go hb7)
    have HT57 := Lib.hid (HT56.out.go hb7)
    have HB7 := Lib.hid (HB6.out.trans (hb7.mono HB6.out.size))
    clear ht7 hv7 hb7 HT46 HT56 HX6 HB6
    have hk1 : ((j1 : Int) == (j1 : Int)) = true := by simp
    have hk2 : ((j2 : Int) == (j2 : Int)) = true := by simp
    go_wp2_with fail
    refine (awake_any w7).mono ?_
    rintro e w8 ⟨rfl, hb8⟩
    have HT48 := Lib.hid (HT47.out.go hb8)
    have HT58 := Lib.hid (HT57.out.go hb8)
    have HB8 := Lib.hid (HB7.out.trans (hb8.mono HB7.out.size))
    clear hb8 HB7 HT47 HT57
    go_wp2_with fail
    refine (sameT_yes A4 A5 c4 c5 _ t4 t5 w8 HT48.out HT58.out rfl HV5.out).mono ?_
    rintro e wa ⟨rfl, hba⟩
    have HBa := Lib.hid (HB8.out.trans (hba.mono HB8.out.size))
    clear hba HB8
    go_wp2_with fail
    go_ret
    exact ⟨rfl, HBa.out⟩
  · go_upto_region 16 with fail
    have HTL := Lib.hid (HO.out.fin rfl (show es.length ≤ 4096 by omega))
    have HBZ := HB
    clear d0 d1 d2 d3' d4 d5 d6 d7 d8 g0 g1 g2 g3 g4 g5 g6 g7 g8
    refine world_gen (fun W => (∃ L, es.length = List.length L ∧ EL W (some ⟨b, 0, none⟩) (d3) L) ∧ TL W A1 c1 xs ∧ Below w.heap.size w W) ⟨HTL.out, HX2.out.go HBZ.out, HB2.out.trans (HBZ.out.mono HB2.out.size)⟩ ?_
    clear HTL HB2 HX2 hp hkl hbl hb0 hq hbase HXX HM
    rintro W ⟨⟨L, hl, htl⟩, hxz, hbz⟩
    rw [hl]
    have HTL := Lib.hid htl
    have HXZ := Lib.hid hxz
    have HBZ := Lib.hid hbz
    clear hl htl hbz hxz
    go_wp2_with fail
    obtain ⟨j1, hj1⟩ : ∃ j : Nat, (apV (xs.map CT.pt) ((L).map CE.pe)).1 = j := ⟨_, rfl⟩
    have HJ := Lib.hid hj1
    obtain ⟨j2, hj2⟩ : ∃ j : Nat, (apV (xs.map CT.pt) (rs.map CE.pe)).1 = j := ⟨_, rfl⟩
    have HK := Lib.hid hj2
    clear hj1 hj2
    refine (app_any A1 (some ⟨b, 0, none⟩) c1 (d3) xs (L) (W) HXZ.out HTL.out HXO.out).mono ?_
    rintro e w4 ⟨A4, c4, t4, rfl, ht4, hv4, hb4⟩
    rw [HJ.out]
    have HT4 := Lib.hid ht4.l
    have HV4 := Lib.hid hv4
    have HE4 := Lib.hid (HTL.out.go hb4)
    have HX4 := Lib.hid (HXZ.out.go hb4)
    have HB4 := Lib.hid (HBZ.out.trans (hb4.mono HBZ.out.size))
    clear ht4 hv4 hb4 HTL HXZ HBZ
    go_wp2_with fail
    refine (rapp_any A1 (some ⟨b, 0, none⟩) c1 (d3) xs (L) w4 HX4.out HE4.out).mono ?_
    rintro e w5 ⟨A5, c5, t5, rfl, ht5, hv5, hb5⟩
    rw [HJ.out]
    have HT5 := Lib.hid ht5.l
    have HV5 := Lib.hid (show t5.map CT.pt = t4.map CT.pt from hv5.trans HV4.out.symm)
    have HT45 := Lib.hid (HT4.out.go hb5)
    have HX5 := Lib.hid (HX4.out.go hb5)
    have HB5 := Lib.hid (HB4.out.trans (hb5.mono HB4.out.size))
    clear ht5 hv5 hb5 HE4 HX4 HB4 HT4 HV4
    go_wp2_with fail
    refine (app_any A1 RA c1 rc xs rs w5 HX5.out (HR.out.go HB5.out) HXO.out).mono ?_
    rintro e w6 ⟨A6, c6, t6, rfl, ht6, hv6, hb6⟩
    rw [HK.out]
    have HT46 := Lib.hid (HT45.out.go hb6)
    have HT56 := Lib.hid (HT5.out.go hb6)
    have HX6 := Lib.hid (HX5.out.go hb6)
    have HB6 := Lib.hid (HB5.out.trans (hb6.mono HB5.out.size))
    clear ht6 hv6 hb6 HT45 HT5 HX5 HB5
    go_wp2_with fail
    refine (rapp_any A1 RA c1 rc xs rs w6 HX6.out (HR.out.go HB6.out)).mono ?_
    rintro e w7 ⟨A7, c7, t7, rfl, ht7, hv7, hb7⟩
    rw [HK.out]
    have HT47 := Lib.hid (HT46.out.go hb7)
    have HT57 := Lib.hid (HT56.out.go hb7)
    have HB7 := Lib.hid (HB6.out.trans (hb7.mono HB6.out.size))
    clear ht7 hv7 hb7 HT46 HT56 HX6 HB6
    have hk1 : ((j1 : Int) == (j1 : Int)) = true := by simp
    have hk2 : ((j2 : Int) == (j2 : Int)) = true := by simp
    go_wp2_with fail
    refine (awake_any w7).mono ?_
    rintro e w8 ⟨rfl, hb8⟩
    have HT48 := Lib.hid (HT47.out.go hb8)
    have HT58 := Lib.hid (HT57.out.go hb8)
    have HB8 := Lib.hid (HB7.out.trans (hb8.mono HB7.out.size))
    clear hb8 HB7 HT47 HT57
    go_wp2_with fail
    refine (sameT_yes A4 A5 c4 c5 _ t4 t5 w8 HT48.out HT58.out rfl HV5.out).mono ?_
    rintro e wa ⟨rfl, hba⟩
    have HBa := Lib.hid (HB8.out.trans (hba.mono HB8.out.size))
    clear hba HB8
    go_wp2_with fail
    go_ret
    exact ⟨rfl, HBa.out⟩
end Go.Proofs.Ythfifejjfnmpoaa
