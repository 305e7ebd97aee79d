import Derived.Test.YthfifejjfnmpoaaTp29
import Derived.Test.YthfifejjfnmpoaaTp23
import Derived.Test.YthfifejjfnmpoaaTp10
import Derived.Test.YthfifejjfnmpoaaCut
import Derived.Test.YthfifejjfnmpoaaStAp2
import Derived.Test.YthfifejjfnmpoaaOpenTp
namespace Go.Proofs.Ythfifejjfnmpoaa
open Go.RowKit
set_option linter.unusedSimpArgs false in
set_option maxRecDepth 100000 in
set_option maxHeartbeats 16000000 in
theorem dcheck_true (x0 : STrip) (A1 : Option Addr) (n1 c1 : Nat) (z1 : List Int) (a2 a3 a4 : Int) (w : World) (_t0 : True) (s0 : TL w x0.A x0.c x0.xs) (h1 : Rd w w.heap.size 1 A1 n1 (z1.map (Value.int .i64))) (m1 : n1 ≤ c1 ∧ c1 ≤ maxLen ∧ c1 * 8 ≤ 140737488351232) (_w2 : (Lit.int .i64 a2).wf = true) (_w3 : (Lit.int .i64 a3).wf = true) (_w4 : (Lit.int .i64 a4).wf = true) :
    Calls Try.prog 3 #[.slice x0.A x0.xs.length x0.c, .slice A1 n1 c1, .int .i64 a2, .int .i64 a3, .int .i64 a4] w fun e w' => e = .returned (.bool true) ∧ Below w.heap.size w w' := by
  have H1 := Lib.hid h1
  have Hm1 := Lib.hid (show n1 ≤ maxLen by omega)
  obtain ⟨RA, rc, rs⟩ := x0
  simp only at s0 ⊢
  have HR := Lib.hid s0
  clear h1 m1 s0 _t0 _w2 _w3 _w4
  go_enter Try.func3, Try.ntmps3
  go_wp2_with fail
  refine (trips_any A1 n1 c1 z1 w H1.out Hm1.out).mono ?_
  rintro e w1 ⟨A0, c0, xs, rfl, ho1, hl1, hg1, hb1⟩
  have HCK := Lib.hid (hg1.chk (by omega))
  have HOK := Lib.hid hg1.ok
  have HO1 := Lib.hid ho1
  have HB1 := Lib.hid hb1
  clear ho1 hg1 hb1 H1 Hm1
  go_wp2_with fail
  refine (check_any A0 c0 xs w1 (HO1.out.tl (by omega))).mono ?_
  rintro e w2 ⟨rfl, hb2⟩
  rw [HCK.out]
  have HO := Lib.hid (HO1.out.bel hb2)
  have HB := Lib.hid (HB1.out.trans (hb2.mono HB1.out.size))
  have hbase := HB.out.size
  clear HO1 HB1 hb2
  by_cases h0 : xs.length = 0
  · have HTL := Lib.hid (HO.out.tl (by omega))
    have HBZ := HB
    obtain rfl := List.eq_nil_of_length_eq_zero h0
    go_wp2_with fail
    have HZ : Hid (∃ zz, chkT (([]).map CT.pt) = zz) := ⟨_, rfl⟩
    obtain ⟨zz, hz⟩ := HZ
    have HZ := Lib.hid hz
    clear hz
    have HW : Hid (∃ zz, chkT (rs.map CT.pt) = zz) := ⟨_, rfl⟩
    obtain ⟨zr, hz⟩ := HW
    have HW := Lib.hid hz
    clear hz
    refine (awake_any (w2)).mono ?_
    rintro e w5 ⟨rfl, hb5⟩
    have HT5 := Lib.hid (HTL.out.go hb5)
    have HB5 := Lib.hid (HBZ.out.trans (hb5.mono HBZ.out.size))
    clear hb5 HTL HBZ
    go_wp2_with fail
    refine (check_any (A0) (c0) ([]) w5 HT5.out).mono ?_
    rintro e w6 ⟨rfl, hb6⟩
    rw [HZ.out]
    have HT6 := Lib.hid (HT5.out.go hb6)
    have HB6 := Lib.hid (HB5.out.trans (hb6.mono HB5.out.size))
    clear hb6 HT5 HB5
    go_wp2_with fail
    refine (rcheck_any (A0) (c0) ([]) w6 HT6.out).mono ?_
    rintro e w7 ⟨rfl, hb7⟩
    rw [HZ.out]
    have HB7 := Lib.hid (HB6.out.trans (hb7.mono HB6.out.size))
    clear hb7 HT6 HB6
    go_wp2_with fail
    refine (check_any RA rc rs w7 (HR.out.go HB7.out)).mono ?_
    rintro e w8 ⟨rfl, hb8⟩
    rw [HW.out]
    have HB8 := Lib.hid (HB7.out.trans (hb8.mono HB7.out.size))
    clear hb8 HB7
    go_wp2_with fail
    refine (rcheck_any RA rc rs w8 (HR.out.go HB8.out)).mono ?_
    rintro e w9 ⟨rfl, hb9⟩
    rw [HW.out]
    have HB9 := Lib.hid (HB8.out.trans (hb9.mono HB8.out.size))
    clear hb9 HB8
    go_wp2_with fail
    go_ret
    exact ⟨rfl, HB9.out⟩
  obtain ⟨b, rfl⟩ : ∃ b, A0 = some ⟨b, 0, none⟩ := by
    rcases own_at0 HO.out.o with rfl | h
    · have := (own_nil HO.out.o).1; omega
    · exact h
  have hp := pick_bd a3 xs.length (by omega) (by omega)
  go_wp2_with fail
  refine (pick_any a3 xs.length w2 (by omega) (by omega)).mono ?_
  rintro e w' ⟨rfl, rfl⟩
  obtain ⟨k, hk⟩ : ∃ k : Nat, pick a3 xs.length = (k : Int) := ⟨(pick a3 xs.length).toNat, by omega⟩
  rw [hk] at hp ⊢
  have hkl : k < xs.length := by omega
  clear hk
  obtain ⟨⟨hb0, hbl⟩, ⟨d0, d1, d2, d3⟩, g0, g1, g2, g3⟩ := HO.out.cells hkl
  have hq := pick_bd a2 6 (by omega) (by omega)
  go_wp2_with fail
  refine (pick_any a2 6 w2 (by omega) (by omega)).mono ?_
  rintro e w' ⟨rfl, rfl⟩
  generalize pick a2 6 = q at *
  have hT := HOK.out _ (List.getElem_mem hkl)
  obtain ⟨hT1, hT2, hT3⟩ : 1 ≤ (xs[k]).dep.length ∧ 1 ≤ (xs[k]).arr.length ∧ (xs[k]).dep.length ≤ 12 := by
    have h := okT_iff.1 hT.1
    have e1 : (xs[k]).dep.length = (xs[k]).arr.length := h.2.2.1
    have e2 : 1 ≤ (xs[k]).dep.length := h.2.2.2.1
    have e3 : (xs[k]).dep.length ≤ 12 := h.2.2.2.2.1
    omega
  clear hT HCK
  have HM := Lib.hid (HO.out.m _ (List.getElem_mem hkl))
  generalize hx : xs[k] = x at d0 d1 d2 d3 hT1 hT2 hT3 HM
  have HX := Lib.hid hx
  clear hx
  obtain ⟨ln, dy, Ad, cd, Aa, ca, dep, arr⟩ := x
  dsimp only at d0 d1 d2 d3 hT1 hT2 hT3
  have HA := Lib.hid HM.out.a
  have HD := Lib.hid HM.out.d
  dsimp only at HA HD
  clear HM
  obtain ⟨bd, od, rfl, _, _⟩ := HD.out.r.2 (by omega)
  obtain ⟨ba, oa, rfl, _, _⟩ := HA.out.r.2 (by omega)
  obtain rfl | rfl | rfl | rfl | rfl | rfl : q = 0 ∨ q = 1 ∨ q = 2 ∨ q = 3 ∨ q = 4 ∨ q = 5 := by omega
  · go_wp2_with fail
    have hv := pick_bd a4 4 (by omega) (by omega)
    refine (pick_any a4 4 w2 (by omega) (by omega)).mono ?_
    rintro e w' ⟨rfl, rfl⟩
    generalize pick a4 4 = u at *
    go_upto_region 18 with fail
    have HTL := Lib.hid ((HO.out.st hkl (f := 0) (u := .int .i64 (u - 1)) (by omega) ⟨u - 1, dy, some ⟨bd, od, none⟩, cd, some ⟨ba, oa, none⟩, ca, dep, arr⟩ (by rw [HX.out]; rfl) ⟨HD.out, HA.out⟩).fin (by simp) (show xs.length ≤ 6 by omega))
    have HBZ := Lib.hid (show Below w.heap.size w (w2.setCell ⟨b, k * 4 + 0, none⟩ (.int .i64 (u - 1))) from HB.out.setCell hb0 _)
    clear d0 d1 d2 d3 g0 g1 g2 g3
    refine world_gen (fun W => (∃ L, xs.length = List.length L ∧ TL W (some ⟨b, 0, none⟩) (c0) L) ∧ Below w.heap.size w W) ⟨HTL.out, HBZ.out⟩ ?_
    clear HTL HBZ HO HB hp hkl hbl hb0 hq hbase HOK HX HA HD
    rintro W ⟨⟨L, hl, htl⟩, hbz⟩
    rw [hl]
    have HTL := Lib.hid htl
    have HBZ := Lib.hid hbz
    clear hl htl hbz
    go_wp2_with fail
    have HZ : Hid (∃ zz, chkT ((L).map CT.pt) = zz) := ⟨_, rfl⟩
    obtain ⟨zz, hz⟩ := HZ
    have HZ := Lib.hid hz
    clear hz
    have HW : Hid (∃ zz, chkT (rs.map CT.pt) = zz) := ⟨_, rfl⟩
    obtain ⟨zr, hz⟩ := HW
    have HW := Lib.hid hz
    clear hz
    refine (awake_any (W)).mono ?_
    rintro e w5 ⟨rfl, hb5⟩
    have HT5 := Lib.hid (HTL.out.go hb5)
    have HB5 := Lib.hid (HBZ.out.trans (hb5.mono HBZ.out.size))
    clear hb5 HTL HBZ
    go_wp2_with fail
    refine (check_any (some ⟨b, 0, none⟩) (c0) (L) w5 HT5.out).mono ?_
    rintro e w6 ⟨rfl, hb6⟩
    rw [HZ.out]
    have HT6 := Lib.hid (HT5.out.go hb6)
    have HB6 := Lib.hid (HB5.out.trans (hb6.mono HB5.out.size))
    clear hb6 HT5 HB5
    go_wp2_with fail
    refine (rcheck_any (some ⟨b, 0, none⟩) (c0) (L) w6 HT6.out).mono ?_
    rintro e w7 ⟨rfl, hb7⟩
    rw [HZ.out]
    have HB7 := Lib.hid (HB6.out.trans (hb7.mono HB6.out.size))
    clear hb7 HT6 HB6
    go_wp2_with fail
    refine (check_any RA rc rs w7 (HR.out.go HB7.out)).mono ?_
    rintro e w8 ⟨rfl, hb8⟩
    rw [HW.out]
    have HB8 := Lib.hid (HB7.out.trans (hb8.mono HB7.out.size))
    clear hb8 HB7
    go_wp2_with fail
    refine (rcheck_any RA rc rs w8 (HR.out.go HB8.out)).mono ?_
    rintro e w9 ⟨rfl, hb9⟩
    rw [HW.out]
    have HB9 := Lib.hid (HB8.out.trans (hb9.mono HB8.out.size))
    clear hb9 HB8
    go_wp2_with fail
    go_ret
    exact ⟨rfl, HB9.out⟩
  · go_wp2_with fail
    have hv := pick_bd a4 4 (by omega) (by omega)
    refine (pick_any a4 4 w2 (by omega) (by omega)).mono ?_
    rintro e w' ⟨rfl, rfl⟩
    generalize pick a4 4 = u at *
    go_upto_region 18 with fail
    have HTL := Lib.hid ((HO.out.st hkl (f := 1) (u := .int .i64 (u - 1)) (by omega) ⟨ln, u - 1, some ⟨bd, od, none⟩, cd, some ⟨ba, oa, none⟩, ca, dep, arr⟩ (by rw [HX.out]; rfl) ⟨HD.out, HA.out⟩).fin (by simp) (show xs.length ≤ 6 by omega))
    have HBZ := Lib.hid (show Below w.heap.size w (w2.setCell ⟨b, k * 4 + 1, none⟩ (.int .i64 (u - 1))) from HB.out.setCell hb0 _)
    clear d0 d1 d2 d3 g0 g1 g2 g3
    refine world_gen (fun W => (∃ L, xs.length = List.length L ∧ TL W (some ⟨b, 0, none⟩) (c0) L) ∧ Below w.heap.size w W) ⟨HTL.out, HBZ.out⟩ ?_
    clear HTL HBZ HO HB hp hkl hbl hb0 hq hbase HOK HX HA HD
    rintro W ⟨⟨L, hl, htl⟩, hbz⟩
    rw [hl]
    have HTL := Lib.hid htl
    have HBZ := Lib.hid hbz
    clear hl htl hbz
    go_wp2_with fail
    have HZ : Hid (∃ zz, chkT ((L).map CT.pt) = zz) := ⟨_, rfl⟩
    obtain ⟨zz, hz⟩ := HZ
    have HZ := Lib.hid hz
    clear hz
    have HW : Hid (∃ zz, chkT (rs.map CT.pt) = zz) := ⟨_, rfl⟩
    obtain ⟨zr, hz⟩ := HW
    have HW := Lib.hid hz
    clear hz
    refine (awake_any (W)).mono ?_
    rintro e w5 ⟨rfl, hb5⟩
    have HT5 := Lib.hid (HTL.out.go hb5)
    have HB5 := Lib.hid (HBZ.out.trans (hb5.mono HBZ.out.size))
    clear hb5 HTL HBZ
    go_wp2_with fail
    refine (check_any (some ⟨b, 0, none⟩) (c0) (L) w5 HT5.out).mono ?_
    rintro e w6 ⟨rfl, hb6⟩
    rw [HZ.out]
    have HT6 := Lib.hid (HT5.out.go hb6)
    have HB6 := Lib.hid (HB5.out.trans (hb6.mono HB5.out.size))
    clear hb6 HT5 HB5
    go_wp2_with fail
    refine (rcheck_any (some ⟨b, 0, none⟩) (c0) (L) w6 HT6.out).mono ?_
    rintro e w7 ⟨rfl, hb7⟩
    rw [HZ.out]
    have HB7 := Lib.hid (HB6.out.trans (hb7.mono HB6.out.size))
    clear hb7 HT6 HB6
    go_wp2_with fail
    refine (check_any RA rc rs w7 (HR.out.go HB7.out)).mono ?_
    rintro e w8 ⟨rfl, hb8⟩
    rw [HW.out]
    have HB8 := Lib.hid (HB7.out.trans (hb8.mono HB7.out.size))
    clear hb8 HB7
    go_wp2_with fail
    refine (rcheck_any RA rc rs w8 (HR.out.go HB8.out)).mono ?_
    rintro e w9 ⟨rfl, hb9⟩
    rw [HW.out]
    have HB9 := Lib.hid (HB8.out.trans (hb9.mono HB8.out.size))
    clear hb9 HB8
    go_wp2_with fail
    go_ret
    exact ⟨rfl, HB9.out⟩
  · obtain ⟨Ad', hAd, hird⟩ : ∃ A', (if cd = 1 then some (⟨bd, od, none⟩ : Addr) else some ⟨bd, od + 1, none⟩) = A' ∧ IRd w2 w.heap.size A' (cd - 1) (dep.drop 1) := by
      by_cases hcd : cd = 1
      · subst hcd
        exact ⟨_, rfl, HD.out.tl1 hT1⟩
      · exact ⟨_, if_neg hcd, HD.out.tl hT1 hcd⟩
    have HAD := Lib.hid hAd
    have HIRD := Lib.hid hird
    clear hAd hird
    have hT1i : (1 : Int) ≤ dep.length := by omega
    obtain ⟨i0, a1, a2, a3', a4'⟩ := info_parts infoInt
    have HI := Lib.hid (And.intro a1 (And.intro a2 (And.intro a3' a4')))
    clear a1 a2 a3' a4'
    have hv := pick_bd a4 60 (by omega) (by omega)
    go_upto_region 13 with fail
    refine wp_region_cut 11 (by kernel_rfl) (by kernel_rfl) ?_
    simp only [dulled, dull, List.take_succ_cons, List.take_zero, List.drop_succ_cons, List.drop_zero, List.map_cons, List.map_nil, List.cons_append, List.nil_append]
    refine wpAny_of_held (S := fun W => W.cell? ⟨b, k * 4 + 2, none⟩ = some (.slice (some ⟨bd, od, none⟩) dep.length cd)) _ _ _ _ ?_
    change wpAnyH _ _ _ _ _ _ _ _ w2.drew
    have hHeld : (fun W : World => W.cell? ⟨b, k * 4 + 2, none⟩ = some (.slice (some ⟨bd, od, none⟩) dep.length cd)) w2.drew := d2
    refine wpAnyH_take (i := 0) (v := ?_) rfl (by kernel_rfl) (by kernel_rfl) (by kernel_rfl) (fun _ _ _ h => h) (Or.inl ⟨by rfl, ?_⟩) (by assumption) ?_
    rotate_left
    · (intro w hSw; (try dsimp only at hSw); go_simp; try with_reducible rfl)
    simp only [Act.put, List.setIfInBounds_toArray, List.set_cons_zero, List.set_cons_succ]
    refine wpAnyH_take (i := 1) (v := ?_) rfl (by kernel_rfl) (by kernel_rfl) (by kernel_rfl) (fun _ _ _ h => h) (Or.inl ⟨by rfl, ?_⟩) (by assumption) ?_
    rotate_left
    · (intro w hSw; (try dsimp only at hSw); go_simp; try with_reducible rfl)
    simp only [Act.put, List.setIfInBounds_toArray, List.set_cons_zero, List.set_cons_succ]
    refine wpAnyH_take (i := 5) (v := ?_) rfl (by kernel_rfl) (by kernel_rfl) (by kernel_rfl) (fun _ _ _ h => h) (Or.inl ⟨by rfl, ?_⟩) (by assumption) ?_
    rotate_left
    · (intro w hSw; (try dsimp only at hSw); go_simp; try with_reducible rfl)
    simp only [Act.put, List.setIfInBounds_toArray, List.set_cons_zero, List.set_cons_succ]
    refine wpAnyH_take (i := 6) (v := ?_) rfl (by kernel_rfl) (by kernel_rfl) (by kernel_rfl) (fun _ _ _ h => h) (Or.inl ⟨by rfl, ?_⟩) (by assumption) ?_
    rotate_left
    · (intro w hSw; (try dsimp only at hSw); go_simp; try with_reducible rfl)
    simp only [Act.put, List.setIfInBounds_toArray, List.set_cons_zero, List.set_cons_succ]
    refine wpAnyH_take (i := 7) (v := ?_) rfl (by kernel_rfl) (by kernel_rfl) (by kernel_rfl) (fun _ _ _ h => h) (Or.inl ⟨by rfl, ?_⟩) (by assumption) ?_
    rotate_left
    · (intro w hSw; (try dsimp only at hSw); go_simp; try with_reducible rfl)
    simp only [Act.put, List.setIfInBounds_toArray, List.set_cons_zero, List.set_cons_succ]
    refine wpAnyH_take (i := 8) (v := ?_) rfl (by kernel_rfl) (by kernel_rfl) (by kernel_rfl) (fun _ _ _ h => h) (Or.inl ⟨by rfl, ?_⟩) (by assumption) ?_
    rotate_left
    · (intro w hSw; (try dsimp only at hSw); go_simp; try with_reducible rfl)
    simp only [Act.put, List.setIfInBounds_toArray, List.set_cons_zero, List.set_cons_succ]
    refine wpAnyH_take (i := 9) (v := ?_) rfl (by kernel_rfl) (by kernel_rfl) (by kernel_rfl) (fun _ _ _ h => h) (Or.inl ⟨by rfl, ?_⟩) (by assumption) ?_
    rotate_left
    · (intro w hSw; (try dsimp only at hSw); go_simp; try with_reducible rfl)
    simp only [Act.put, List.setIfInBounds_toArray, List.set_cons_zero, List.set_cons_succ]
    simp only [HAD.out]
    refine wpAnyH_ready (rs := [2]) (by kernel_rfl) (by simp) ?_
    refine AllReadyH.cons rfl (fun K hK => ?_) AllReadyH.nil
    go_simp
    go_at_call 14
    refine (pick_any a4 60 _ (by omega) (by omega)).mono ?_
    rintro e w' ⟨rfl, rfl⟩
    generalize pick a4 60 = u at *
    have ew : IntKind.i64.wrap (u - 1) = u - 1 := IntWalk.i64_in _ (by omega)
    refine hK.out _ _ hHeld (fun hHeld => ?_)
    clear hK K
    try simp only [Act.put, List.setIfInBounds_toArray, List.set_cons_zero, List.set_cons_succ]
    refine wpAnyH_take (i := 3) (v := ?_) rfl (by kernel_rfl) (by kernel_rfl) (by kernel_rfl) (fun _ _ _ h => h) (Or.inl ⟨by rfl, ?_⟩) (by assumption) ?_
    rotate_left
    · (intro w hSw; (try dsimp only at hSw); go_simp; try with_reducible rfl)
    simp only [Act.put, List.setIfInBounds_toArray, List.set_cons_zero, List.set_cons_succ]
    (try rw [ew])
    refine wpAnyH_ready (rs := [4]) (by kernel_rfl) (by simp) ?_
    refine AllReadyH.cons rfl (fun K hK => ?_) AllReadyH.nil
    go_simp
    have hba : Below w2.heap.size w2 (w2.drew.alloc (.cells #[.int .i64 (u - 1)] 3)) := (by repeat (first | exact Below.refl _ _ | (with_reducible refine Below.drew ?_) | (with_reducible refine below_drewN ?_ _) | (with_reducible refine Below.alloc ?_ (by first | omega | (simp; done) | (simp; omega)) _) | (with_reducible refine Below.setCell ?_ (by first | omega | (simp; done) | (simp; omega)) _) | (refine Below.trans ?_ (Below.mono (by with_reducible assumption) (by first | omega | (simp; done) | (simp; omega))))))
    refine hK.out _ _ (cell_bel hba d2) (fun hHeld => ?_)
    clear hK K
    try simp only [Act.put, List.setIfInBounds_toArray, List.set_cons_zero, List.set_cons_succ]
    refine wpAnyH_ready (rs := [10]) (by kernel_rfl) (by simp) ?_
    refine AllReadyH.cons rfl (fun K hK => ?_) AllReadyH.nil
    refine step_append_any (by rfl) _ _ _ (by rfl) w.heap.size 3 i0 _ 1 8 Try.underlying23 HI.out.1 HI.out.2.1 HI.out.2.2.1 HI.out.2.2.2 rfl (by omega) (.slice (some ⟨w2.drew.heap.size, 0, none⟩) 1 1) 1 [.int .i64 (u - 1)] rfl (World.ownsRow_lit w2.drew #[.int .i64 (u - 1)] 1 hbase (by simp [maxLen]) rfl) Ad' (dep.length - 1) (cd - 1) _ ((dep.drop 1).map (Value.int .i64)) rfl (fun e => by have := HIRD.out.nl e; simpa using this) (by have h := HIRD.out.r.grow hba; rwa [List.length_drop] at h) (fun u hu => by obtain ⟨_, _, rfl⟩ := List.mem_map.1 hu; rfl) (by simp only [maxLen]; omega) (by omega) (Nat.le_trans hbase hba.size) ?_
    intro v8 w8 ho8 hg8 hat8
    obtain ⟨A8, c8, rfl, _, _⟩ := own_slice ho8
    have hb8 : Below w2.heap.size w2 w8 := hba.grown hg8 hba.size (fun k hk => by simp [Value.ownBlock] at hk; omega)
    have HIR8 := Lib.hid (show IRd w8 w.heap.size A8 c8 ((u - 1) :: dep.drop 1) from IRd.of_own (base := w.heap.size) (by
      have e : 1 + (dep.length - 1) = ((u - 1) :: dep.drop 1).length := by simp; omega
      rw [← e]
      simpa using ho8) (by simp; omega))
    refine hK.out _ _ (cell_bel hb8 d2) (fun hHeld => ?_)
    clear hK K ho8 hg8 hat8 hba
    try simp only [Act.put, List.setIfInBounds_toArray, List.set_cons_zero, List.set_cons_succ]
    refine wpAnyH_ready (rs := [11]) (by kernel_rfl) (by simp) ?_
    refine AllReadyH.cons rfl (fun K hK => ?_) AllReadyH.nil
    go_simp
    refine hK.out _ _ hHeld (fun hHeld => ?_)
    clear hK K
    refine wpAnyH_ready (rs := [12]) (by kernel_rfl) (by simp) ?_
    refine AllReadyH.cons rfl (fun K hK => ?_) AllReadyH.nil
    go_simp
    refine hK.out _ _ hHeld (fun hHeld => ?_)
    clear hK K
    refine wpAnyH_ready (rs := [13]) (by kernel_rfl) (by simp) ?_
    refine AllReadyH.cons rfl (fun K hK => ?_) AllReadyH.nil
    go_simp
    refine hK.out _ _ hHeld (fun hHeld => ?_)
    clear hK K
    clear hHeld
    refine wpAnyH_done (by kernel_rfl) ?_ _
    simp only [cutQ, List.drop_succ_cons, List.drop_zero]
    have HO8 := Lib.hid (HO.out.bel hb8)
    have HX8 := Lib.hid (show IRd w8 w.heap.size (some ⟨ba, oa, none⟩) ca arr from HA.out.kp (Kp.bel hb8))
    have HB8 := Lib.hid (HB.out.trans (hb8.mono hbase))
    have gg2 := (HO8.out.cells hkl).2.2.2.2.1
    have dd2 := cell_bel hb8 d2
    have hbl8 : b < w8.heap.size := Nat.lt_of_lt_of_le hbl hb8.size
    clear hb8 d0 d1 d2 d3 g0 g1 g2 g3
    go_upto_region 18 with fail
    have HTL := Lib.hid ((HO8.out.st hkl (f := 2) (u := .slice A8 dep.length c8) (by omega) ⟨ln, dy, A8, c8, some ⟨ba, oa, none⟩, ca, (u - 1) :: dep.drop 1, arr⟩ (by rw [HX.out]; simp [CT.cells]; omega) ⟨HIR8.out, HX8.out⟩).fin (by simp) (show xs.length ≤ 6 by omega))
    have HBZ := Lib.hid (show Below w.heap.size w (w8.setCell ⟨b, k * 4 + 2, none⟩ (.slice A8 dep.length c8)) from HB8.out.setCell hb0 _)
    clear dd2 gg2 hbl8 HB8 HIR8 HX8 HO8 HIRD HAD HI
    refine world_gen (fun W => (∃ L, xs.length = List.length L ∧ TL W (some ⟨b, 0, none⟩) (c0) L) ∧ Below w.heap.size w W) ⟨HTL.out, HBZ.out⟩ ?_
    clear HTL HBZ HO HB hp hkl hbl hb0 hq hbase HOK HX HA HD
    rintro W ⟨⟨L, hl, htl⟩, hbz⟩
    rw [hl]
    have HTL := Lib.hid htl
    have HBZ := Lib.hid hbz
    clear hl htl hbz
    go_wp2_with fail
    have HZ : Hid (∃ zz, chkT ((L).map CT.pt) = zz) := ⟨_, rfl⟩
    obtain ⟨zz, hz⟩ := HZ
    have HZ := Lib.hid hz
    clear hz
    have HW : Hid (∃ zz, chkT (rs.map CT.pt) = zz) := ⟨_, rfl⟩
    obtain ⟨zr, hz⟩ := HW
    have HW := Lib.hid hz
    clear hz
    refine (awake_any (W)).mono ?_
    rintro e w5 ⟨rfl, hb5⟩
    have HT5 := Lib.hid (HTL.out.go hb5)
    have HB5 := Lib.hid (HBZ.out.trans (hb5.mono HBZ.out.size))
    clear hb5 HTL HBZ
    go_wp2_with fail
    refine (check_any (some ⟨b, 0, none⟩) (c0) (L) w5 HT5.out).mono ?_
    rintro e w6 ⟨rfl, hb6⟩
    rw [HZ.out]
    have HT6 := Lib.hid (HT5.out.go hb6)
    have HB6 := Lib.hid (HB5.out.trans (hb6.mono HB5.out.size))
    clear hb6 HT5 HB5
    go_wp2_with fail
    refine (rcheck_any (some ⟨b, 0, none⟩) (c0) (L) w6 HT6.out).mono ?_
    rintro e w7 ⟨rfl, hb7⟩
    rw [HZ.out]
    have HB7 := Lib.hid (HB6.out.trans (hb7.mono HB6.out.size))
    clear hb7 HT6 HB6
    go_wp2_with fail
    refine (check_any RA rc rs w7 (HR.out.go HB7.out)).mono ?_
    rintro e w8 ⟨rfl, hb8⟩
    rw [HW.out]
    have HB8 := Lib.hid (HB7.out.trans (hb8.mono HB7.out.size))
    clear hb8 HB7
    go_wp2_with fail
    refine (rcheck_any RA rc rs w8 (HR.out.go HB8.out)).mono ?_
    rintro e w9 ⟨rfl, hb9⟩
    rw [HW.out]
    have HB9 := Lib.hid (HB8.out.trans (hb9.mono HB8.out.size))
    clear hb9 HB8
    go_wp2_with fail
    go_ret
    exact ⟨rfl, HB9.out⟩
  · by_cases hca : ca = 1
    · subst hca
      go_upto_region 18 with fail
      have HTL := Lib.hid ((HO.out.st hkl (f := 3) (u := .slice (some ⟨ba, oa, none⟩) (arr.length - 1) 0) (by omega) ⟨ln, dy, some ⟨bd, od, none⟩, cd, some ⟨ba, oa, none⟩, 0, dep, arr.drop 1⟩ (by rw [HX.out]; simp [CT.cells]) ⟨HD.out, HA.out.tl1 hT2⟩).fin (by simp) (show xs.length ≤ 6 by omega))
      have HBZ := Lib.hid (show Below w.heap.size w (w2.setCell ⟨b, k * 4 + 3, none⟩ (.slice (some ⟨ba, oa, none⟩) (arr.length - 1) 0)) from HB.out.setCell hb0 _)
      clear d0 d1 d2 d3 g0 g1 g2 g3
      refine world_gen (fun W => (∃ L, xs.length = List.length L ∧ TL W (some ⟨b, 0, none⟩) (c0) L) ∧ Below w.heap.size w W) ⟨HTL.out, HBZ.out⟩ ?_
      clear HTL HBZ HO HB hp hkl hbl hb0 hq hbase HOK HX HA HD
      rintro W ⟨⟨L, hl, htl⟩, hbz⟩
      rw [hl]
      have HTL := Lib.hid htl
      have HBZ := Lib.hid hbz
      clear hl htl hbz
      go_wp2_with fail
      have HZ : Hid (∃ zz, chkT ((L).map CT.pt) = zz) := ⟨_, rfl⟩
      obtain ⟨zz, hz⟩ := HZ
      have HZ := Lib.hid hz
      clear hz
      have HW : Hid (∃ zz, chkT (rs.map CT.pt) = zz) := ⟨_, rfl⟩
      obtain ⟨zr, hz⟩ := HW
      have HW := Lib.hid hz
      clear hz
      refine (awake_any (W)).mono ?_
      rintro e w5 ⟨rfl, hb5⟩
      have HT5 := Lib.hid (HTL.out.go hb5)
      have HB5 := Lib.hid (HBZ.out.trans (hb5.mono HBZ.out.size))
      clear hb5 HTL HBZ
      go_wp2_with fail
      refine (check_any (some ⟨b, 0, none⟩) (c0) (L) w5 HT5.out).mono ?_
      rintro e w6 ⟨rfl, hb6⟩
      rw [HZ.out]
      have HT6 := Lib.hid (HT5.out.go hb6)
      have HB6 := Lib.hid (HB5.out.trans (hb6.mono HB5.out.size))
      clear hb6 HT5 HB5
      go_wp2_with fail
      refine (rcheck_any (some ⟨b, 0, none⟩) (c0) (L) w6 HT6.out).mono ?_
      rintro e w7 ⟨rfl, hb7⟩
      rw [HZ.out]
      have HB7 := Lib.hid (HB6.out.trans (hb7.mono HB6.out.size))
      clear hb7 HT6 HB6
      go_wp2_with fail
      refine (check_any RA rc rs w7 (HR.out.go HB7.out)).mono ?_
      rintro e w8 ⟨rfl, hb8⟩
      rw [HW.out]
      have HB8 := Lib.hid (HB7.out.trans (hb8.mono HB7.out.size))
      clear hb8 HB7
      go_wp2_with fail
      refine (rcheck_any RA rc rs w8 (HR.out.go HB8.out)).mono ?_
      rintro e w9 ⟨rfl, hb9⟩
      rw [HW.out]
      have HB9 := Lib.hid (HB8.out.trans (hb9.mono HB8.out.size))
      clear hb9 HB8
      go_wp2_with fail
      go_ret
      exact ⟨rfl, HB9.out⟩
    · go_upto_region 18 with fail
      have HTL := Lib.hid ((HO.out.st hkl (f := 3) (u := .slice (some ⟨ba, oa + 1, none⟩) (arr.length - 1) (ca - 1)) (by omega) ⟨ln, dy, some ⟨bd, od, none⟩, cd, some ⟨ba, oa + 1, none⟩, ca - 1, dep, arr.drop 1⟩ (by rw [HX.out]; simp [CT.cells]) ⟨HD.out, HA.out.tl hT2 hca⟩).fin (by simp) (show xs.length ≤ 6 by omega))
      have HBZ := Lib.hid (show Below w.heap.size w (w2.setCell ⟨b, k * 4 + 3, none⟩ (.slice (some ⟨ba, oa + 1, none⟩) (arr.length - 1) (ca - 1))) from HB.out.setCell hb0 _)
      clear d0 d1 d2 d3 g0 g1 g2 g3
      refine world_gen (fun W => (∃ L, xs.length = List.length L ∧ TL W (some ⟨b, 0, none⟩) (c0) L) ∧ Below w.heap.size w W) ⟨HTL.out, HBZ.out⟩ ?_
      clear HTL HBZ HO HB hp hkl hbl hb0 hq hbase HOK HX HA HD
      rintro W ⟨⟨L, hl, htl⟩, hbz⟩
      rw [hl]
      have HTL := Lib.hid htl
      have HBZ := Lib.hid hbz
      clear hl htl hbz
      go_wp2_with fail
      have HZ : Hid (∃ zz, chkT ((L).map CT.pt) = zz) := ⟨_, rfl⟩
      obtain ⟨zz, hz⟩ := HZ
      have HZ := Lib.hid hz
      clear hz
      have HW : Hid (∃ zz, chkT (rs.map CT.pt) = zz) := ⟨_, rfl⟩
      obtain ⟨zr, hz⟩ := HW
      have HW := Lib.hid hz
      clear hz
      refine (awake_any (W)).mono ?_
      rintro e w5 ⟨rfl, hb5⟩
      have HT5 := Lib.hid (HTL.out.go hb5)
      have HB5 := Lib.hid (HBZ.out.trans (hb5.mono HBZ.out.size))
      clear hb5 HTL HBZ
      go_wp2_with fail
      refine (check_any (some ⟨b, 0, none⟩) (c0) (L) w5 HT5.out).mono ?_
      rintro e w6 ⟨rfl, hb6⟩
      rw [HZ.out]
      have HT6 := Lib.hid (HT5.out.go hb6)
      have HB6 := Lib.hid (HB5.out.trans (hb6.mono HB5.out.size))
      clear hb6 HT5 HB5
      go_wp2_with fail
      refine (rcheck_any (some ⟨b, 0, none⟩) (c0) (L) w6 HT6.out).mono ?_
      rintro e w7 ⟨rfl, hb7⟩
      rw [HZ.out]
      have HB7 := Lib.hid (HB6.out.trans (hb7.mono HB6.out.size))
      clear hb7 HT6 HB6
      go_wp2_with fail
      refine (check_any RA rc rs w7 (HR.out.go HB7.out)).mono ?_
      rintro e w8 ⟨rfl, hb8⟩
      rw [HW.out]
      have HB8 := Lib.hid (HB7.out.trans (hb8.mono HB7.out.size))
      clear hb8 HB7
      go_wp2_with fail
      refine (rcheck_any RA rc rs w8 (HR.out.go HB8.out)).mono ?_
      rintro e w9 ⟨rfl, hb9⟩
      rw [HW.out]
      have HB9 := Lib.hid (HB8.out.trans (hb9.mono HB8.out.size))
      clear hb9 HB8
      go_wp2_with fail
      go_ret
      exact ⟨rfl, HB9.out⟩
  · obtain ⟨i0, a1, a2, a3', a4'⟩ := info_parts infoInt
    have HI := Lib.hid (And.intro a1 (And.intro a2 (And.intro a3' a4')))
    clear a1 a2 a3' a4'
    have hv := pick_bd a4 15 (by omega) (by omega)
    obtain ⟨u, hu⟩ : ∃ u : Nat, pick a4 15 = (u : Int) := ⟨(pick a4 15).toNat, by omega⟩
    have HU := Lib.hid hu
    have hu15 : u < 15 := by omega
    clear hu hv d0 d1 d2 d3 g0 g1 g2 g3
    go_upto_region 17 with fail
    refine wp_region_any (by kernel_rfl) ?_
    refine wpAny_of_held (S := fun _ => True) _ _ _ _ ?_
    change wpAnyH _ _ _ _ _ _ _ _ w2.drew
    have hHeld : (fun _ : World => True) w2.drew := trivial
    have HO := Lib.hid (HO.out.bel ((Below.refl w2.heap.size w2).drew))
    have HA := Lib.hid (HA.out.kp (Kp.bel ((Below.refl w2.heap.size w2).drew)))
    have HB := Lib.hid (show Below w.heap.size w w2.drew from HB.out.drew)
    refine wpAnyH_take (i := 0) (v := ?_) rfl (by kernel_rfl) (by kernel_rfl) (by kernel_rfl) (fun _ _ _ h => h) (Or.inl ⟨by rfl, ?_⟩) (by assumption) ?_
    rotate_left
    · (intro w hSw; (try dsimp only at hSw); go_simp; try with_reducible rfl)
    simp only [Act.put, List.setIfInBounds_toArray, List.set_cons_zero, List.set_cons_succ]
    refine wpAnyH_take (i := 1) (v := ?_) rfl (by kernel_rfl) (by kernel_rfl) (by kernel_rfl) (fun _ _ _ h => h) (Or.inl ⟨by rfl, ?_⟩) (by assumption) ?_
    rotate_left
    · (intro w hSw; (try dsimp only at hSw); go_simp; try with_reducible rfl)
    simp only [Act.put, List.setIfInBounds_toArray, List.set_cons_zero, List.set_cons_succ]
    refine wpAnyH_take (i := 2) (v := ?_) rfl (by kernel_rfl) (by kernel_rfl) (by kernel_rfl) (fun _ _ _ h => h) (Or.inl ⟨by rfl, ?_⟩) (by assumption) ?_
    rotate_left
    · (intro w hSw; (try dsimp only at hSw); go_simp; try with_reducible rfl)
    simp only [Act.put, List.setIfInBounds_toArray, List.set_cons_zero, List.set_cons_succ]
    refine wpAnyH_take (i := 5) (v := ?_) rfl (by kernel_rfl) (by kernel_rfl) (by kernel_rfl) (fun _ _ _ h => h) (Or.inl ⟨by rfl, ?_⟩) (by assumption) ?_
    rotate_left
    · (intro w hSw; (try dsimp only at hSw); go_simp; try with_reducible rfl)
    simp only [Act.put, List.setIfInBounds_toArray, List.set_cons_zero, List.set_cons_succ]
    refine wpAnyH_ready (rs := [3]) (by kernel_rfl) (by simp) ?_
    refine AllReadyH.cons rfl (fun K hK => ?_) AllReadyH.nil
    go_simp
    go_at_call 14
    refine (pick_any a4 15 _ (by omega) (by omega)).mono ?_
    rintro e w' ⟨rfl, rfl⟩
    rw [HU.out]
    refine hK.out _ _ hHeld (fun hHeld => ?_)
    clear hK K
    try simp only [Act.put, List.setIfInBounds_toArray, List.set_cons_zero, List.set_cons_succ]
    refine wpAnyH_ready (rs := [4, 6]) (by kernel_rfl) (by simp) ?_
    refine AllReadyH.cons rfl (fun K hK => ?_) (AllReadyH.cons rfl (fun K hK => ?_) AllReadyH.nil)
    · refine step_make_full (by rfl) _ _ _ (by rfl) w.heap.size 3 i0 _ 1 Try.underlying23 HI.out.1 HI.out.2.1 HI.out.2.2.1 .i64 .i64 u (by rfl) (by rfl) (by rw [HI.out.2.2.2]; omega) (by simp only [maxLen]; omega) HB.out.size ?_
      intro w4 hown hg
      have hb := bel_grow hg
      have HD := Lib.hid (IRd.mk0 (B := w.heap.size) hown (by omega))
      have HO := Lib.hid (HO.out.bel hb)
      have HA := Lib.hid (HA.out.kp (Kp.bel hb))
      have HB := Lib.hid (HB.out.trans (hb.mono HB.out.size))
      refine hK.out _ _ hHeld (fun hHeld => ?_)
      clear hK K hown hg
      try simp only [Act.put, List.setIfInBounds_toArray, List.set_cons_zero, List.set_cons_succ]
      refine wpAnyH_ready (rs := [6]) (by kernel_rfl) (by simp) ?_
      refine AllReadyH.cons rfl (fun K hK => ?_) AllReadyH.nil
      go_simp
      go_at_call 14
      refine (pick_any a4 15 _ (by omega) (by omega)).mono ?_
      rintro e w' ⟨rfl, rfl⟩
      rw [HU.out]
      refine hK.out _ _ hHeld (fun hHeld => ?_)
      clear hK K
      try simp only [Act.put, List.setIfInBounds_toArray, List.set_cons_zero, List.set_cons_succ]
      refine wpAnyH_take (i := 8) (v := ?_) rfl (by kernel_rfl) (by kernel_rfl) (by kernel_rfl) (fun _ _ _ h => h) (Or.inl ⟨by rfl, ?_⟩) (by assumption) ?_
      rotate_left
      · (intro w hSw; (try dsimp only at hSw); go_simp; try with_reducible rfl)
      simp only [Act.put, List.setIfInBounds_toArray, List.set_cons_zero, List.set_cons_succ]
      refine wpAnyH_take (i := 9) (v := ?_) rfl (by kernel_rfl) (by kernel_rfl) (by kernel_rfl) (fun _ _ _ h => h) (Or.inl ⟨by rfl, ?_⟩) (by assumption) ?_
      rotate_left
      · (intro w hSw; (try dsimp only at hSw); go_simp; try with_reducible rfl)
      simp only [Act.put, List.setIfInBounds_toArray, List.set_cons_zero, List.set_cons_succ]
      refine wpAnyH_ready (rs := [7, 10]) (by kernel_rfl) (by simp) ?_
      refine AllReadyH.cons rfl (fun K hK => ?_) (AllReadyH.cons rfl (fun K hK => ?_) AllReadyH.nil)
      · refine step_make_full (by rfl) _ _ _ (by rfl) w.heap.size 3 i0 _ 1 Try.underlying23 HI.out.1 HI.out.2.1 HI.out.2.2.1 .i64 .i64 u (by rfl) (by rfl) (by rw [HI.out.2.2.2]; omega) (by simp only [maxLen]; omega) HB.out.size ?_
        intro w7 hown hg
        have hb := bel_grow hg
        have HN := Lib.hid (IRd.mk0 (B := w.heap.size) hown (by omega))
        have HO := Lib.hid (HO.out.bel hb)
        have HA := Lib.hid (HA.out.kp (Kp.bel hb))
        have HB := Lib.hid (HB.out.trans (hb.mono HB.out.size))
        refine hK.out _ _ hHeld (fun hHeld => ?_)
        clear hK K hown hg
        try simp only [Act.put, List.setIfInBounds_toArray, List.set_cons_zero, List.set_cons_succ]
        have HD := Lib.hid (HD.out.kp (Kp.bel hb))
        refine wpAnyH_ready (rs := [10]) (by kernel_rfl) (by simp) ?_
        refine AllReadyH.cons rfl (fun K hK => ?_) AllReadyH.nil
        have gg2 := (HO.out.cells hkl).2.2.2.2.1
        have dd2 := (HO.out.cells hkl).2.1.2.2.1
        have hbl8 := (HO.out.cells hkl).1.2
        go_simp
        refine hK.out _ _ hHeld (fun hHeld => ?_)
        clear hK K gg2 dd2 hbl8
        have HS := Lib.hid (HO.out.st hkl (f := 2) (u := .slice (some ⟨w2.heap.size, 0, none⟩) u u) (by omega) ⟨ln, dy, some ⟨w2.heap.size, 0, none⟩, u, some ⟨ba, oa, none⟩, ca, List.replicate u 0, arr⟩ (by rw [HX.out]; simp [CT.cells]) ⟨HD.out, HA.out⟩)
        have HD := Lib.hid (HD.out.kp (HO.out.kset (o := k * 4 + 2) (u := .slice (some ⟨w2.heap.size, 0, none⟩) u u)))
        have HA := Lib.hid (HA.out.kp (HO.out.kset (o := k * 4 + 2) (u := .slice (some ⟨w2.heap.size, 0, none⟩) u u)))
        have HB := Lib.hid (show Below w.heap.size w (World.setCell _ ⟨b, k * 4 + 2, none⟩ (.slice (some ⟨w2.heap.size, 0, none⟩) u u)) from HB.out.setCell hb0 _)
        have HN := Lib.hid (HN.out.kp (HO.out.kset (o := k * 4 + 2) (u := .slice (some ⟨w2.heap.size, 0, none⟩) u u)))
        have HO := HS
        refine wpAnyH_take (i := 11) (v := ?_) rfl (by kernel_rfl) (by kernel_rfl) (by kernel_rfl) (fun _ _ _ h => h) (Or.inl ⟨by rfl, ?_⟩) (by assumption) ?_
        rotate_left
        · (intro w hSw; (try dsimp only at hSw); go_simp; try with_reducible rfl)
        simp only [Act.put, List.setIfInBounds_toArray, List.set_cons_zero, List.set_cons_succ]
        refine wpAnyH_take (i := 12) (v := ?_) rfl (by kernel_rfl) (by kernel_rfl) (by kernel_rfl) (fun _ _ _ h => h) (Or.inl ⟨by rfl, ?_⟩) (by assumption) ?_
        rotate_left
        · (intro w hSw; (try dsimp only at hSw); go_simp; try with_reducible rfl)
        simp only [Act.put, List.setIfInBounds_toArray, List.set_cons_zero, List.set_cons_succ]
        have gg3 := (HO.out.cells (k := k) (by simpa using hkl)).2.2.2.2.2
        have dd3 := (HO.out.cells (k := k) (by simpa using hkl)).2.1.2.2.2
        have hbl8 := (HO.out.cells (k := k) (by simpa using hkl)).1.2
        refine wpAnyH_ready (rs := [13]) (by kernel_rfl) (by simp) ?_
        refine AllReadyH.cons rfl (fun K hK => ?_) AllReadyH.nil
        go_simp
        refine hK.out _ _ hHeld (fun hHeld => ?_)
        clear hK K gg3 dd3 hbl8 hHeld
        refine wpAnyH_done (by kernel_rfl) ?_ _
        have HTL := Lib.hid ((HO.out.st (k := k) (by simpa using hkl) (f := 3) (u := .slice (some ⟨w4.heap.size, 0, none⟩) u u) (by omega) ⟨ln, dy, some ⟨w2.heap.size, 0, none⟩, u, some ⟨w4.heap.size, 0, none⟩, u, List.replicate u 0, List.replicate u 0⟩ (by rw [List.getElem_set_self]; simp [CT.cells]) ⟨HD.out, HN.out⟩).fin (by simp) (show xs.length ≤ 6 by omega))
        have HBZ := Lib.hid (show Below w.heap.size w (World.setCell _ ⟨b, k * 4 + 3, none⟩ (.slice (some ⟨w4.heap.size, 0, none⟩) u u)) from HB.out.setCell hb0 _)
        go_upto_region 18 with fail
        clear HN HI HU
        refine world_gen (fun W => (∃ L, xs.length = List.length L ∧ TL W (some ⟨b, 0, none⟩) (c0) L) ∧ Below w.heap.size w W) ⟨HTL.out, HBZ.out⟩ ?_
        clear HTL HBZ HO HB hp hkl hbl hb0 hq hbase HOK HX HA HD
        rintro W ⟨⟨L, hl, htl⟩, hbz⟩
        rw [hl]
        have HTL := Lib.hid htl
        have HBZ := Lib.hid hbz
        clear hl htl hbz
        go_wp2_with fail
        have HZ : Hid (∃ zz, chkT ((L).map CT.pt) = zz) := ⟨_, rfl⟩
        obtain ⟨zz, hz⟩ := HZ
        have HZ := Lib.hid hz
        clear hz
        have HW : Hid (∃ zz, chkT (rs.map CT.pt) = zz) := ⟨_, rfl⟩
        obtain ⟨zr, hz⟩ := HW
        have HW := Lib.hid hz
        clear hz
        refine (awake_any (W)).mono ?_
        rintro e w5 ⟨rfl, hb5⟩
        have HT5 := Lib.hid (HTL.out.go hb5)
        have HB5 := Lib.hid (HBZ.out.trans (hb5.mono HBZ.out.size))
        clear hb5 HTL HBZ
        go_wp2_with fail
        refine (check_any (some ⟨b, 0, none⟩) (c0) (L) w5 HT5.out).mono ?_
        rintro e w6 ⟨rfl, hb6⟩
        rw [HZ.out]
        have HT6 := Lib.hid (HT5.out.go hb6)
        have HB6 := Lib.hid (HB5.out.trans (hb6.mono HB5.out.size))
        clear hb6 HT5 HB5
        go_wp2_with fail
        refine (rcheck_any (some ⟨b, 0, none⟩) (c0) (L) w6 HT6.out).mono ?_
        rintro e w7 ⟨rfl, hb7⟩
        rw [HZ.out]
        have HB7 := Lib.hid (HB6.out.trans (hb7.mono HB6.out.size))
        clear hb7 HT6 HB6
        go_wp2_with fail
        refine (check_any RA rc rs w7 (HR.out.go HB7.out)).mono ?_
        rintro e w8 ⟨rfl, hb8⟩
        rw [HW.out]
        have HB8 := Lib.hid (HB7.out.trans (hb8.mono HB7.out.size))
        clear hb8 HB7
        go_wp2_with fail
        refine (rcheck_any RA rc rs w8 (HR.out.go HB8.out)).mono ?_
        rintro e w9 ⟨rfl, hb9⟩
        rw [HW.out]
        have HB9 := Lib.hid (HB8.out.trans (hb9.mono HB8.out.size))
        clear hb9 HB8
        go_wp2_with fail
        go_ret
        exact ⟨rfl, HB9.out⟩
      · have gg2 := (HO.out.cells hkl).2.2.2.2.1
        have dd2 := (HO.out.cells hkl).2.1.2.2.1
        have hbl8 := (HO.out.cells hkl).1.2
        go_simp
        refine hK.out _ _ hHeld (fun hHeld => ?_)
        clear hK K gg2 dd2 hbl8
        have HS := Lib.hid (HO.out.st hkl (f := 2) (u := .slice (some ⟨w2.heap.size, 0, none⟩) u u) (by omega) ⟨ln, dy, some ⟨w2.heap.size, 0, none⟩, u, some ⟨ba, oa, none⟩, ca, List.replicate u 0, arr⟩ (by rw [HX.out]; simp [CT.cells]) ⟨HD.out, HA.out⟩)
        have HD := Lib.hid (HD.out.kp (HO.out.kset (o := k * 4 + 2) (u := .slice (some ⟨w2.heap.size, 0, none⟩) u u)))
        have HA := Lib.hid (HA.out.kp (HO.out.kset (o := k * 4 + 2) (u := .slice (some ⟨w2.heap.size, 0, none⟩) u u)))
        have HB := Lib.hid (show Below w.heap.size w (World.setCell _ ⟨b, k * 4 + 2, none⟩ (.slice (some ⟨w2.heap.size, 0, none⟩) u u)) from HB.out.setCell hb0 _)
        have HO := HS
        refine wpAnyH_ready (rs := [7]) (by kernel_rfl) (by simp) ?_
        refine AllReadyH.cons rfl (fun K hK => ?_) AllReadyH.nil
        refine step_make_full (by rfl) _ _ _ (by rfl) w.heap.size 3 i0 _ 1 Try.underlying23 HI.out.1 HI.out.2.1 HI.out.2.2.1 .i64 .i64 u (by rfl) (by rfl) (by rw [HI.out.2.2.2]; omega) (by simp only [maxLen]; omega) HB.out.size ?_
        intro w7 hown hg
        have hb := bel_grow hg
        have HN := Lib.hid (IRd.mk0 (B := w.heap.size) hown (by omega))
        have HO := Lib.hid (HO.out.bel hb)
        have HA := Lib.hid (HA.out.kp (Kp.bel hb))
        have HB := Lib.hid (HB.out.trans (hb.mono HB.out.size))
        refine hK.out _ _ hHeld (fun hHeld => ?_)
        clear hK K hown hg
        try simp only [Act.put, List.setIfInBounds_toArray, List.set_cons_zero, List.set_cons_succ]
        have HD := Lib.hid (HD.out.kp (Kp.bel hb))
        have HN := Lib.hid (show IRd w7 w.heap.size (some ⟨w4.heap.size, 0, none⟩) u (List.replicate u 0) from by have h := HN.out; have e : ∀ (W : World) p v, (W.setCell p v).heap.size = W.heap.size := fun W p v => (by simp); rwa [e] at h)
        refine wpAnyH_take (i := 11) (v := ?_) rfl (by kernel_rfl) (by kernel_rfl) (by kernel_rfl) (fun _ _ _ h => h) (Or.inl ⟨by rfl, ?_⟩) (by assumption) ?_
        rotate_left
        · (intro w hSw; (try dsimp only at hSw); go_simp; try with_reducible rfl)
        simp only [Act.put, List.setIfInBounds_toArray, List.set_cons_zero, List.set_cons_succ]
        refine wpAnyH_take (i := 12) (v := ?_) rfl (by kernel_rfl) (by kernel_rfl) (by kernel_rfl) (fun _ _ _ h => h) (Or.inl ⟨by rfl, ?_⟩) (by assumption) ?_
        rotate_left
        · (intro w hSw; (try dsimp only at hSw); go_simp; try with_reducible rfl)
        simp only [Act.put, List.setIfInBounds_toArray, List.set_cons_zero, List.set_cons_succ]
        have gg3 := (HO.out.cells (k := k) (by simpa using hkl)).2.2.2.2.2
        have dd3 := (HO.out.cells (k := k) (by simpa using hkl)).2.1.2.2.2
        have hbl8 := (HO.out.cells (k := k) (by simpa using hkl)).1.2
        refine wpAnyH_ready (rs := [13]) (by kernel_rfl) (by simp) ?_
        refine AllReadyH.cons rfl (fun K hK => ?_) AllReadyH.nil
        go_simp
        refine hK.out _ _ hHeld (fun hHeld => ?_)
        clear hK K gg3 dd3 hbl8 hHeld
        refine wpAnyH_done (by kernel_rfl) ?_ _
        have HTL := Lib.hid ((HO.out.st (k := k) (by simpa using hkl) (f := 3) (u := .slice (some ⟨w4.heap.size, 0, none⟩) u u) (by omega) ⟨ln, dy, some ⟨w2.heap.size, 0, none⟩, u, some ⟨w4.heap.size, 0, none⟩, u, List.replicate u 0, List.replicate u 0⟩ (by rw [List.getElem_set_self]; simp [CT.cells]) ⟨HD.out, HN.out⟩).fin (by simp) (show xs.length ≤ 6 by omega))
        have HBZ := Lib.hid (show Below w.heap.size w (World.setCell _ ⟨b, k * 4 + 3, none⟩ (.slice (some ⟨w4.heap.size, 0, none⟩) u u)) from HB.out.setCell hb0 _)
        go_upto_region 18 with fail
        clear HN HI HU
        refine world_gen (fun W => (∃ L, xs.length = List.length L ∧ TL W (some ⟨b, 0, none⟩) (c0) L) ∧ Below w.heap.size w W) ⟨HTL.out, HBZ.out⟩ ?_
        clear HTL HBZ HO HB hp hkl hbl hb0 hq hbase HOK HX HA HD
        rintro W ⟨⟨L, hl, htl⟩, hbz⟩
        rw [hl]
        have HTL := Lib.hid htl
        have HBZ := Lib.hid hbz
        clear hl htl hbz
        go_wp2_with fail
        have HZ : Hid (∃ zz, chkT ((L).map CT.pt) = zz) := ⟨_, rfl⟩
        obtain ⟨zz, hz⟩ := HZ
        have HZ := Lib.hid hz
        clear hz
        have HW : Hid (∃ zz, chkT (rs.map CT.pt) = zz) := ⟨_, rfl⟩
        obtain ⟨zr, hz⟩ := HW
        have HW := Lib.hid hz
        clear hz
        refine (awake_any (W)).mono ?_
        rintro e w5 ⟨rfl, hb5⟩
        have HT5 := Lib.hid (HTL.out.go hb5)
        have HB5 := Lib.hid (HBZ.out.trans (hb5.mono HBZ.out.size))
        clear hb5 HTL HBZ
        go_wp2_with fail
        refine (check_any (some ⟨b, 0, none⟩) (c0) (L) w5 HT5.out).mono ?_
        rintro e w6 ⟨rfl, hb6⟩
        rw [HZ.out]
        have HT6 := Lib.hid (HT5.out.go hb6)
        have HB6 := Lib.hid (HB5.out.trans (hb6.mono HB5.out.size))
        clear hb6 HT5 HB5
        go_wp2_with fail
        refine (rcheck_any (some ⟨b, 0, none⟩) (c0) (L) w6 HT6.out).mono ?_
        rintro e w7 ⟨rfl, hb7⟩
        rw [HZ.out]
        have HB7 := Lib.hid (HB6.out.trans (hb7.mono HB6.out.size))
        clear hb7 HT6 HB6
        go_wp2_with fail
        refine (check_any RA rc rs w7 (HR.out.go HB7.out)).mono ?_
        rintro e w8 ⟨rfl, hb8⟩
        rw [HW.out]
        have HB8 := Lib.hid (HB7.out.trans (hb8.mono HB7.out.size))
        clear hb8 HB7
        go_wp2_with fail
        refine (rcheck_any RA rc rs w8 (HR.out.go HB8.out)).mono ?_
        rintro e w9 ⟨rfl, hb9⟩
        rw [HW.out]
        have HB9 := Lib.hid (HB8.out.trans (hb9.mono HB8.out.size))
        clear hb9 HB8
        go_wp2_with fail
        go_ret
        exact ⟨rfl, HB9.out⟩
    · go_simp
      go_at_call 14
      refine (pick_any a4 15 _ (by omega) (by omega)).mono ?_
      rintro e w' ⟨rfl, rfl⟩
      rw [HU.out]
      refine hK.out _ _ hHeld (fun hHeld => ?_)
      clear hK K
      try simp only [Act.put, List.setIfInBounds_toArray, List.set_cons_zero, List.set_cons_succ]
      refine wpAnyH_ready (rs := [4, 7]) (by kernel_rfl) (by simp) ?_
      refine AllReadyH.cons rfl (fun K hK => ?_) (AllReadyH.cons rfl (fun K hK => ?_) AllReadyH.nil)
      · refine step_make_full (by rfl) _ _ _ (by rfl) w.heap.size 3 i0 _ 1 Try.underlying23 HI.out.1 HI.out.2.1 HI.out.2.2.1 .i64 .i64 u (by rfl) (by rfl) (by rw [HI.out.2.2.2]; omega) (by simp only [maxLen]; omega) HB.out.size ?_
        intro w4 hown hg
        have hb := bel_grow hg
        have HD := Lib.hid (IRd.mk0 (B := w.heap.size) hown (by omega))
        have HO := Lib.hid (HO.out.bel hb)
        have HA := Lib.hid (HA.out.kp (Kp.bel hb))
        have HB := Lib.hid (HB.out.trans (hb.mono HB.out.size))
        refine hK.out _ _ hHeld (fun hHeld => ?_)
        clear hK K hown hg
        try simp only [Act.put, List.setIfInBounds_toArray, List.set_cons_zero, List.set_cons_succ]
        refine wpAnyH_take (i := 8) (v := ?_) rfl (by kernel_rfl) (by kernel_rfl) (by kernel_rfl) (fun _ _ _ h => h) (Or.inl ⟨by rfl, ?_⟩) (by assumption) ?_
        rotate_left
        · (intro w hSw; (try dsimp only at hSw); go_simp; try with_reducible rfl)
        simp only [Act.put, List.setIfInBounds_toArray, List.set_cons_zero, List.set_cons_succ]
        refine wpAnyH_take (i := 9) (v := ?_) rfl (by kernel_rfl) (by kernel_rfl) (by kernel_rfl) (fun _ _ _ h => h) (Or.inl ⟨by rfl, ?_⟩) (by assumption) ?_
        rotate_left
        · (intro w hSw; (try dsimp only at hSw); go_simp; try with_reducible rfl)
        simp only [Act.put, List.setIfInBounds_toArray, List.set_cons_zero, List.set_cons_succ]
        refine wpAnyH_ready (rs := [7, 10]) (by kernel_rfl) (by simp) ?_
        refine AllReadyH.cons rfl (fun K hK => ?_) (AllReadyH.cons rfl (fun K hK => ?_) AllReadyH.nil)
        · refine step_make_full (by rfl) _ _ _ (by rfl) w.heap.size 3 i0 _ 1 Try.underlying23 HI.out.1 HI.out.2.1 HI.out.2.2.1 .i64 .i64 u (by rfl) (by rfl) (by rw [HI.out.2.2.2]; omega) (by simp only [maxLen]; omega) HB.out.size ?_
          intro w7 hown hg
          have hb := bel_grow hg
          have HN := Lib.hid (IRd.mk0 (B := w.heap.size) hown (by omega))
          have HO := Lib.hid (HO.out.bel hb)
          have HA := Lib.hid (HA.out.kp (Kp.bel hb))
          have HB := Lib.hid (HB.out.trans (hb.mono HB.out.size))
          refine hK.out _ _ hHeld (fun hHeld => ?_)
          clear hK K hown hg
          try simp only [Act.put, List.setIfInBounds_toArray, List.set_cons_zero, List.set_cons_succ]
          have HD := Lib.hid (HD.out.kp (Kp.bel hb))
          refine wpAnyH_ready (rs := [10]) (by kernel_rfl) (by simp) ?_
          refine AllReadyH.cons rfl (fun K hK => ?_) AllReadyH.nil
          have gg2 := (HO.out.cells hkl).2.2.2.2.1
          have dd2 := (HO.out.cells hkl).2.1.2.2.1
          have hbl8 := (HO.out.cells hkl).1.2
          go_simp
          refine hK.out _ _ hHeld (fun hHeld => ?_)
          clear hK K gg2 dd2 hbl8
          have HS := Lib.hid (HO.out.st hkl (f := 2) (u := .slice (some ⟨w2.heap.size, 0, none⟩) u u) (by omega) ⟨ln, dy, some ⟨w2.heap.size, 0, none⟩, u, some ⟨ba, oa, none⟩, ca, List.replicate u 0, arr⟩ (by rw [HX.out]; simp [CT.cells]) ⟨HD.out, HA.out⟩)
          have HD := Lib.hid (HD.out.kp (HO.out.kset (o := k * 4 + 2) (u := .slice (some ⟨w2.heap.size, 0, none⟩) u u)))
          have HA := Lib.hid (HA.out.kp (HO.out.kset (o := k * 4 + 2) (u := .slice (some ⟨w2.heap.size, 0, none⟩) u u)))
          have HB := Lib.hid (show Below w.heap.size w (World.setCell _ ⟨b, k * 4 + 2, none⟩ (.slice (some ⟨w2.heap.size, 0, none⟩) u u)) from HB.out.setCell hb0 _)
          have HN := Lib.hid (HN.out.kp (HO.out.kset (o := k * 4 + 2) (u := .slice (some ⟨w2.heap.size, 0, none⟩) u u)))
          have HO := HS
          refine wpAnyH_take (i := 11) (v := ?_) rfl (by kernel_rfl) (by kernel_rfl) (by kernel_rfl) (fun _ _ _ h => h) (Or.inl ⟨by rfl, ?_⟩) (by assumption) ?_
          rotate_left
          · (intro w hSw; (try dsimp only at hSw); go_simp; try with_reducible rfl)
          simp only [Act.put, List.setIfInBounds_toArray, List.set_cons_zero, List.set_cons_succ]
          refine wpAnyH_take (i := 12) (v := ?_) rfl (by kernel_rfl) (by kernel_rfl) (by kernel_rfl) (fun _ _ _ h => h) (Or.inl ⟨by rfl, ?_⟩) (by assumption) ?_
          rotate_left
          · (intro w hSw; (try dsimp only at hSw); go_simp; try with_reducible rfl)
          simp only [Act.put, List.setIfInBounds_toArray, List.set_cons_zero, List.set_cons_succ]
          have gg3 := (HO.out.cells (k := k) (by simpa using hkl)).2.2.2.2.2
          have dd3 := (HO.out.cells (k := k) (by simpa using hkl)).2.1.2.2.2
          have hbl8 := (HO.out.cells (k := k) (by simpa using hkl)).1.2
          refine wpAnyH_ready (rs := [13]) (by kernel_rfl) (by simp) ?_
          refine AllReadyH.cons rfl (fun K hK => ?_) AllReadyH.nil
          go_simp
          refine hK.out _ _ hHeld (fun hHeld => ?_)
          clear hK K gg3 dd3 hbl8 hHeld
          refine wpAnyH_done (by kernel_rfl) ?_ _
          have HTL := Lib.hid ((HO.out.st (k := k) (by simpa using hkl) (f := 3) (u := .slice (some ⟨w4.heap.size, 0, none⟩) u u) (by omega) ⟨ln, dy, some ⟨w2.heap.size, 0, none⟩, u, some ⟨w4.heap.size, 0, none⟩, u, List.replicate u 0, List.replicate u 0⟩ (by rw [List.getElem_set_self]; simp [CT.cells]) ⟨HD.out, HN.out⟩).fin (by simp) (show xs.length ≤ 6 by omega))
          have HBZ := Lib.hid (show Below w.heap.size w (World.setCell _ ⟨b, k * 4 + 3, none⟩ (.slice (some ⟨w4.heap.size, 0, none⟩) u u)) from HB.out.setCell hb0 _)
          go_upto_region 18 with fail
          clear HN HI HU
          refine world_gen (fun W => (∃ L, xs.length = List.length L ∧ TL W (some ⟨b, 0, none⟩) (c0) L) ∧ Below w.heap.size w W) ⟨HTL.out, HBZ.out⟩ ?_
          clear HTL HBZ HO HB hp hkl hbl hb0 hq hbase HOK HX HA HD
          rintro W ⟨⟨L, hl, htl⟩, hbz⟩
          rw [hl]
          have HTL := Lib.hid htl
          have HBZ := Lib.hid hbz
          clear hl htl hbz
          go_wp2_with fail
          have HZ : Hid (∃ zz, chkT ((L).map CT.pt) = zz) := ⟨_, rfl⟩
          obtain ⟨zz, hz⟩ := HZ
          have HZ := Lib.hid hz
          clear hz
          have HW : Hid (∃ zz, chkT (rs.map CT.pt) = zz) := ⟨_, rfl⟩
          obtain ⟨zr, hz⟩ := HW
          have HW := Lib.hid hz
          clear hz
          refine (awake_any (W)).mono ?_
          rintro e w5 ⟨rfl, hb5⟩
          have HT5 := Lib.hid (HTL.out.go hb5)
          have HB5 := Lib.hid (HBZ.out.trans (hb5.mono HBZ.out.size))
          clear hb5 HTL HBZ
          go_wp2_with fail
          refine (check_any (some ⟨b, 0, none⟩) (c0) (L) w5 HT5.out).mono ?_
          rintro e w6 ⟨rfl, hb6⟩
          rw [HZ.out]
          have HT6 := Lib.hid (HT5.out.go hb6)
          have HB6 := Lib.hid (HB5.out.trans (hb6.mono HB5.out.size))
          clear hb6 HT5 HB5
          go_wp2_with fail
          refine (rcheck_any (some ⟨b, 0, none⟩) (c0) (L) w6 HT6.out).mono ?_
          rintro e w7 ⟨rfl, hb7⟩
          rw [HZ.out]
          have HB7 := Lib.hid (HB6.out.trans (hb7.mono HB6.out.size))
          clear hb7 HT6 HB6
          go_wp2_with fail
          refine (check_any RA rc rs w7 (HR.out.go HB7.out)).mono ?_
          rintro e w8 ⟨rfl, hb8⟩
          rw [HW.out]
          have HB8 := Lib.hid (HB7.out.trans (hb8.mono HB7.out.size))
          clear hb8 HB7
          go_wp2_with fail
          refine (rcheck_any RA rc rs w8 (HR.out.go HB8.out)).mono ?_
          rintro e w9 ⟨rfl, hb9⟩
          rw [HW.out]
          have HB9 := Lib.hid (HB8.out.trans (hb9.mono HB8.out.size))
          clear hb9 HB8
          go_wp2_with fail
          go_ret
          exact ⟨rfl, HB9.out⟩
        · have gg2 := (HO.out.cells hkl).2.2.2.2.1
          have dd2 := (HO.out.cells hkl).2.1.2.2.1
          have hbl8 := (HO.out.cells hkl).1.2
          go_simp
          refine hK.out _ _ hHeld (fun hHeld => ?_)
          clear hK K gg2 dd2 hbl8
          have HS := Lib.hid (HO.out.st hkl (f := 2) (u := .slice (some ⟨w2.heap.size, 0, none⟩) u u) (by omega) ⟨ln, dy, some ⟨w2.heap.size, 0, none⟩, u, some ⟨ba, oa, none⟩, ca, List.replicate u 0, arr⟩ (by rw [HX.out]; simp [CT.cells]) ⟨HD.out, HA.out⟩)
          have HD := Lib.hid (HD.out.kp (HO.out.kset (o := k * 4 + 2) (u := .slice (some ⟨w2.heap.size, 0, none⟩) u u)))
          have HA := Lib.hid (HA.out.kp (HO.out.kset (o := k * 4 + 2) (u := .slice (some ⟨w2.heap.size, 0, none⟩) u u)))
          have HB := Lib.hid (show Below w.heap.size w (World.setCell _ ⟨b, k * 4 + 2, none⟩ (.slice (some ⟨w2.heap.size, 0, none⟩) u u)) from HB.out.setCell hb0 _)
          have HO := HS
          refine wpAnyH_ready (rs := [7]) (by kernel_rfl) (by simp) ?_
          refine AllReadyH.cons rfl (fun K hK => ?_) AllReadyH.nil
          refine step_make_full (by rfl) _ _ _ (by rfl) w.heap.size 3 i0 _ 1 Try.underlying23 HI.out.1 HI.out.2.1 HI.out.2.2.1 .i64 .i64 u (by rfl) (by rfl) (by rw [HI.out.2.2.2]; omega) (by simp only [maxLen]; omega) HB.out.size ?_
          intro w7 hown hg
          have hb := bel_grow hg
          have HN := Lib.hid (IRd.mk0 (B := w.heap.size) hown (by omega))
          have HO := Lib.hid (HO.out.bel hb)
          have HA := Lib.hid (HA.out.kp (Kp.bel hb))
          have HB := Lib.hid (HB.out.trans (hb.mono HB.out.size))
          refine hK.out _ _ hHeld (fun hHeld => ?_)
          clear hK K hown hg
          try simp only [Act.put, List.setIfInBounds_toArray, List.set_cons_zero, List.set_cons_succ]
          have HD := Lib.hid (HD.out.kp (Kp.bel hb))
          have HN := Lib.hid (show IRd w7 w.heap.size (some ⟨w4.heap.size, 0, none⟩) u (List.replicate u 0) from by have h := HN.out; have e : ∀ (W : World) p v, (W.setCell p v).heap.size = W.heap.size := fun W p v => (by simp); rwa [e] at h)
          refine wpAnyH_take (i := 11) (v := ?_) rfl (by kernel_rfl) (by kernel_rfl) (by kernel_rfl) (fun _ _ _ h => h) (Or.inl ⟨by rfl, ?_⟩) (by assumption) ?_
          rotate_left
          · (intro w hSw; (try dsimp only at hSw); go_simp; try with_reducible rfl)
          simp only [Act.put, List.setIfInBounds_toArray, List.set_cons_zero, List.set_cons_succ]
          refine wpAnyH_take (i := 12) (v := ?_) rfl (by kernel_rfl) (by kernel_rfl) (by kernel_rfl) (fun _ _ _ h => h) (Or.inl ⟨by rfl, ?_⟩) (by assumption) ?_
          rotate_left
          · (intro w hSw; (try dsimp only at hSw); go_simp; try with_reducible rfl)
          simp only [Act.put, List.setIfInBounds_toArray, List.set_cons_zero, List.set_cons_succ]
          have gg3 := (HO.out.cells (k := k) (by simpa using hkl)).2.2.2.2.2
          have dd3 := (HO.out.cells (k := k) (by simpa using hkl)).2.1.2.2.2
          have hbl8 := (HO.out.cells (k := k) (by simpa using hkl)).1.2
          refine wpAnyH_ready (rs := [13]) (by kernel_rfl) (by simp) ?_
          refine AllReadyH.cons rfl (fun K hK => ?_) AllReadyH.nil
          go_simp
          refine hK.out _ _ hHeld (fun hHeld => ?_)
          clear hK K gg3 dd3 hbl8 hHeld
          refine wpAnyH_done (by kernel_rfl) ?_ _
          have HTL := Lib.hid ((HO.out.st (k := k) (by simpa using hkl) (f := 3) (u := .slice (some ⟨w4.heap.size, 0, none⟩) u u) (by omega) ⟨ln, dy, some ⟨w2.heap.size, 0, none⟩, u, some ⟨w4.heap.size, 0, none⟩, u, List.replicate u 0, List.replicate u 0⟩ (by rw [List.getElem_set_self]; simp [CT.cells]) ⟨HD.out, HN.out⟩).fin (by simp) (show xs.length ≤ 6 by omega))
          have HBZ := Lib.hid (show Below w.heap.size w (World.setCell _ ⟨b, k * 4 + 3, none⟩ (.slice (some ⟨w4.heap.size, 0, none⟩) u u)) from HB.out.setCell hb0 _)
          go_upto_region 18 with fail
          clear HN HI HU
          refine world_gen (fun W => (∃ L, xs.length = List.length L ∧ TL W (some ⟨b, 0, none⟩) (c0) L) ∧ Below w.heap.size w W) ⟨HTL.out, HBZ.out⟩ ?_
          clear HTL HBZ HO HB hp hkl hbl hb0 hq hbase HOK HX HA HD
          rintro W ⟨⟨L, hl, htl⟩, hbz⟩
          rw [hl]
          have HTL := Lib.hid htl
          have HBZ := Lib.hid hbz
          clear hl htl hbz
          go_wp2_with fail
          have HZ : Hid (∃ zz, chkT ((L).map CT.pt) = zz) := ⟨_, rfl⟩
          obtain ⟨zz, hz⟩ := HZ
          have HZ := Lib.hid hz
          clear hz
          have HW : Hid (∃ zz, chkT (rs.map CT.pt) = zz) := ⟨_, rfl⟩
          obtain ⟨zr, hz⟩ := HW
          have HW := Lib.hid hz
          clear hz
          refine (awake_any (W)).mono ?_
          rintro e w5 ⟨rfl, hb5⟩
          have HT5 := Lib.hid (HTL.out.go hb5)
          have HB5 := Lib.hid (HBZ.out.trans (hb5.mono HBZ.out.size))
          clear hb5 HTL HBZ
          go_wp2_with fail
          refine (check_any (some ⟨b, 0, none⟩) (c0) (L) w5 HT5.out).mono ?_
          rintro e w6 ⟨rfl, hb6⟩
          rw [HZ.out]
          have HT6 := Lib.hid (HT5.out.go hb6)
          have HB6 := Lib.hid (HB5.out.trans (hb6.mono HB5.out.size))
          clear hb6 HT5 HB5
          go_wp2_with fail
          refine (rcheck_any (some ⟨b, 0, none⟩) (c0) (L) w6 HT6.out).mono ?_
          rintro e w7 ⟨rfl, hb7⟩
          rw [HZ.out]
          have HB7 := Lib.hid (HB6.out.trans (hb7.mono HB6.out.size))
          clear hb7 HT6 HB6
          go_wp2_with fail
          refine (check_any RA rc rs w7 (HR.out.go HB7.out)).mono ?_
          rintro e w8 ⟨rfl, hb8⟩
          rw [HW.out]
          have HB8 := Lib.hid (HB7.out.trans (hb8.mono HB7.out.size))
          clear hb8 HB7
          go_wp2_with fail
          refine (rcheck_any RA rc rs w8 (HR.out.go HB8.out)).mono ?_
          rintro e w9 ⟨rfl, hb9⟩
          rw [HW.out]
          have HB9 := Lib.hid (HB8.out.trans (hb9.mono HB8.out.size))
          clear hb9 HB8
          go_wp2_with fail
          go_ret
          exact ⟨rfl, HB9.out⟩
      · refine step_make_full (by rfl) _ _ _ (by rfl) w.heap.size 3 i0 _ 1 Try.underlying23 HI.out.1 HI.out.2.1 HI.out.2.2.1 .i64 .i64 u (by rfl) (by rfl) (by rw [HI.out.2.2.2]; omega) (by simp only [maxLen]; omega) HB.out.size ?_
        intro w7 hown hg
        have hb := bel_grow hg
        have HN := Lib.hid (IRd.mk0 (B := w.heap.size) hown (by omega))
        have HO := Lib.hid (HO.out.bel hb)
        have HA := Lib.hid (HA.out.kp (Kp.bel hb))
        have HB := Lib.hid (HB.out.trans (hb.mono HB.out.size))
        refine hK.out _ _ hHeld (fun hHeld => ?_)
        clear hK K hown hg
        try simp only [Act.put, List.setIfInBounds_toArray, List.set_cons_zero, List.set_cons_succ]
        refine wpAnyH_ready (rs := [4]) (by kernel_rfl) (by simp) ?_
        refine AllReadyH.cons rfl (fun K hK => ?_) AllReadyH.nil
        refine step_make_full (by rfl) _ _ _ (by rfl) w.heap.size 3 i0 _ 1 Try.underlying23 HI.out.1 HI.out.2.1 HI.out.2.2.1 .i64 .i64 u (by rfl) (by rfl) (by rw [HI.out.2.2.2]; omega) (by simp only [maxLen]; omega) HB.out.size ?_
        intro w4 hown hg
        have hb := bel_grow hg
        have HD := Lib.hid (IRd.mk0 (B := w.heap.size) hown (by omega))
        have HO := Lib.hid (HO.out.bel hb)
        have HA := Lib.hid (HA.out.kp (Kp.bel hb))
        have HB := Lib.hid (HB.out.trans (hb.mono HB.out.size))
        refine hK.out _ _ hHeld (fun hHeld => ?_)
        clear hK K hown hg
        try simp only [Act.put, List.setIfInBounds_toArray, List.set_cons_zero, List.set_cons_succ]
        have HN := Lib.hid (HN.out.kp (Kp.bel hb))
        refine wpAnyH_take (i := 8) (v := ?_) rfl (by kernel_rfl) (by kernel_rfl) (by kernel_rfl) (fun _ _ _ h => h) (Or.inl ⟨by rfl, ?_⟩) (by assumption) ?_
        rotate_left
        · (intro w hSw; (try dsimp only at hSw); go_simp; try with_reducible rfl)
        simp only [Act.put, List.setIfInBounds_toArray, List.set_cons_zero, List.set_cons_succ]
        refine wpAnyH_take (i := 9) (v := ?_) rfl (by kernel_rfl) (by kernel_rfl) (by kernel_rfl) (fun _ _ _ h => h) (Or.inl ⟨by rfl, ?_⟩) (by assumption) ?_
        rotate_left
        · (intro w hSw; (try dsimp only at hSw); go_simp; try with_reducible rfl)
        simp only [Act.put, List.setIfInBounds_toArray, List.set_cons_zero, List.set_cons_succ]
        refine wpAnyH_ready (rs := [10]) (by kernel_rfl) (by simp) ?_
        refine AllReadyH.cons rfl (fun K hK => ?_) AllReadyH.nil
        have gg2 := (HO.out.cells hkl).2.2.2.2.1
        have dd2 := (HO.out.cells hkl).2.1.2.2.1
        have hbl8 := (HO.out.cells hkl).1.2
        go_simp
        refine hK.out _ _ hHeld (fun hHeld => ?_)
        clear hK K gg2 dd2 hbl8
        have HS := Lib.hid (HO.out.st hkl (f := 2) (u := .slice (some ⟨w7.heap.size, 0, none⟩) u u) (by omega) ⟨ln, dy, some ⟨w7.heap.size, 0, none⟩, u, some ⟨ba, oa, none⟩, ca, List.replicate u 0, arr⟩ (by rw [HX.out]; simp [CT.cells]) ⟨HD.out, HA.out⟩)
        have HD := Lib.hid (HD.out.kp (HO.out.kset (o := k * 4 + 2) (u := .slice (some ⟨w7.heap.size, 0, none⟩) u u)))
        have HA := Lib.hid (HA.out.kp (HO.out.kset (o := k * 4 + 2) (u := .slice (some ⟨w7.heap.size, 0, none⟩) u u)))
        have HB := Lib.hid (show Below w.heap.size w (World.setCell _ ⟨b, k * 4 + 2, none⟩ (.slice (some ⟨w7.heap.size, 0, none⟩) u u)) from HB.out.setCell hb0 _)
        have HN := Lib.hid (HN.out.kp (HO.out.kset (o := k * 4 + 2) (u := .slice (some ⟨w7.heap.size, 0, none⟩) u u)))
        have HO := HS
        refine wpAnyH_take (i := 11) (v := ?_) rfl (by kernel_rfl) (by kernel_rfl) (by kernel_rfl) (fun _ _ _ h => h) (Or.inl ⟨by rfl, ?_⟩) (by assumption) ?_
        rotate_left
        · (intro w hSw; (try dsimp only at hSw); go_simp; try with_reducible rfl)
        simp only [Act.put, List.setIfInBounds_toArray, List.set_cons_zero, List.set_cons_succ]
        refine wpAnyH_take (i := 12) (v := ?_) rfl (by kernel_rfl) (by kernel_rfl) (by kernel_rfl) (fun _ _ _ h => h) (Or.inl ⟨by rfl, ?_⟩) (by assumption) ?_
        rotate_left
        · (intro w hSw; (try dsimp only at hSw); go_simp; try with_reducible rfl)
        simp only [Act.put, List.setIfInBounds_toArray, List.set_cons_zero, List.set_cons_succ]
        have gg3 := (HO.out.cells (k := k) (by simpa using hkl)).2.2.2.2.2
        have dd3 := (HO.out.cells (k := k) (by simpa using hkl)).2.1.2.2.2
        have hbl8 := (HO.out.cells (k := k) (by simpa using hkl)).1.2
        refine wpAnyH_ready (rs := [13]) (by kernel_rfl) (by simp) ?_
        refine AllReadyH.cons rfl (fun K hK => ?_) AllReadyH.nil
        go_simp
        refine hK.out _ _ hHeld (fun hHeld => ?_)
        clear hK K gg3 dd3 hbl8 hHeld
        refine wpAnyH_done (by kernel_rfl) ?_ _
        have HTL := Lib.hid ((HO.out.st (k := k) (by simpa using hkl) (f := 3) (u := .slice (some ⟨w2.heap.size, 0, none⟩) u u) (by omega) ⟨ln, dy, some ⟨w7.heap.size, 0, none⟩, u, some ⟨w2.heap.size, 0, none⟩, u, List.replicate u 0, List.replicate u 0⟩ (by rw [List.getElem_set_self]; simp [CT.cells]) ⟨HD.out, HN.out⟩).fin (by simp) (show xs.length ≤ 6 by omega))
        have HBZ := Lib.hid (show Below w.heap.size w (World.setCell _ ⟨b, k * 4 + 3, none⟩ (.slice (some ⟨w2.heap.size, 0, none⟩) u u)) from HB.out.setCell hb0 _)
        go_upto_region 18 with fail
        clear HN HI HU
        refine world_gen (fun W => (∃ L, xs.length = List.length L ∧ TL W (some ⟨b, 0, none⟩) (c0) L) ∧ Below w.heap.size w W) ⟨HTL.out, HBZ.out⟩ ?_
        clear HTL HBZ HO HB hp hkl hbl hb0 hq hbase HOK HX HA HD
        rintro W ⟨⟨L, hl, htl⟩, hbz⟩
        rw [hl]
        have HTL := Lib.hid htl
        have HBZ := Lib.hid hbz
        clear hl htl hbz
        go_wp2_with fail
        have HZ : Hid (∃ zz, chkT ((L).map CT.pt) = zz) := ⟨_, rfl⟩
        obtain ⟨zz, hz⟩ := HZ
        have HZ := Lib.hid hz
        clear hz
        have HW : Hid (∃ zz, chkT (rs.map CT.pt) = zz) := ⟨_, rfl⟩
        obtain ⟨zr, hz⟩ := HW
        have HW := Lib.hid hz
        clear hz
        refine (awake_any (W)).mono ?_
        rintro e w5 ⟨rfl, hb5⟩
        have HT5 := Lib.hid (HTL.out.go hb5)
        have HB5 := Lib.hid (HBZ.out.trans (hb5.mono HBZ.out.size))
        clear hb5 HTL HBZ
        go_wp2_with fail
        refine (check_any (some ⟨b, 0, none⟩) (c0) (L) w5 HT5.out).mono ?_
        rintro e w6 ⟨rfl, hb6⟩
        rw [HZ.out]
        have HT6 := Lib.hid (HT5.out.go hb6)
        have HB6 := Lib.hid (HB5.out.trans (hb6.mono HB5.out.size))
        clear hb6 HT5 HB5
        go_wp2_with fail
        refine (rcheck_any (some ⟨b, 0, none⟩) (c0) (L) w6 HT6.out).mono ?_
        rintro e w7 ⟨rfl, hb7⟩
        rw [HZ.out]
        have HB7 := Lib.hid (HB6.out.trans (hb7.mono HB6.out.size))
        clear hb7 HT6 HB6
        go_wp2_with fail
        refine (check_any RA rc rs w7 (HR.out.go HB7.out)).mono ?_
        rintro e w8 ⟨rfl, hb8⟩
        rw [HW.out]
        have HB8 := Lib.hid (HB7.out.trans (hb8.mono HB7.out.size))
        clear hb8 HB7
        go_wp2_with fail
        refine (rcheck_any RA rc rs w8 (HR.out.go HB8.out)).mono ?_
        rintro e w9 ⟨rfl, hb9⟩
        rw [HW.out]
        have HB9 := Lib.hid (HB8.out.trans (hb9.mono HB8.out.size))
        clear hb9 HB8
        go_wp2_with fail
        go_ret
        exact ⟨rfl, HB9.out⟩
  · obtain ⟨iT, b1, b2, b3, b4⟩ := info_parts infoTr
    have HIT := Lib.hid (And.intro b1 (And.intro b2 (And.intro b3 b4)))
    clear b1 b2 b3 b4
    have HXM := Lib.hid (show TM w2 w.heap.size ⟨ln, dy, some ⟨bd, od, none⟩, cd, some ⟨ba, oa, none⟩, ca, dep, arr⟩ from ⟨HD.out, HA.out⟩)
    go_upto_region 18 with (at_builtin; refine wpList_append_own_at _ rfl _ _ 22 rfl ((w.heap.size)) 28 iT _ 4 64 Try.underlying22 HIT.out.1 HIT.out.2.1 HIT.out.2.2.1 HIT.out.2.2.2 rfl (by omega) _ (xs.length) _ rfl (World.ownsRow.alloc HO.out.o _) ⟨(w2).heap.size, 0, none⟩ 1 1 (CT.cells ⟨ln, dy, some ⟨bd, od, none⟩, cd, some ⟨ba, oa, none⟩, ca, dep, arr⟩) rfl rfl ?c0 ?c1 ?c2 ?c3 ?c4 ?_; rotate_right; intro v' w' hown' hg' _ hat')
    case c0 => first | exact news_new _ _ (CT.cells ⟨ln, dy, some ⟨bd, od, none⟩, cd, some ⟨ba, oa, none⟩, ca, dep, arr⟩) | exact fun _ _ h => h
    case c1 => exact CT.one _
    case c2 => simp only [maxLen]; omega
    case c3 => omega
    case c4 => first | omega | (simp; omega)
    have HAL := Lib.hid (show Below w2.heap.size w2 (w2.alloc (.cells (CT.cells ⟨ln, dy, some ⟨bd, od, none⟩, cd, some ⟨ba, oa, none⟩, ca, dep, arr⟩).toArray 28)) from (by repeat (first | exact Below.refl _ _ | (with_reducible refine Below.drew ?_) | (with_reducible refine below_drewN ?_ _) | (with_reducible refine Below.alloc ?_ (by first | omega | (simp; done) | (simp; omega)) _) | (with_reducible refine Below.setCell ?_ (by first | omega | (simp; done) | (simp; omega)) _) | (refine Below.trans ?_ (Below.mono (by with_reducible assumption) (by first | omega | (simp; done) | (simp; omega)))))))
    have HT5 := Lib.hid ((HO.out.bel HAL.out).app (HXM.out.kp (Kp.bel HAL.out)) hown' hg')
    obtain ⟨A9, c9, rfl, _, _⟩ := own_slice hown'
    have HBZ := Lib.hid ((HB.out.trans (HAL.out.mono hbase)).grown hg' (Nat.le_trans hbase HAL.out.size) (fun k hk => (own_block HO.out.o k hk).1))
    have HTL := Lib.hid ((show TO w' w.heap.size (.slice A9 (xs ++ [(⟨ln, dy, some ⟨bd, od, none⟩, cd, some ⟨ba, oa, none⟩, ca, dep, arr⟩ : CT)]).length c9) _ from by rw [List.length_append]; exact HT5.out).fin (by simp) (show xs.length + 1 ≤ 6 by omega))
    clear hown' hg' HAL HXM HT5 HIT
    clear d0 d1 d2 d3 g0 g1 g2 g3
    refine world_gen (fun W => (∃ L, xs.length + 1 = List.length L ∧ TL W (A9) (c9) L) ∧ Below w.heap.size w W) ⟨HTL.out, HBZ.out⟩ ?_
    clear HTL HBZ HO HB hp hkl hbl hb0 hq hbase HOK HX HA HD
    rintro W ⟨⟨L, hl, htl⟩, hbz⟩
    rw [hl]
    have HTL := Lib.hid htl
    have HBZ := Lib.hid hbz
    clear hl htl hbz
    go_wp2_with fail
    have HZ : Hid (∃ zz, chkT ((L).map CT.pt) = zz) := ⟨_, rfl⟩
    obtain ⟨zz, hz⟩ := HZ
    have HZ := Lib.hid hz
    clear hz
    have HW : Hid (∃ zz, chkT (rs.map CT.pt) = zz) := ⟨_, rfl⟩
    obtain ⟨zr, hz⟩ := HW
    have HW := Lib.hid hz
    clear hz
    refine (awake_any (W)).mono ?_
    rintro e w5 ⟨rfl, hb5⟩
    have HT5 := Lib.hid (HTL.out.go hb5)
    have HB5 := Lib.hid (HBZ.out.trans (hb5.mono HBZ.out.size))
    clear hb5 HTL HBZ
    go_wp2_with fail
    refine (check_any (A9) (c9) (L) w5 HT5.out).mono ?_
    rintro e w6 ⟨rfl, hb6⟩
    rw [HZ.out]
    have HT6 := Lib.hid (HT5.out.go hb6)
    have HB6 := Lib.hid (HB5.out.trans (hb6.mono HB5.out.size))
    clear hb6 HT5 HB5
    go_wp2_with fail
    refine (rcheck_any (A9) (c9) (L) w6 HT6.out).mono ?_
    rintro e w7 ⟨rfl, hb7⟩
    rw [HZ.out]
    have HB7 := Lib.hid (HB6.out.trans (hb7.mono HB6.out.size))
    clear hb7 HT6 HB6
    go_wp2_with fail
    refine (check_any RA rc rs w7 (HR.out.go HB7.out)).mono ?_
    rintro e w8 ⟨rfl, hb8⟩
    rw [HW.out]
    have HB8 := Lib.hid (HB7.out.trans (hb8.mono HB7.out.size))
    clear hb8 HB7
    go_wp2_with fail
    refine (rcheck_any RA rc rs w8 (HR.out.go HB8.out)).mono ?_
    rintro e w9 ⟨rfl, hb9⟩
    rw [HW.out]
    have HB9 := Lib.hid (HB8.out.trans (hb9.mono HB8.out.size))
    clear hb9 HB8
    go_wp2_with fail
    go_ret
    exact ⟨rfl, HB9.out⟩
end Go.Proofs.Ythfifejjfnmpoaa
