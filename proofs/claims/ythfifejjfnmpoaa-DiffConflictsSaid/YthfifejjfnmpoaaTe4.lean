import Derived.Test.YthfifejjfnmpoaaTe3
import Derived.Test.YthfifejjfnmpoaaTe2
import Derived.Test.YthfifejjfnmpoaaTp8
namespace Go.Proofs.Ythfifejjfnmpoaa
open Go.RowKit
theorem conf_facts {l a b : List PT} (hl : chkT l = true) (ha : chkT a = true) (hb : chkT b = true) (h1 : l.length ≤ 5) (h2 : a.length ≤ 8) (h3 : b.length ≤ 8) :
    (mgV l a b).1 = 0 ∧ (∀ x ∈ (mgV l a b).2.1, okT x = true) ∧ chkG okE keyE (mgV l a b).2.2 = true ∧ ∀ d ∈ (mgV l a b).2.2, findT (mgV l a b).2.1 (keyE d) = findT a (keyE d) ∧ (∀ x, findT a (keyE d) = some x → findT b (keyE d) ≠ some x) ∧ ¬ (findT a (keyE d) = none ∧ findT b (keyE d) = none) := by
  obtain ⟨R, e1, _, r2, _, r4, r5⟩ := mgV_good hl ha hb h1 h2 h3
  rw [e1]
  obtain ⟨_, _, al⟩ := chkT_iff.1 hl
  obtain ⟨_, _, aa⟩ := chkT_iff.1 ha
  obtain ⟨_, _, ab⟩ := chkT_iff.1 hb
  obtain ⟨m1, _, _⟩ := mg_spec (diffM l a) (diffM l b) (asc_diffM l a al aa) (asc_diffM l b al ab)
  refine ⟨rfl, r4, ?_, fun d hd => conf_spec hl ha hb r2 r5 hd⟩
  obtain ⟨k1, k2⟩ := chkG_iff.1 (chkE_diff hl hb)
  simp only
  rw [m1]
  exact chkG_iff.2 ⟨fun e he => k1 e (List.mem_filter.1 he).1, List.pairwise_map.2 ((List.pairwise_map.1 k2).filter _)⟩
def CfL (w : World) (n k : Nat) (v : Value) (wr : World) : Prop :=
  ∃ j : Nat, v = .int .i64 j ∧ j + k = n ∧ Below w.heap.size w wr
set_option maxRecDepth 100000 in
set_option maxHeartbeats 12800000 in
theorem dconf_true (A0 : Option Addr) (n0 c0 : Nat) (z0 : List Int) (A8 : Option Addr) (n8 c8 : Nat) (z8 : List Int) (A9 : Option Addr) (n9 c9 : Nat) (z9 : List Int) (w : World) (h0 : Rd w w.heap.size 1 A0 n0 (z0.map (Value.int .i64))) (m0 : n0 ≤ c0 ∧ c0 ≤ maxLen ∧ c0 * 8 ≤ 140737488351232) (h8 : Rd w w.heap.size 1 A8 n8 (z8.map (Value.int .i64))) (m8 : n8 ≤ c8 ∧ c8 ≤ maxLen ∧ c8 * 8 ≤ 140737488351232) (h9 : Rd w w.heap.size 1 A9 n9 (z9.map (Value.int .i64))) (m9 : n9 ≤ c9 ∧ c9 ≤ maxLen ∧ c9 * 8 ≤ 140737488351232) :
    Calls Try.prog 11 #[.slice A0 n0 c0, .slice A8 n8 c8, .slice A9 n9 c9] w fun e w' => e = .returned (.bool true) ∧ Below w.heap.size w w' := by
  have H0 := Lib.hid h0
  have Hm0 := Lib.hid (show n0 ≤ maxLen by omega)
  have H8 := Lib.hid h8
  have Hm8 := Lib.hid (show n8 ≤ maxLen by omega)
  have H9 := Lib.hid h9
  have Hm9 := Lib.hid (show n9 ≤ maxLen by omega)
  clear h0 m0 h8 m8 h9 m9
  go_enter Try.func11, Try.ntmps11
  go_wp2_with fail
  refine (trips_any A0 n0 c0 z0 w H0.out Hm0.out).mono ?_
  rintro e w1 ⟨A1, c1, xs, rfl, ho1, hl1, hg1, hb1⟩
  have HG1 := Lib.hid hg1
  have HX := Lib.hid (ho1.tl (by omega))
  have HB1 := Lib.hid hb1
  have HXO := Lib.hid (own_at0 ho1.o)
  have HCX := Lib.hid (hg1.chk (by omega))
  clear ho1 hg1 hb1
  go_wp2_with fail
  refine (other_any A1 A8 c1 n8 c8 xs z8 w1 HX.out HG1.out.asc (fun t ht => by have := HG1.out.ok t ht; exact ⟨this.1, this.2.2.1, this.2.2.2⟩) hl1 (H8.out.grow HB1.out |>.more HB1.out.size) Hm8.out).mono ?_
  rintro e w2 ⟨A2, c2, ys, rfl, ho2, hl2, hc2, hb2⟩
  have HY := Lib.hid (ho2.tl (by omega))
  have HYO := Lib.hid (own_at0 ho2.o)
  have HX2 := Lib.hid (HX.out.go hb2)
  have HB2 := Lib.hid (HB1.out.trans (hb2.mono HB1.out.size))
  have HCY := Lib.hid hc2
  clear ho2 hb2 hc2 HX HB1
  go_wp2_with fail
  refine (other_any A1 A9 c1 n9 c9 xs z9 w2 HX2.out HG1.out.asc (fun t ht => by have := HG1.out.ok t ht; exact ⟨this.1, this.2.2.1, this.2.2.2⟩) hl1 (H9.out.grow HB2.out |>.more HB2.out.size) Hm9.out).mono ?_
  rintro e w3 ⟨A3, c3, vs, rfl, ho3, hl3, hc3, hb3⟩
  have HV := Lib.hid (ho3.tl (by omega))
  have HX3 := Lib.hid (HX2.out.go hb3)
  have HY3 := Lib.hid (HY.out.go hb3)
  have HB3 := Lib.hid (HB2.out.trans (hb3.mono HB2.out.size))
  have HCV := Lib.hid hc3
  clear ho3 hb3 hc3 HX2 HY HB2
  go_wp2_with fail
  have HCF := Lib.hid (conf_facts HCX.out HCY.out HCV.out (by simpa using hl1) (by simpa using hl2) (by simpa using hl3))
  refine (merge_any A1 A2 A3 c1 c2 c3 xs ys vs w3 HX3.out HY3.out HV.out HXO.out).mono ?_
  rintro e w4 ⟨B4, C4, d4, f4, t4, s4, rfl, ht4, he4, hv4, hw4, hb4⟩
  rw [HCF.out.1]
  have HCE := Lib.hid (show chkG okE keyE (s4.map CE.pe) = true by rw [hw4]; exact HCF.out.2.2.1)
  have HKT := Lib.hid (show ∀ t ∈ t4, 1 ≤ t.dep.length from fun t ht => by
    have := HCF.out.2.1 t.pt (by rw [← hv4]; exact List.mem_map.2 ⟨t, ht, rfl⟩)
    exact (okT_iff.1 this).2.2.2.1)
  have HCD : Hid (∀ d ∈ s4, findT (t4.map CT.pt) (keyE d.pe) = findT (ys.map CT.pt) (keyE d.pe) ∧ (∀ x, findT (ys.map CT.pt) (keyE d.pe) = some x → findT (vs.map CT.pt) (keyE d.pe) ≠ some x) ∧ ¬ (findT (ys.map CT.pt) (keyE d.pe) = none ∧ findT (vs.map CT.pt) (keyE d.pe) = none) ∧ 1 ≤ (keyC d).dep.length) := fun d hd => by
    have hd2 : d.pe ∈ s4.map CE.pe := List.mem_map.2 ⟨d, hd, rfl⟩
    have hk := okE_key ((chkG_iff.1 HCE.out).1 d.pe hd2)
    rw [← keyC_pt] at hk
    rw [hw4] at hd2
    rw [hv4]
    obtain ⟨g1, g2, g3⟩ := HCF.out.2.2.2 d.pe hd2
    exact ⟨g1, g2, g3, hk⟩
  have HKY := Lib.hid (chkT_len HCY.out).2.1
  have HKV := Lib.hid (chkT_len HCV.out).2.1
  have HT4 := Lib.hid ht4.l
  have HE4 := Lib.hid he4
  have hs4 := he4.sz
  have HX4 := Lib.hid (HX3.out.go hb4)
  have HY4 := Lib.hid (HY3.out.go hb4)
  have HZ4 := Lib.hid (HV.out.go hb4)
  have HB4 := Lib.hid (HB3.out.trans (hb4.mono HB3.out.size))
  clear ht4 he4 hv4 hw4 hb4 HX3 HY3 HV HB3 HCF HX4
  go_wp2_with fail
  refine (ckE_any C4 f4 s4 w4 HE4.out).mono ?_
  rintro e w5 ⟨rfl, hb5⟩
  rw [HCE.out]
  have HT5 := Lib.hid (HT4.out.go hb5)
  have HE5 := Lib.hid (HE4.out.go hb5)
  have HY5 := Lib.hid (HY4.out.go hb5)
  have HZ5 := Lib.hid (HZ4.out.go hb5)
  have HB5 := Lib.hid (HB4.out.trans (hb5.mono HB4.out.size))
  clear hb5 HT4 HE4 HY4 HZ4 HB4 HCE
  go_wp2_with fail
  go_loopg [14, 15, 16, 17, 18, 44] s4.length (fun k _ _ _ _ _ v wr => CfL w5 s4.length k v wr)
  case atStart => exact ⟨0, rfl, by omega, Below.refl _ _⟩
  case round =>
    obtain ⟨j, rfl, hj, hb⟩ := hrel
    have Hj := Lib.hid hj
    have HB := Lib.hid hb
    clear hj hb
    by_cases hlt : j < s4.length
    · obtain ⟨bb, off, rfl, hbb, d0, d1, d2, d3, d4', d5, d6, d7, d8⟩ := rdE (HE5.out.r.grow HB.out) rfl j hlt
      have HTM := Lib.hid ((HE5.out.m _ (List.getElem_mem hlt)).go HB.out)
      have HD := Lib.hid (HCD.out _ (List.getElem_mem hlt))
      generalize s4[j] = t at *
      go_upto_region 9 with fail
      refine world_gen (fun w6 => Blk w6 wr.heap.size 40 #[.int .i64 (t).k, .int .i64 (t).o.ln, .int .i64 (t).o.dy, .slice (t).o.Ad (t).o.dep.length (t).o.cd, .slice (t).o.Aa (t).o.arr.length (t).o.ca, .int .i64 (t).n.ln, .int .i64 (t).n.dy, .slice (t).n.Ad (t).n.dep.length (t).n.cd, .slice (t).n.Aa (t).n.arr.length (t).n.ca] ∧ w6.heap.size = wr.heap.size + 1 ∧ Below wr.heap.size wr w6) ⟨Blk.new wr _ _, by simp, (by repeat (first | exact Below.refl _ _ | (with_reducible refine Below.drew ?_) | (with_reducible refine below_drewN ?_ _) | (with_reducible refine Below.alloc ?_ (by first | omega | (simp; done) | (simp; omega)) _) | (with_reducible refine Below.setCell ?_ (by first | omega | (simp; done) | (simp; omega)) _) | (refine Below.trans ?_ (Below.mono (by with_reducible assumption) (by first | omega | (simp; done) | (simp; omega))))))⟩ ?_
      rintro w6 ⟨hx6, hs6, hb6⟩
      have HX6 := Lib.hid hx6
      have HS6 := Lib.hid hs6
      have HB6 := Lib.hid (HB.out.trans (hb6.mono HB.out.size))
      have HTM6 := Lib.hid (HTM.out.go hb6)
      clear d0 d1 d2 d3 d4' d5 d6 d7 d8 hx6 hs6 hb6 HTM
      have x0 := HX6.out.cell 0
      have x1 := HX6.out.cell 1
      have x2 := HX6.out.cell 2
      have x3 := HX6.out.cell 3
      have x4 := HX6.out.cell 4
      have x5 := HX6.out.cell 5
      have x6 := HX6.out.cell 6
      have x7 := HX6.out.cell 7
      have x8 := HX6.out.cell 8
      simp at x0 x1 x2 x3 x4 x5 x6 x7 x8
      have hxl := HX6.out.lt
      by_cases hk1 : t.k = 1
      · have hk1' : (t.k == 1) = true := by simpa using hk1
        have hkc : keyC t = t.n := by unfold keyC; rw [if_pos hk1]
        rw [← keyC_pt, hkc] at HD
        have HUM := Lib.hid HTM6.out.n
        clear hk1 hkc HTM6
        go_upto_region 10 with fail
        refine world_gen (fun w7 => Blk w7 w6.heap.size 28 #[.int .i64 (t.o).ln, .int .i64 (t.o).dy, .slice (t.o).Ad (t.o).dep.length (t.o).cd, .slice (t.o).Aa (t.o).arr.length (t.o).ca] ∧ Below w6.heap.size w6 w7) ⟨Blk.new w6 _ _, (by repeat (first | exact Below.refl _ _ | (with_reducible refine Below.drew ?_) | (with_reducible refine below_drewN ?_ _) | (with_reducible refine Below.alloc ?_ (by first | omega | (simp; done) | (simp; omega)) _) | (with_reducible refine Below.setCell ?_ (by first | omega | (simp; done) | (simp; omega)) _) | (refine Below.trans ?_ (Below.mono (by with_reducible assumption) (by first | omega | (simp; done) | (simp; omega))))))⟩ ?_
        rintro w7 ⟨hy7, hb7⟩
        have HY7 := Lib.hid hy7
        have HB7 := Lib.hid hb7
        clear x0 x1 x2 x3 x4 x5 x6 x7 x8 hxl
        have HX7 := Lib.hid (HX6.out.bel hb7)
        have x0 := HX7.out.cell 0
        have x1 := HX7.out.cell 1
        have x2 := HX7.out.cell 2
        have x3 := HX7.out.cell 3
        have x4 := HX7.out.cell 4
        have x5 := HX7.out.cell 5
        have x6 := HX7.out.cell 6
        have x7 := HX7.out.cell 7
        have x8 := HX7.out.cell 8
        simp at x0 x1 x2 x3 x4 x5 x6 x7 x8
        have hxl := HX7.out.lt
        have f0 := hy7.frozen 0
        have f1 := hy7.frozen 1
        have f2 := hy7.frozen 2
        have f3 := hy7.frozen 3
        have y0 := hy7.cell 0
        have y1 := hy7.cell 1
        have y2 := hy7.cell 2
        have y3 := hy7.cell 3
        simp at y0 y1 y2 y3
        have hyl := hy7.lt
        clear hy7 hb7
        go_upto_region 12 with fail
        refine world_gen (fun w8 => Blk w8 w6.heap.size 28 #[.int .i64 (t.n).ln, .int .i64 (t.n).dy, .slice (t.n).Ad (t.n).dep.length (t.n).cd, .slice (t.n).Aa (t.n).arr.length (t.n).ca] ∧ Below w6.heap.size w6 w8) ⟨HY7.out.st4, (by have hb7 := HB7.out; have hs7 := hb7.size; exact (by repeat (first | exact Below.refl _ _ | (with_reducible refine Below.drew ?_) | (with_reducible refine below_drewN ?_ _) | (with_reducible refine Below.alloc ?_ (by first | omega | (simp; done) | (simp; omega)) _) | (with_reducible refine Below.setCell ?_ (by first | omega | (simp; done) | (simp; omega)) _) | (refine Below.trans ?_ (Below.mono (by with_reducible assumption) (by first | omega | (simp; done) | (simp; omega)))))))⟩ ?_
        rintro w8 ⟨hy8, hb8⟩
        have HYB := Lib.hid hy8
        have HB8 := Lib.hid (HB6.out.trans (hb8.mono HB6.out.size))
        have HUM8 := Lib.hid (HUM.out.go hb8)
        clear x0 x1 x2 x3 x4 x5 x6 x7 x8 hxl y0 y1 y2 y3 hyl f0 f1 f2 f3 hy8 hb8 HY7 HB7 HX7 HX6 HUM
        have y0 := HYB.out.cell 0
        have y1 := HYB.out.cell 1
        have y2 := HYB.out.cell 2
        have y3 := HYB.out.cell 3
        simp at y0 y1 y2 y3
        have hyl := HYB.out.lt
        clear HYB
        have HFA : Hid (∀ W, Below w8.heap.size w8 W → Calls Try.prog 24 #[.slice A2 ys.length c2, .agg #[.int .i64 (t.n).ln, .int .i64 (t.n).dy, .slice (t.n).Ad (t.n).dep.length (t.n).cd, .slice (t.n).Aa (t.n).arr.length (t.n).ca]] W fun e w' => e = .returned (.int .i64 (findK (ys.map CT.pt) (t.n).pt 0)) ∧ Below W.heap.size W w') := fun W hW => find_any A2 c2 ys (t.n) W (HY5.out.go (HB8.out.trans (hW.mono HB8.out.size))) (HUM8.out.go hW) HKY.out HD.out.2.2.2
        have HFB : Hid (∀ W, Below w8.heap.size w8 W → Calls Try.prog 24 #[.slice A3 vs.length c3, .agg #[.int .i64 (t.n).ln, .int .i64 (t.n).dy, .slice (t.n).Ad (t.n).dep.length (t.n).cd, .slice (t.n).Aa (t.n).arr.length (t.n).ca]] W fun e w' => e = .returned (.int .i64 (findK (vs.map CT.pt) (t.n).pt 0)) ∧ Below W.heap.size W w') := fun W hW => find_any A3 c3 vs (t.n) W (HZ5.out.go (HB8.out.trans (hW.mono HB8.out.size))) (HUM8.out.go hW) HKV.out HD.out.2.2.2
        have HFX : Hid (∀ W, Below w8.heap.size w8 W → Calls Try.prog 24 #[.slice B4 t4.length d4, .agg #[.int .i64 (t.n).ln, .int .i64 (t.n).dy, .slice (t.n).Ad (t.n).dep.length (t.n).cd, .slice (t.n).Aa (t.n).arr.length (t.n).ca]] W fun e w' => e = .returned (.int .i64 (findK (t4.map CT.pt) (t.n).pt 0)) ∧ Below W.heap.size W w') := fun W hW => find_any B4 d4 t4 (t.n) W (HT5.out.go (HB8.out.trans (hW.mono HB8.out.size))) (HUM8.out.go hW) HKT.out HD.out.2.2.2
        rcases findK_spec (ys.map CT.pt) (t.n).pt 0 with ⟨hfa, hfa2⟩ | ⟨ia, hia, hfa, hfa2⟩
        · have hbn := HD.out.1
          rw [hfa2] at hbn
          rcases findK_spec (t4.map CT.pt) (t.n).pt 0 with ⟨hfx, hfx2⟩ | ⟨ix, hix, hfx, hfx2⟩
          · rcases findK_spec (vs.map CT.pt) (t.n).pt 0 with ⟨hfb, hfb2⟩ | ⟨ib, hib, hfb, hfb2⟩
            · exact absurd ⟨hfa2, hfb2⟩ HD.out.2.2.1
            · rw [Nat.zero_add] at hfb
              rw [hfa] at HFA
              rw [hfb] at HFB
              rw [hfx] at HFX
              clear hfa hfa2 hfb hfb2 hfx hfx2 hbn hib
              have hi0 : decide ((ib : Int) < 0) = false := by simp
              refine wp_region_overL (by kernel_rfl) (by kernel_rfl) ?_
              repeat (go_big_quiet_step (first | (go_at_call 24; with_reducible exact callsOver (HFA.out _ (over_below _ _))) | (go_at_call 24; with_reducible exact callsOver (HFB.out _ (over_below _ _))) | (go_at_call 24; with_reducible exact callsOver (HFX.out _ (over_below _ _)))))
              refine wpQuiet_nil ?_
              intro w9 hb9
              have HB9 := Lib.hid (HB8.out.trans (hb9.mono HB8.out.size))
              clear y0 y1 y2 y3 hyl HFA HFB HFX
              go_upto_region 13 with fail
              refine wp_region_overL (by kernel_rfl) (by kernel_rfl) ?_
              repeat (go_big_quiet_step (fail))
              refine wpQuiet_nil ?_
              intro wa hba9
              have HBA := Lib.hid (HB9.out.trans (hba9.mono HB9.out.size))
              clear hba9
              go_wp2_with fail
              go_roundg (s4.length - j - 1)
              case measure => have := Hj.out; omega
              case rel => exact ⟨j + 1, by first | rfl | go_num, by have := Hj.out; omega, HBA.out⟩
          · rw [hfx2] at hbn; cases hbn
        · have hbn := HD.out.1
          rw [hfa2] at hbn
          rcases findK_spec (t4.map CT.pt) (t.n).pt 0 with ⟨hfx, hfx2⟩ | ⟨ix, hix, hfx, hfx2⟩
          · rw [hfx2] at hbn; cases hbn
          · rw [hfx2] at hbn
            injection hbn with hbn
            simp only [List.length_map] at hia hix
            rw [List.getElem_map, List.getElem_map] at hbn
            rw [Nat.zero_add] at hfa hfx
            rw [hfa] at HFA
            rw [hfx] at HFX
            obtain ⟨ba, oa, hAe, hba, p0, p1, p2, p3⟩ := rdT (HY5.out.r.grow HB8.out) rfl ia hia
            subst hAe
            obtain ⟨bx, ox, hXe, hbx, q0, q1, q2, q3⟩ := rdT (HT5.out.r.grow HB8.out) rfl ix hix
            subst hXe
            have HMA := Lib.hid ((HY5.out.m _ (List.getElem_mem hia)).go HB8.out)
            have HMX := Lib.hid ((HT5.out.m _ (List.getElem_mem hix)).go HB8.out)
            have HEQX := Lib.hid (show eqT ys[ia].pt t4[ix].pt = true from eqT_iff.2 hbn.symm)
            have HNB := Lib.hid (fun h => HD.out.2.1 _ hfa2 h)
            rw [List.getElem_map] at HNB
            generalize ys[ia] = ta at *
            generalize t4[ix] = tx at *
            have hbwa : ba < w8.heap.size := World.block_lt_of_cell? _ _ p0
            have hbwx : bx < w8.heap.size := World.block_lt_of_cell? _ _ q0
            have HSX : Hid (∀ W, Below w8.heap.size w8 W → Calls Try.prog 25 #[.agg #[.int .i64 (ta).ln, .int .i64 (ta).dy, .slice (ta).Ad (ta).dep.length (ta).cd, .slice (ta).Aa (ta).arr.length (ta).ca], .agg #[.int .i64 (tx).ln, .int .i64 (tx).dy, .slice (tx).Ad (tx).dep.length (tx).cd, .slice (tx).Aa (tx).arr.length (tx).ca]] W fun e w' => e = .returned (.bool true) ∧ Below W.heap.size W w') := fun W hW => by
              have := req_any ta tx W (HMA.out.go hW) (HMX.out.go hW)
              rwa [HEQX.out] at this
            clear hfa hfa2 hfx hfx2 hbn HEQX HMX
            have hi0 : decide ((ia : Int) < 0) = false := by simp
            have hi1 : decide ((ix : Int) < 0) = false := by simp
            rcases findK_spec (vs.map CT.pt) (t.n).pt 0 with ⟨hfb, hfb2⟩ | ⟨ib, hib, hfb, hfb2⟩
            · rw [hfb] at HFB
              clear hfb hfb2
              refine wp_region_overL (by kernel_rfl) (by kernel_rfl) ?_
              repeat (go_big_quiet_step (first | (go_at_call 24; with_reducible exact callsOver (HFA.out _ (over_below _ _))) | (go_at_call 24; with_reducible exact callsOver (HFB.out _ (over_below _ _))) | (go_at_call 24; with_reducible exact callsOver (HFX.out _ (over_below _ _)))))
              refine wpQuiet_nil ?_
              intro w9 hb9
              have HB9 := Lib.hid (HB8.out.trans (hb9.mono HB8.out.size))
              clear y0 y1 y2 y3 hyl HFA HFB HFX
              have HSX9 : Hid (∀ W, Below w9.heap.size w9 W → Calls Try.prog 25 #[.agg #[.int .i64 (ta).ln, .int .i64 (ta).dy, .slice (ta).Ad (ta).dep.length (ta).cd, .slice (ta).Aa (ta).arr.length (ta).ca], .agg #[.int .i64 (tx).ln, .int .i64 (tx).dy, .slice (tx).Ad (tx).dep.length (tx).cd, .slice (tx).Aa (tx).arr.length (tx).ca]] W fun e w' => e = .returned (.bool true) ∧ Below W.heap.size W w') := fun W hW => HSX.out W (hb9.trans (hW.mono hb9.size))
              replace p0 := cell_bel hb9 p0
              replace p1 := cell_bel hb9 p1
              replace p2 := cell_bel hb9 p2
              replace p3 := cell_bel hb9 p3
              replace q0 := cell_bel hb9 q0
              replace q1 := cell_bel hb9 q1
              replace q2 := cell_bel hb9 q2
              replace q3 := cell_bel hb9 q3
              replace hbwa := Nat.lt_of_lt_of_le hbwa hb9.size
              replace hbwx := Nat.lt_of_lt_of_le hbwx hb9.size
              clear hb9
              go_upto_region 13 with fail
              refine wp_region_overL (by kernel_rfl) (by kernel_rfl) ?_
              repeat (go_big_quiet_step ((go_at_call 25; with_reducible exact callsOver (HSX9.out _ (over_below _ _)))))
              refine wpQuiet_nil ?_
              intro wa hba9
              have HBA := Lib.hid (HB9.out.trans (hba9.mono HB9.out.size))
              clear hba9 p0 p1 p2 p3 q0 q1 q2 q3
              go_wp2_with fail
              go_roundg (s4.length - j - 1)
              case measure => have := Hj.out; omega
              case rel => exact ⟨j + 1, by first | rfl | go_num, by have := Hj.out; omega, HBA.out⟩
            · rw [Nat.zero_add] at hfb
              rw [hfb] at HFB
              simp only [List.length_map] at hib
              rw [List.getElem_map] at hfb2
              obtain ⟨bv, ov, hVe, hbv, r0, r1, r2, r3⟩ := rdT (HZ5.out.r.grow HB8.out) rfl ib hib
              subst hVe
              have HMV := Lib.hid ((HZ5.out.m _ (List.getElem_mem hib)).go HB8.out)
              have HEQV := Lib.hid (show eqT ta.pt vs[ib].pt = false by
                rw [← Bool.not_eq_true]
                intro h
                exact HNB.out (by rw [hfb2, eqT_iff.1 h]))
              generalize vs[ib] = tv at *
              have hbwv : bv < w8.heap.size := World.block_lt_of_cell? _ _ r0
              have HSV : Hid (∀ W, Below w8.heap.size w8 W → Calls Try.prog 25 #[.agg #[.int .i64 (ta).ln, .int .i64 (ta).dy, .slice (ta).Ad (ta).dep.length (ta).cd, .slice (ta).Aa (ta).arr.length (ta).ca], .agg #[.int .i64 (tv).ln, .int .i64 (tv).dy, .slice (tv).Ad (tv).dep.length (tv).cd, .slice (tv).Aa (tv).arr.length (tv).ca]] W fun e w' => e = .returned (.bool false) ∧ Below W.heap.size W w') := fun W hW => by
                have := req_any ta tv W (HMA.out.go hW) (HMV.out.go hW)
                rwa [HEQV.out] at this
              clear hfb hfb2 HEQV HMV
              have hi2 : decide ((ib : Int) < 0) = false := by simp
              refine wp_region_overL (by kernel_rfl) (by kernel_rfl) ?_
              repeat (go_big_quiet_step (first | (go_at_call 24; with_reducible exact callsOver (HFA.out _ (over_below _ _))) | (go_at_call 24; with_reducible exact callsOver (HFB.out _ (over_below _ _))) | (go_at_call 24; with_reducible exact callsOver (HFX.out _ (over_below _ _)))))
              refine wpQuiet_nil ?_
              intro w9 hb9
              have HB9 := Lib.hid (HB8.out.trans (hb9.mono HB8.out.size))
              clear y0 y1 y2 y3 hyl HFA HFB HFX
              have HSX9 : Hid (∀ W, Below w9.heap.size w9 W → Calls Try.prog 25 #[.agg #[.int .i64 (ta).ln, .int .i64 (ta).dy, .slice (ta).Ad (ta).dep.length (ta).cd, .slice (ta).Aa (ta).arr.length (ta).ca], .agg #[.int .i64 (tx).ln, .int .i64 (tx).dy, .slice (tx).Ad (tx).dep.length (tx).cd, .slice (tx).Aa (tx).arr.length (tx).ca]] W fun e w' => e = .returned (.bool true) ∧ Below W.heap.size W w') := fun W hW => HSX.out W (hb9.trans (hW.mono hb9.size))
              have HSV9 : Hid (∀ W, Below w9.heap.size w9 W → Calls Try.prog 25 #[.agg #[.int .i64 (ta).ln, .int .i64 (ta).dy, .slice (ta).Ad (ta).dep.length (ta).cd, .slice (ta).Aa (ta).arr.length (ta).ca], .agg #[.int .i64 (tv).ln, .int .i64 (tv).dy, .slice (tv).Ad (tv).dep.length (tv).cd, .slice (tv).Aa (tv).arr.length (tv).ca]] W fun e w' => e = .returned (.bool false) ∧ Below W.heap.size W w') := fun W hW => HSV.out W (hb9.trans (hW.mono hb9.size))
              replace p0 := cell_bel hb9 p0
              replace p1 := cell_bel hb9 p1
              replace p2 := cell_bel hb9 p2
              replace p3 := cell_bel hb9 p3
              replace q0 := cell_bel hb9 q0
              replace q1 := cell_bel hb9 q1
              replace q2 := cell_bel hb9 q2
              replace q3 := cell_bel hb9 q3
              replace r0 := cell_bel hb9 r0
              replace r1 := cell_bel hb9 r1
              replace r2 := cell_bel hb9 r2
              replace r3 := cell_bel hb9 r3
              replace hbwa := Nat.lt_of_lt_of_le hbwa hb9.size
              replace hbwx := Nat.lt_of_lt_of_le hbwx hb9.size
              replace hbwv := Nat.lt_of_lt_of_le hbwv hb9.size
              clear hb9
              go_upto_region 13 with fail
              refine wp_region_overL (by kernel_rfl) (by kernel_rfl) ?_
              repeat (go_big_quiet_step (first | (go_at_call 25; with_reducible exact callsOver (HSX9.out _ (over_below _ _))) | (go_at_call 25; with_reducible exact callsOver (HSV9.out _ (over_below _ _)))))
              refine wpQuiet_nil ?_
              intro wa hba9
              have HBA := Lib.hid (HB9.out.trans (hba9.mono HB9.out.size))
              clear hba9 p0 p1 p2 p3 q0 q1 q2 q3 r0 r1 r2 r3
              go_wp2_with fail
              go_roundg (s4.length - j - 1)
              case measure => have := Hj.out; omega
              case rel => exact ⟨j + 1, by first | rfl | go_num, by have := Hj.out; omega, HBA.out⟩
      · have hk1' : (t.k == 1) = false := by simpa using hk1
        have hkc : keyC t = t.o := by unfold keyC; rw [if_neg hk1]
        rw [← keyC_pt, hkc] at HD
        have HUM := Lib.hid HTM6.out.o
        clear hk1 hkc HTM6
        go_upto_region 12 with fail
        refine world_gen (fun w8 => Blk w8 w6.heap.size 28 #[.int .i64 (t.o).ln, .int .i64 (t.o).dy, .slice (t.o).Ad (t.o).dep.length (t.o).cd, .slice (t.o).Aa (t.o).arr.length (t.o).ca] ∧ Below w6.heap.size w6 w8) ⟨Blk.new w6 _ _, (by repeat (first | exact Below.refl _ _ | (with_reducible refine Below.drew ?_) | (with_reducible refine below_drewN ?_ _) | (with_reducible refine Below.alloc ?_ (by first | omega | (simp; done) | (simp; omega)) _) | (with_reducible refine Below.setCell ?_ (by first | omega | (simp; done) | (simp; omega)) _) | (refine Below.trans ?_ (Below.mono (by with_reducible assumption) (by first | omega | (simp; done) | (simp; omega))))))⟩ ?_
        rintro w8 ⟨hy8, hb8⟩
        have HYB := Lib.hid hy8
        have HB8 := Lib.hid (HB6.out.trans (hb8.mono HB6.out.size))
        have HUM8 := Lib.hid (HUM.out.go hb8)
        clear x0 x1 x2 x3 x4 x5 x6 x7 x8 hxl hy8 hb8 HX6 HUM
        have y0 := HYB.out.cell 0
        have y1 := HYB.out.cell 1
        have y2 := HYB.out.cell 2
        have y3 := HYB.out.cell 3
        simp at y0 y1 y2 y3
        have hyl := HYB.out.lt
        clear HYB
        have HFA : Hid (∀ W, Below w8.heap.size w8 W → Calls Try.prog 24 #[.slice A2 ys.length c2, .agg #[.int .i64 (t.o).ln, .int .i64 (t.o).dy, .slice (t.o).Ad (t.o).dep.length (t.o).cd, .slice (t.o).Aa (t.o).arr.length (t.o).ca]] W fun e w' => e = .returned (.int .i64 (findK (ys.map CT.pt) (t.o).pt 0)) ∧ Below W.heap.size W w') := fun W hW => find_any A2 c2 ys (t.o) W (HY5.out.go (HB8.out.trans (hW.mono HB8.out.size))) (HUM8.out.go hW) HKY.out HD.out.2.2.2
        have HFB : Hid (∀ W, Below w8.heap.size w8 W → Calls Try.prog 24 #[.slice A3 vs.length c3, .agg #[.int .i64 (t.o).ln, .int .i64 (t.o).dy, .slice (t.o).Ad (t.o).dep.length (t.o).cd, .slice (t.o).Aa (t.o).arr.length (t.o).ca]] W fun e w' => e = .returned (.int .i64 (findK (vs.map CT.pt) (t.o).pt 0)) ∧ Below W.heap.size W w') := fun W hW => find_any A3 c3 vs (t.o) W (HZ5.out.go (HB8.out.trans (hW.mono HB8.out.size))) (HUM8.out.go hW) HKV.out HD.out.2.2.2
        have HFX : Hid (∀ W, Below w8.heap.size w8 W → Calls Try.prog 24 #[.slice B4 t4.length d4, .agg #[.int .i64 (t.o).ln, .int .i64 (t.o).dy, .slice (t.o).Ad (t.o).dep.length (t.o).cd, .slice (t.o).Aa (t.o).arr.length (t.o).ca]] W fun e w' => e = .returned (.int .i64 (findK (t4.map CT.pt) (t.o).pt 0)) ∧ Below W.heap.size W w') := fun W hW => find_any B4 d4 t4 (t.o) W (HT5.out.go (HB8.out.trans (hW.mono HB8.out.size))) (HUM8.out.go hW) HKT.out HD.out.2.2.2
        rcases findK_spec (ys.map CT.pt) (t.o).pt 0 with ⟨hfa, hfa2⟩ | ⟨ia, hia, hfa, hfa2⟩
        · have hbn := HD.out.1
          rw [hfa2] at hbn
          rcases findK_spec (t4.map CT.pt) (t.o).pt 0 with ⟨hfx, hfx2⟩ | ⟨ix, hix, hfx, hfx2⟩
          · rcases findK_spec (vs.map CT.pt) (t.o).pt 0 with ⟨hfb, hfb2⟩ | ⟨ib, hib, hfb, hfb2⟩
            · exact absurd ⟨hfa2, hfb2⟩ HD.out.2.2.1
            · rw [Nat.zero_add] at hfb
              rw [hfa] at HFA
              rw [hfb] at HFB
              rw [hfx] at HFX
              clear hfa hfa2 hfb hfb2 hfx hfx2 hbn hib
              have hi0 : decide ((ib : Int) < 0) = false := by simp
              refine wp_region_overL (by kernel_rfl) (by kernel_rfl) ?_
              repeat (go_big_quiet_step (first | (go_at_call 24; with_reducible exact callsOver (HFA.out _ (over_below _ _))) | (go_at_call 24; with_reducible exact callsOver (HFB.out _ (over_below _ _))) | (go_at_call 24; with_reducible exact callsOver (HFX.out _ (over_below _ _)))))
              refine wpQuiet_nil ?_
              intro w9 hb9
              have HB9 := Lib.hid (HB8.out.trans (hb9.mono HB8.out.size))
              clear y0 y1 y2 y3 hyl HFA HFB HFX
              go_upto_region 13 with fail
              refine wp_region_overL (by kernel_rfl) (by kernel_rfl) ?_
              repeat (go_big_quiet_step (fail))
              refine wpQuiet_nil ?_
              intro wa hba9
              have HBA := Lib.hid (HB9.out.trans (hba9.mono HB9.out.size))
              clear hba9
              go_wp2_with fail
              go_roundg (s4.length - j - 1)
              case measure => have := Hj.out; omega
              case rel => exact ⟨j + 1, by first | rfl | go_num, by have := Hj.out; omega, HBA.out⟩
          · rw [hfx2] at hbn; cases hbn
        · have hbn := HD.out.1
          rw [hfa2] at hbn
          rcases findK_spec (t4.map CT.pt) (t.o).pt 0 with ⟨hfx, hfx2⟩ | ⟨ix, hix, hfx, hfx2⟩
          · rw [hfx2] at hbn; cases hbn
          · rw [hfx2] at hbn
            injection hbn with hbn
            simp only [List.length_map] at hia hix
            rw [List.getElem_map, List.getElem_map] at hbn
            rw [Nat.zero_add] at hfa hfx
            rw [hfa] at HFA
            rw [hfx] at HFX
            obtain ⟨ba, oa, hAe, hba, p0, p1, p2, p3⟩ := rdT (HY5.out.r.grow HB8.out) rfl ia hia
            subst hAe
            obtain ⟨bx, ox, hXe, hbx, q0, q1, q2, q3⟩ := rdT (HT5.out.r.grow HB8.out) rfl ix hix
            subst hXe
            have HMA := Lib.hid ((HY5.out.m _ (List.getElem_mem hia)).go HB8.out)
            have HMX := Lib.hid ((HT5.out.m _ (List.getElem_mem hix)).go HB8.out)
            have HEQX := Lib.hid (show eqT ys[ia].pt t4[ix].pt = true from eqT_iff.2 hbn.symm)
            have HNB := Lib.hid (fun h => HD.out.2.1 _ hfa2 h)
            rw [List.getElem_map] at HNB
            generalize ys[ia] = ta at *
            generalize t4[ix] = tx at *
            have hbwa : ba < w8.heap.size := World.block_lt_of_cell? _ _ p0
            have hbwx : bx < w8.heap.size := World.block_lt_of_cell? _ _ q0
            have HSX : Hid (∀ W, Below w8.heap.size w8 W → Calls Try.prog 25 #[.agg #[.int .i64 (ta).ln, .int .i64 (ta).dy, .slice (ta).Ad (ta).dep.length (ta).cd, .slice (ta).Aa (ta).arr.length (ta).ca], .agg #[.int .i64 (tx).ln, .int .i64 (tx).dy, .slice (tx).Ad (tx).dep.length (tx).cd, .slice (tx).Aa (tx).arr.length (tx).ca]] W fun e w' => e = .returned (.bool true) ∧ Below W.heap.size W w') := fun W hW => by
              have := req_any ta tx W (HMA.out.go hW) (HMX.out.go hW)
              rwa [HEQX.out] at this
            clear hfa hfa2 hfx hfx2 hbn HEQX HMX
            have hi0 : decide ((ia : Int) < 0) = false := by simp
            have hi1 : decide ((ix : Int) < 0) = false := by simp
            rcases findK_spec (vs.map CT.pt) (t.o).pt 0 with ⟨hfb, hfb2⟩ | ⟨ib, hib, hfb, hfb2⟩
            · rw [hfb] at HFB
              clear hfb hfb2
              refine wp_region_overL (by kernel_rfl) (by kernel_rfl) ?_
              repeat (go_big_quiet_step (first | (go_at_call 24; with_reducible exact callsOver (HFA.out _ (over_below _ _))) | (go_at_call 24; with_reducible exact callsOver (HFB.out _ (over_below _ _))) | (go_at_call 24; with_reducible exact callsOver (HFX.out _ (over_below _ _)))))
              refine wpQuiet_nil ?_
              intro w9 hb9
              have HB9 := Lib.hid (HB8.out.trans (hb9.mono HB8.out.size))
              clear y0 y1 y2 y3 hyl HFA HFB HFX
              have HSX9 : Hid (∀ W, Below w9.heap.size w9 W → Calls Try.prog 25 #[.agg #[.int .i64 (ta).ln, .int .i64 (ta).dy, .slice (ta).Ad (ta).dep.length (ta).cd, .slice (ta).Aa (ta).arr.length (ta).ca], .agg #[.int .i64 (tx).ln, .int .i64 (tx).dy, .slice (tx).Ad (tx).dep.length (tx).cd, .slice (tx).Aa (tx).arr.length (tx).ca]] W fun e w' => e = .returned (.bool true) ∧ Below W.heap.size W w') := fun W hW => HSX.out W (hb9.trans (hW.mono hb9.size))
              replace p0 := cell_bel hb9 p0
              replace p1 := cell_bel hb9 p1
              replace p2 := cell_bel hb9 p2
              replace p3 := cell_bel hb9 p3
              replace q0 := cell_bel hb9 q0
              replace q1 := cell_bel hb9 q1
              replace q2 := cell_bel hb9 q2
              replace q3 := cell_bel hb9 q3
              replace hbwa := Nat.lt_of_lt_of_le hbwa hb9.size
              replace hbwx := Nat.lt_of_lt_of_le hbwx hb9.size
              clear hb9
              go_upto_region 13 with fail
              refine wp_region_overL (by kernel_rfl) (by kernel_rfl) ?_
              repeat (go_big_quiet_step ((go_at_call 25; with_reducible exact callsOver (HSX9.out _ (over_below _ _)))))
              refine wpQuiet_nil ?_
              intro wa hba9
              have HBA := Lib.hid (HB9.out.trans (hba9.mono HB9.out.size))
              clear hba9 p0 p1 p2 p3 q0 q1 q2 q3
              go_wp2_with fail
              go_roundg (s4.length - j - 1)
              case measure => have := Hj.out; omega
              case rel => exact ⟨j + 1, by first | rfl | go_num, by have := Hj.out; omega, HBA.out⟩
            · rw [Nat.zero_add] at hfb
              rw [hfb] at HFB
              simp only [List.length_map] at hib
              rw [List.getElem_map] at hfb2
              obtain ⟨bv, ov, hVe, hbv, r0, r1, r2, r3⟩ := rdT (HZ5.out.r.grow HB8.out) rfl ib hib
              subst hVe
              have HMV := Lib.hid ((HZ5.out.m _ (List.getElem_mem hib)).go HB8.out)
              have HEQV := Lib.hid (show eqT ta.pt vs[ib].pt = false by
                rw [← Bool.not_eq_true]
                intro h
                exact HNB.out (by rw [hfb2, eqT_iff.1 h]))
              generalize vs[ib] = tv at *
              have hbwv : bv < w8.heap.size := World.block_lt_of_cell? _ _ r0
              have HSV : Hid (∀ W, Below w8.heap.size w8 W → Calls Try.prog 25 #[.agg #[.int .i64 (ta).ln, .int .i64 (ta).dy, .slice (ta).Ad (ta).dep.length (ta).cd, .slice (ta).Aa (ta).arr.length (ta).ca], .agg #[.int .i64 (tv).ln, .int .i64 (tv).dy, .slice (tv).Ad (tv).dep.length (tv).cd, .slice (tv).Aa (tv).arr.length (tv).ca]] W fun e w' => e = .returned (.bool false) ∧ Below W.heap.size W w') := fun W hW => by
                have := req_any ta tv W (HMA.out.go hW) (HMV.out.go hW)
                rwa [HEQV.out] at this
              clear hfb hfb2 HEQV HMV
              have hi2 : decide ((ib : Int) < 0) = false := by simp
              refine wp_region_overL (by kernel_rfl) (by kernel_rfl) ?_
              repeat (go_big_quiet_step (first | (go_at_call 24; with_reducible exact callsOver (HFA.out _ (over_below _ _))) | (go_at_call 24; with_reducible exact callsOver (HFB.out _ (over_below _ _))) | (go_at_call 24; with_reducible exact callsOver (HFX.out _ (over_below _ _)))))
              refine wpQuiet_nil ?_
              intro w9 hb9
              have HB9 := Lib.hid (HB8.out.trans (hb9.mono HB8.out.size))
              clear y0 y1 y2 y3 hyl HFA HFB HFX
              have HSX9 : Hid (∀ W, Below w9.heap.size w9 W → Calls Try.prog 25 #[.agg #[.int .i64 (ta).ln, .int .i64 (ta).dy, .slice (ta).Ad (ta).dep.length (ta).cd, .slice (ta).Aa (ta).arr.length (ta).ca], .agg #[.int .i64 (tx).ln, .int .i64 (tx).dy, .slice (tx).Ad (tx).dep.length (tx).cd, .slice (tx).Aa (tx).arr.length (tx).ca]] W fun e w' => e = .returned (.bool true) ∧ Below W.heap.size W w') := fun W hW => HSX.out W (hb9.trans (hW.mono hb9.size))
              have HSV9 : Hid (∀ W, Below w9.heap.size w9 W → Calls Try.prog 25 #[.agg #[.int .i64 (ta).ln, .int .i64 (ta).dy, .slice (ta).Ad (ta).dep.length (ta).cd, .slice (ta).Aa (ta).arr.length (ta).ca], .agg #[.int .i64 (tv).ln, .int .i64 (tv).dy, .slice (tv).Ad (tv).dep.length (tv).cd, .slice (tv).Aa (tv).arr.length (tv).ca]] W fun e w' => e = .returned (.bool false) ∧ Below W.heap.size W w') := fun W hW => HSV.out W (hb9.trans (hW.mono hb9.size))
              replace p0 := cell_bel hb9 p0
              replace p1 := cell_bel hb9 p1
              replace p2 := cell_bel hb9 p2
              replace p3 := cell_bel hb9 p3
              replace q0 := cell_bel hb9 q0
              replace q1 := cell_bel hb9 q1
              replace q2 := cell_bel hb9 q2
              replace q3 := cell_bel hb9 q3
              replace r0 := cell_bel hb9 r0
              replace r1 := cell_bel hb9 r1
              replace r2 := cell_bel hb9 r2
              replace r3 := cell_bel hb9 r3
              replace hbwa := Nat.lt_of_lt_of_le hbwa hb9.size
              replace hbwx := Nat.lt_of_lt_of_le hbwx hb9.size
              replace hbwv := Nat.lt_of_lt_of_le hbwv hb9.size
              clear hb9
              go_upto_region 13 with fail
              refine wp_region_overL (by kernel_rfl) (by kernel_rfl) ?_
              repeat (go_big_quiet_step (first | (go_at_call 25; with_reducible exact callsOver (HSX9.out _ (over_below _ _))) | (go_at_call 25; with_reducible exact callsOver (HSV9.out _ (over_below _ _)))))
              refine wpQuiet_nil ?_
              intro wa hba9
              have HBA := Lib.hid (HB9.out.trans (hba9.mono HB9.out.size))
              clear hba9 p0 p1 p2 p3 q0 q1 q2 q3 r0 r1 r2 r3
              go_wp2_with fail
              go_roundg (s4.length - j - 1)
              case measure => have := Hj.out; omega
              case rel => exact ⟨j + 1, by first | rfl | go_num, by have := Hj.out; omega, HBA.out⟩
    · go_wp2_with fail
      refine (awake_any wr).mono ?_
      rintro e w7 ⟨rfl, hb7⟩
      have HB7 := Lib.hid (HB5.out.trans ((HB.out.trans (hb7.mono HB.out.size)).mono HB5.out.size))
      clear hb7
      go_wp2_with fail
      go_ret
      exact ⟨rfl, HB7.out⟩
end Go.Proofs.Ythfifejjfnmpoaa
