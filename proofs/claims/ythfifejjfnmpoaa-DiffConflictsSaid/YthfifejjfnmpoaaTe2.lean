import Derived.Test.YthfifejjfnmpoaaTe1
import Derived.Test.YthfifejjfnmpoaaTpMath5
namespace Go.Proofs.Ythfifejjfnmpoaa
open Go.RowKit
theorem sum_step {f : PT → Nat} {L : List PT} {j : Nat} (h : j < L.length) : ((L.take (j + 1)).map f).sum = ((L.take j).map f).sum + f L[j] := by
  rw [List.take_succ_eq_append_getElem h, List.map_append, List.sum_append]
  simp
theorem cnt_le (b : List PT) (t : PT) : cntA b t ≤ 1 := by unfold cntA; split; omega; split <;> omega
theorem cntB_le (b : List PT) (t : PT) : cntB b t ≤ 1 := by unfold cntB; split <;> omega
theorem sum_le {f : PT → Nat} (hf : ∀ t, f t ≤ 1) : ∀ L : List PT, (L.map f).sum ≤ L.length
  | [] => by simp
  | t :: L => by have := sum_le hf L; have := hf t; simp; omega
def LeL1 (w : World) (L M : List PT) (k : Nat) (v7 v : Value) (wr : World) : Prop :=
  ∃ (j n : Nat), v = .int .i64 j ∧ j + k = L.length ∧ v7 = .int .i64 n ∧ n = ((L.take j).map (cntA M)).sum ∧ n ≤ j ∧ Below w.heap.size w wr
def LeL2 (w : World) (L M : List PT) (k : Nat) (v7 v : Value) (wr : World) : Prop :=
  ∃ (j n : Nat), v = .int .i64 j ∧ j + k = M.length ∧ v7 = .int .i64 n ∧ n = (L.map (cntA M)).sum + ((M.take j).map (cntB L)).sum ∧ n ≤ 1024 + j ∧ Below w.heap.size w wr
set_option maxRecDepth 100000 in
set_option maxHeartbeats 6400000 in
theorem dleast_true (A0 : Option Addr) (n0 c0 : Nat) (z0 : List Int) (A9 : Option Addr) (n9 c9 : Nat) (z9 : List Int) (w : World) (h0 : Rd w w.heap.size 1 A0 n0 (z0.map (Value.int .i64))) (m0 : n0 ≤ c0 ∧ c0 ≤ maxLen ∧ c0 * 8 ≤ 140737488351232) (h9 : Rd w w.heap.size 1 A9 n9 (z9.map (Value.int .i64))) (m9 : n9 ≤ c9 ∧ c9 ≤ maxLen ∧ c9 * 8 ≤ 140737488351232) :
    Calls Try.prog 6 #[.slice A0 n0 c0, .slice A9 n9 c9] w fun e w' => e = .returned (.bool true) ∧ Below w.heap.size w w' := by
  have H0 := Lib.hid h0
  have Hm0 := Lib.hid (show n0 ≤ maxLen by omega)
  have H9 := Lib.hid h9
  have Hm9 := Lib.hid (show n9 ≤ maxLen by omega)
  clear h0 m0 h9 m9
  go_enter Try.func6, Try.ntmps6
  go_wp2_with fail
  refine (trips_any A0 n0 c0 z0 w H0.out Hm0.out).mono ?_
  rintro e w1 ⟨A1, c1, xs, rfl, ho1, hl1, hg1, hb1⟩
  have HG1 := Lib.hid hg1
  have HX := Lib.hid (ho1.tl (by omega))
  have HB1 := Lib.hid hb1
  have HXO := Lib.hid (own_at0 ho1.o)
  have HCX := Lib.hid (hg1.chk (by omega))
  clear ho1 hg1 hb1
  go_wp2_with fail
  refine (other_any A1 A9 c1 n9 c9 xs z9 w1 HX.out HG1.out.asc (fun t ht => by have := HG1.out.ok t ht; exact ⟨this.1, this.2.2.1, this.2.2.2⟩) hl1 (H9.out.grow HB1.out |>.more HB1.out.size) Hm9.out).mono ?_
  rintro e w2 ⟨A2, c2, ys, rfl, ho2, hl2, hc2, hb2⟩
  have HY := Lib.hid (ho2.tl (by omega))
  have HYO := Lib.hid (own_at0 ho2.o)
  have HX2 := Lib.hid (HX.out.go hb2)
  have HB2 := Lib.hid (HB1.out.trans (hb2.mono HB1.out.size))
  have HCY := Lib.hid hc2
  clear ho2 hb2 hc2 HX HB1
  go_wp2_with fail
  obtain ⟨_, hkx, hax⟩ := chkT_len HCX.out
  obtain ⟨_, hky, hay⟩ := chkT_len HCY.out
  have HKX := Lib.hid hkx
  have HKY := Lib.hid hky
  have HLEN := Lib.hid (diffM_len hax hay)
  have HOK := Lib.hid (show chkG okE keyE (dfV (xs.map CT.pt) (ys.map CT.pt)) = true by
    unfold dfV
    rw [if_pos ⟨HCX.out, HCY.out⟩]
    refine chkG_iff.2 ⟨diffM_ok hax hay (chkT_iff.1 HCX.out).2.1 (chkT_iff.1 HCY.out).2.1, ?_⟩
    exact List.pairwise_map.2 (asc_diffM _ _ hax hay))
  clear hkx hky hax hay
  go_loopg [7, 9, 10, 24] xs.length (fun k v7 _ _ v wr => LeL1 w2 (xs.map CT.pt) (ys.map CT.pt) k v7 v wr)
  case atStart => exact ⟨0, 0, rfl, by simp, rfl, by simp, by omega, Below.refl _ _⟩
  case round =>
    obtain ⟨j, n, rfl, hj, rfl, hn, hnj, hb⟩ := hrel
    have Hj := Lib.hid hj
    have HN := Lib.hid hn
    have HB := Lib.hid hb
    simp only [List.length_map] at Hj
    clear hj hn hb
    by_cases hlt : j < xs.length
    · have HST := Lib.hid (sum_step (f := cntA (ys.map CT.pt)) (L := xs.map CT.pt) (j := j) (by simpa using hlt))
      rw [List.getElem_map, ← HN.out] at HST
      obtain ⟨bb, off, rfl, hbb, d0, d1, d2, d3⟩ := rdT (HX2.out.r.grow HB.out) rfl j hlt
      have HTM := Lib.hid ((HX2.out.m _ (List.getElem_mem hlt)).go HB.out)
      have ht1 := HKX.out _ (List.getElem_mem hlt)
      generalize xs[j] = t at *
      go_upto_region 7 with fail
      refine world_gen (fun w5 => Blk w5 wr.heap.size 28 #[.int .i64 (t).ln, .int .i64 (t).dy, .slice (t).Ad (t).dep.length (t).cd, .slice (t).Aa (t).arr.length (t).ca] ∧ Below wr.heap.size wr w5) ⟨Blk.new wr _ _, (by repeat (first | exact Below.refl _ _ | (with_reducible refine Below.drew ?_) | (with_reducible refine below_drewN ?_ _) | (with_reducible refine Below.alloc ?_ (by first | omega | (simp; done) | (simp; omega)) _) | (with_reducible refine Below.setCell ?_ (by first | omega | (simp; done) | (simp; omega)) _) | (refine Below.trans ?_ (Below.mono (by with_reducible assumption) (by first | omega | (simp; done) | (simp; omega))))))⟩ ?_
      rintro w5 ⟨hx5, hb5⟩
      have HB5 := Lib.hid (HB.out.trans (hb5.mono HB.out.size))
      have HTM5 := Lib.hid (HTM.out.go hb5)
      have HX5 := Lib.hid hx5
      have x0 := hx5.cell 0
      have x1 := hx5.cell 1
      have x2 := hx5.cell 2
      have x3 := hx5.cell 3
      simp at x0 x1 x2 x3
      have hxl := hx5.lt
      clear d0 d1 d2 d3 hx5 hb5
      go_wp2_with fail
      refine (find_any A2 c2 ys t _ (HY.out.go HB5.out) HTM5.out HKY.out ht1).mono ?_
      rintro e w6 ⟨rfl, hb6⟩
      have HB6 := Lib.hid (HB5.out.trans (hb6.mono HB5.out.size))
      have HTM6 := Lib.hid (HTM5.out.go hb6)
      have HX6 := Lib.hid (HX5.out.bel hb6)
      clear hb6 x0 x1 x2 x3 hxl HX5 HB5 HTM5
      have x0 := HX6.out.cell 0
      have x1 := HX6.out.cell 1
      have x2 := HX6.out.cell 2
      have x3 := HX6.out.cell 3
      simp at x0 x1 x2 x3
      have hxl := HX6.out.lt
      rcases findK_spec (ys.map CT.pt) t.pt 0 with ⟨hf, hf2⟩ | ⟨i, hi, hf, hf2⟩
      · have HC := Lib.hid (show cntA (ys.map CT.pt) t.pt = 1 by unfold cntA; rw [hf2])
        rw [hf]
        clear hf hf2
        go_upto_region 8 with fail
        refine wp_region_overL (by kernel_rfl) (by kernel_rfl) ?_
        repeat (go_big_quiet_step (fail))
        refine wpQuiet_nil ?_
        intro w7 hb7
        have HB7 := Lib.hid (HB6.out.trans (hb7.mono HB6.out.size))
        clear hb7
        go_wp2_with fail
        go_roundg (xs.length - j - 1)
        case measure => have := Hj.out; omega
        case rel => exact ⟨j + 1, n + 1, by first | rfl | go_num, by simp; have := Hj.out; omega, by first | rfl | go_num, by rw [HST.out, HC.out], by omega, HB7.out⟩
      · simp only [List.length_map] at hi
        rw [List.getElem_map] at hf2
        rw [Nat.zero_add] at hf
        obtain ⟨bb2, off2, rfl, hbb2, q0, q1, q2, q3⟩ := rdT (HY.out.r.grow HB6.out) rfl i hi
        have HUM := Lib.hid ((HY.out.m _ (List.getElem_mem hi)).go HB6.out)
        generalize ys[i] = u at *
        have HC := Lib.hid (show cntA (ys.map CT.pt) t.pt = if eqT u.pt t.pt = true then 0 else 1 by unfold cntA; rw [hf2])
        have hbw2 : bb2 < w6.heap.size := World.block_lt_of_cell? _ _ q0
        have HCM : Hid (∀ W, Below w6.heap.size w6 W → Calls Try.prog 25 #[.agg #[.int .i64 (u).ln, .int .i64 (u).dy, .slice (u).Ad (u).dep.length (u).cd, .slice (u).Aa (u).arr.length (u).ca], .agg #[.int .i64 (t).ln, .int .i64 (t).dy, .slice (t).Ad (t).dep.length (t).cd, .slice (t).Aa (t).arr.length (t).ca]] W fun e w' => e = .returned (.bool (eqT u.pt t.pt)) ∧ Below W.heap.size W w') := fun W hW => req_any u t W (HUM.out.go hW) (HTM6.out.go hW)
        rw [hf]
        clear hf hf2
        have hi0 : decide ((i : Int) < 0) = false := by simp
        go_upto_region 8 with fail
        generalize eqT u.pt t.pt = q at *
        cases q with
        | true =>
          have HC2 := Lib.hid (show cntA (ys.map CT.pt) t.pt = 0 by rw [HC.out]; rfl)
          refine wp_region_overL (by kernel_rfl) (by kernel_rfl) ?_
          repeat (go_big_quiet_step ((go_at_call 25; exact callsOver (HCM.out _ (over_below _ _)))))
          refine wpQuiet_nil ?_
          intro w7 hb7
          have HB7 := Lib.hid (HB6.out.trans (hb7.mono HB6.out.size))
          clear hb7 x0 x1 x2 x3 q0 q1 q2 q3
          go_wp2_with fail
          go_roundg (xs.length - j - 1)
          case measure => have := Hj.out; omega
          case rel => exact ⟨j + 1, n, by first | rfl | go_num, by simp; have := Hj.out; omega, rfl, by rw [HST.out, HC2.out]; rfl, by omega, HB7.out⟩
        | false =>
          have HC2 := Lib.hid (show cntA (ys.map CT.pt) t.pt = 1 by rw [HC.out]; rfl)
          refine wp_region_overL (by kernel_rfl) (by kernel_rfl) ?_
          repeat (go_big_quiet_step ((go_at_call 25; exact callsOver (HCM.out _ (over_below _ _)))))
          refine wpQuiet_nil ?_
          intro w7 hb7
          have HB7 := Lib.hid (HB6.out.trans (hb7.mono HB6.out.size))
          clear hb7 x0 x1 x2 x3 q0 q1 q2 q3
          go_wp2_with fail
          go_roundg (xs.length - j - 1)
          case measure => have := Hj.out; omega
          case rel => exact ⟨j + 1, n + 1, by first | rfl | go_num, by simp; have := Hj.out; omega, by first | rfl | go_num, by rw [HST.out, HC2.out], by omega, HB7.out⟩
    · have HN2 := Lib.hid (show n = ((xs.map CT.pt).map (cntA (ys.map CT.pt))).sum by rw [HN.out, List.take_of_length_le (by simp; omega)])
      have hn5 : n ≤ 5 := by have := Hj.out; omega
      clear HN Hj
      go_wp2_with fail
      go_loopg [7, 12, 47] ys.length (fun k v7 _ v wr => LeL2 w2 (xs.map CT.pt) (ys.map CT.pt) k v7 v wr)
      case atStart => exact ⟨0, n, rfl, by simp, rfl, by rw [HN2.out]; simp, by omega, HB.out⟩
      case round =>
        clear HN2 HB hlt hn5 hnj
        obtain ⟨j, n, rfl, hj, rfl, hn, hnj, hb⟩ := hrel
        rename World => wx
        have Hj := Lib.hid hj
        have HN := Lib.hid hn
        have HB := Lib.hid hb
        simp only [List.length_map] at Hj
        clear hj hn hb
        by_cases hlt : j < ys.length
        · have HST := Lib.hid (sum_step (f := cntB (xs.map CT.pt)) (L := ys.map CT.pt) (j := j) (by simpa using hlt))
          rw [List.getElem_map] at HST
          obtain ⟨bb, off, hAe, hbb, d0, d1, d2, d3⟩ := rdT (HY.out.r.grow HB.out) rfl j hlt
          cases hAe
          have HTM := Lib.hid ((HY.out.m _ (List.getElem_mem hlt)).go HB.out)
          have ht1 := HKY.out _ (List.getElem_mem hlt)
          generalize ys[j] = t at *
          go_upto_region 14 with fail
          refine world_gen (fun w5 => Blk w5 wx.heap.size 28 #[.int .i64 (t).ln, .int .i64 (t).dy, .slice (t).Ad (t).dep.length (t).cd, .slice (t).Aa (t).arr.length (t).ca] ∧ Below wx.heap.size wx w5) ⟨Blk.new wx _ _, (by repeat (first | exact Below.refl _ _ | (with_reducible refine Below.drew ?_) | (with_reducible refine below_drewN ?_ _) | (with_reducible refine Below.alloc ?_ (by first | omega | (simp; done) | (simp; omega)) _) | (with_reducible refine Below.setCell ?_ (by first | omega | (simp; done) | (simp; omega)) _) | (refine Below.trans ?_ (Below.mono (by with_reducible assumption) (by first | omega | (simp; done) | (simp; omega))))))⟩ ?_
          rintro w5 ⟨hx5, hb5⟩
          have HB5 := Lib.hid (HB.out.trans (hb5.mono HB.out.size))
          have HTM5 := Lib.hid (HTM.out.go hb5)
          have x0 := hx5.cell 0
          have x1 := hx5.cell 1
          have x2 := hx5.cell 2
          have x3 := hx5.cell 3
          simp at x0 x1 x2 x3
          have hxl := hx5.lt
          clear d0 d1 d2 d3 hx5 hb5
          go_wp2_with fail
          refine (find_any A1 c1 xs t _ (HX2.out.go HB5.out) HTM5.out HKX.out ht1).mono ?_
          rintro e w6 ⟨rfl, hb6⟩
          have HB6 := Lib.hid (HB5.out.trans (hb6.mono HB5.out.size))
          clear hb6 x0 x1 x2 x3 hxl HB5 HTM5
          rcases findK_spec (xs.map CT.pt) t.pt 0 with ⟨hf, hf2⟩ | ⟨i, hi, hf, hf2⟩
          · have HC := Lib.hid (show cntB (xs.map CT.pt) t.pt = 1 by unfold cntB; rw [hf2])
            rw [hf]
            clear hf hf2
            go_wp2_with fail
            go_roundg (ys.length - j - 1)
            case measure => have := Hj.out; omega
            case rel => exact ⟨j + 1, n + 1, by first | rfl | go_num, by simp; have := Hj.out; omega, by first | rfl | go_num, by rw [HST.out, HC.out, HN.out]; omega, by omega, HB6.out⟩
          · have HC := Lib.hid (show cntB (xs.map CT.pt) t.pt = 0 by unfold cntB; rw [hf2])
            rw [Nat.zero_add] at hf
            rw [hf]
            clear hf hf2 hi
            go_wp2_with fail
            go_roundg (ys.length - j - 1)
            case measure => have := Hj.out; omega
            case rel => exact ⟨j + 1, n, by first | rfl | go_num, by simp; have := Hj.out; omega, rfl, by rw [HST.out, HC.out, HN.out]; omega, by omega, HB6.out⟩
        · have HF := Lib.hid (show (dfV (xs.map CT.pt) (ys.map CT.pt)).length = n by
            unfold dfV
            rw [if_pos ⟨HCX.out, HCY.out⟩, HLEN.out, HN.out, List.take_of_length_le (by simp; omega)])
          have HC1 := Lib.hid (show dfC (xs.map CT.pt) (ys.map CT.pt) = 0 by unfold dfC; rw [if_pos ⟨HCX.out, HCY.out⟩])
          have HC2 := Lib.hid (show dfC (xs.map CT.pt) (xs.map CT.pt) = 0 by unfold dfC; rw [if_pos ⟨HCX.out, HCX.out⟩])
          have HF2 := Lib.hid (show dfV (xs.map CT.pt) (xs.map CT.pt) = [] by unfold dfV; rw [if_pos ⟨HCX.out, HCX.out⟩, diffM_self])
          clear HN
          go_wp2_with fail
          refine (diff_any A1 A2 c1 c2 xs ys _ (HX2.out.go HB.out) (HY.out.go HB.out)).mono ?_
          rintro e w7 ⟨B7, d7, e7, rfl, ho7, hv7, hl7, hb7⟩
          rw [HC1.out]
          have hlen7 : e7.length = n := by have := congrArg List.length hv7; rw [List.length_map, HF.out] at this; exact this
          subst hlen7
          have HE7 := Lib.hid (ho7.el (by omega))
          have HK7 := Lib.hid (show chkG okE keyE (e7.map CE.pe) = true by rw [hv7]; exact HOK.out)
          have HB7 := Lib.hid (HB.out.trans (hb7.mono HB.out.size))
          clear ho7 hv7 hb7 HF HC1 HB
          go_wp2_with fail
          refine (diff_any A1 A1 c1 c1 xs xs _ (HX2.out.go HB7.out) (HX2.out.go HB7.out)).mono ?_
          rintro e w8 ⟨B8, d8, e8, rfl, ho8, hv8, hl8, hb8⟩
          rw [HC2.out]
          have he8 : e8 = [] := by have h := hv8; rw [HF2.out] at h; simpa using h
          subst he8
          have HE8 := Lib.hid (HE7.out.go hb8)
          have HB8 := Lib.hid (HB7.out.trans (hb8.mono HB7.out.size))
          clear ho8 hv8 hb8 HF2 HC2 HB7 HE7 hl8
          go_wp2_with fail
          refine (awake_any w8).mono ?_
          rintro e wa ⟨rfl, hba⟩
          have HEa := Lib.hid (HE8.out.go hba)
          have HBa := Lib.hid (HB8.out.trans (hba.mono HB8.out.size))
          clear hba HE8 HB8
          go_wp2_with fail
          refine (ckE_any B7 d7 e7 wa HEa.out).mono ?_
          rintro e wb ⟨rfl, hbb⟩
          rw [HK7.out]
          have HBb := Lib.hid (HB2.out.trans ((HBa.out.trans (hbb.mono HBa.out.size)).mono HB2.out.size))
          clear hbb
          go_wp2_with fail
          go_ret
          exact ⟨rfl, HBb.out⟩
end Go.Proofs.Ythfifejjfnmpoaa
