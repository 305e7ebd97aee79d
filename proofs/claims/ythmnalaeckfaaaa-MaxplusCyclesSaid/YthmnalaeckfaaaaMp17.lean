import Derived.Test.YthmnalaeckfaaaaMp16
namespace Go.Proofs.Ythmnalaeckfaaaa
open Go.RowKit
theorem mulb (x y : Int) (hx : -824633720832 ≤ x ∧ x ≤ 824633720832) (hy : 0 ≤ y ∧ y ≤ 12) : -9895604649984 ≤ x * y ∧ x * y ≤ 9895604649984 := by
  have h1 : x * y ≤ 824633720832 * y := Int.mul_le_mul_of_nonneg_right hx.2 hy.1
  have h2 : -824633720832 * y ≤ x * y := Int.mul_le_mul_of_nonneg_right hx.1 hy.1
  omega
theorem grUp_mk {n k i : Nat} {wt : Int} {s : Gr} (hw : wt ≠ -1125899906842624) (h : s.den = 0 ∨ s.num * ((k : Int) + 1) < wt * s.den) : grStep n (k + 1) i wt s = ⟨wt, (k : Int) + 1, (List.replicate n false).set i true⟩ := by
  have e : ((k + 1 : Nat) : Int) = (k : Int) + 1 := by omega
  unfold grStep
  rw [if_neg hw]
  unfold grUp
  rw [e, if_pos h]
  unfold grMk
  simp only [e]
  rw [if_pos trivial]
theorem grNo_mk {n k i : Nat} {wt : Int} {s : Gr} (hw : wt ≠ -1125899906842624) (h : ¬ (s.den = 0 ∨ s.num * ((k : Int) + 1) < wt * s.den)) : grStep n (k + 1) i wt s = if wt * s.den = s.num * ((k : Int) + 1) then ⟨s.num, s.den, s.nodes.set i true⟩ else s := by
  have e : ((k + 1 : Nat) : Int) = (k : Int) + 1 := by omega
  unfold grStep
  rw [if_neg hw]
  unfold grUp
  rw [e, if_neg h]
  unfold grMk
  rw [e]
set_option maxRecDepth 100000 in
set_option maxHeartbeats 6400000 in
theorem greatest_any (A : Option Addr) (n ca : Nat) (ra : List Row) (w : World) (ha : MRd w A ra) (hc : chkM (matR ra) = true) (hl : ra.length = n) :
    Calls Try.prog 41 #[.slice A n ca] w (GreatOut n (grAll n (matR ra) n) w) := by
  have HA := Lib.hid ha
  obtain ⟨hn1, hn2⟩ := chk_n hc
  have HSq := Lib.hid (chk_sq hc)
  have HBd := Lib.hid (Go.Proofs.Ythmnalaeckfaaaa.chk_bd hc)
  rw [hl] at hn1 hn2 HSq HBd
  have HRl := Lib.hid hl
  clear ha hc hl
  obtain ⟨b0, a1, a2, a3, a4⟩ := info_parts infoBool
  have HIb := Lib.hid (And.intro a1 (And.intro a2 (And.intro a3 a4)))
  clear a1 a2 a3 a4
  go_enter Try.func41, Try.ntmps41
  go_upto_region 2 with (at_make; refine wpList_make_full _ rfl _ _ 28 rfl w.heap.size 4 b0 _ 1 Try.underlying28 HIb.out.1 HIb.out.2.1 HIb.out.2.2.1 .i64 .i64 _ _ n rfl rfl rfl rfl ?m1 ?m2 ?m3 ?_; rotate_right; intro w3 hown3 hg3)
  case m1 => rw [HIb.out.2.2.2]; omega
  case m2 => simp only [maxLen]; omega
  case m3 => simp
  have hb3 : Below (w.heap.size + 1) (w.alloc (.cells #[.int .i64 0, .int .i64 0, .slice none 0 0] 58)) w3 := (Below.refl _ _).grown hg3 (by simp) (by simp)
  have hz3 := hb3.size
  simp at hz3
  have hbw : Below w.heap.size w w3 := ((Below.refl _ _).alloc (Nat.le_refl _) _).trans (hb3.mono (by omega))
  refine world_gen (fun w4 => GrS w w4 w.heap.size w3.heap.size (w.heap.size + 1) n (grAll n (matR ra) 0)) ?_ ?_
  · have hy3 : Blk w3 w.heap.size 58 #[.int .i64 0, .int .i64 0, .slice none 0 0] := (Blk.new w _ _).same (hb3.block _ (by omega))
    refine ⟨hbw.alloc hbw.size _, hy3.al _, Blk.new _ _ _, ?_, Nat.le_refl _, hbw.size, by omega⟩
    have h := madeCells_one Value.bool false n
    refine World.ownsRow.alloc ?_ _
    show w3.ownsRow w.heap.size 4 1 _ n ((List.replicate n false).map Value.bool)
    rw [← h]
    simpa [Value.cells] using hown3
  intro w4 hg4
  have HG := Lib.hid hg4
  clear hg4 hown3 hg3 hb3 hz3 hbw
  generalize w3.heap.size = X at *
  obtain ⟨Y, hY⟩ : ∃ Y, Y = w.heap.size := ⟨_, rfl⟩
  have HG2 := Lib.hid (show GrS w w4 Y X (w.heap.size + 1) n (grAll n (matR ra) 0) by rw [hY]; exact HG.out)
  rw [← hY]
  clear HG hY
  have hw4 := HG2.out.bel.size
  go_wp2_with fail
  refine (identity_any n w4 ⟨hn1, hn2⟩).mono ?_
  rintro e w5 ⟨A5, c5, rows, rfl, hm, ho, hb5⟩
  have HR := Lib.hid (show rows.length = n by rw [← matR_len, hm, id_len])
  have HM0 := Lib.hid (show MOwn w5 w.heap.size (.slice A5 n c5) rows by have h := ho.base hw4; rwa [HR.out] at h)
  have HMt := Lib.hid (show matR rows = powM n (matR ra) 0 from hm)
  have HG5 := Lib.hid (HG2.out.grow hb5)
  rw [HR.out]
  clear hm ho hb5 HG2
  go_wp2_with fail
  go_loopg [4, 5, 6, 7] n (fun g v4 v _ _ wr => GL1 w Y X n (matR ra) g v4 v wr)
  case atStart => exact ⟨0, _, A5, c5, rows, rfl, by omega, rfl, HR.out, HMt.out, HM0.out, HG5.out⟩
  case round =>
    clear HG5 HM0 HMt HR
    obtain ⟨k, G, A4, c4, rows, rfl, hk, rfl, hr, hmt, hmo, hgs⟩ := hrel
    have Hk := Lib.hid hk
    have HR := Lib.hid hr
    have HMt := Lib.hid hmt
    have HMo := Lib.hid hmo
    have HGs := Lib.hid hgs
    have hws := hgs.bel.size
    clear hk hr hmt hmo hgs
    by_cases hlt : k < n
    · have hle : (k : Int) + 1 ≤ (n : Int) := by omega
      have HOk := Lib.hid (grAll_ok HBd.out k (by omega))
      have HBp := Lib.hid (pow_bd12 HBd.out k (by omega))
      have HBq := Lib.hid (pow_bd12 HBd.out (k + 1) (by omega))
      go_wp2_with fail
      refine (product_any A4 A n c4 ca rows ra wr HMo.out.rd (HA.out.grow HGs.out.bel) ⟨hn1, hn2⟩ (by rw [HMt.out]; exact pow_sq _ _ _) HSq.out (by rw [HMt.out]; exact HBp.out.mono (by omega)) (HBd.out.mono (by omega))).mono ?_
      rintro e w6 ⟨A6, c6, rows6, rfl, hm6, ho6, hb6⟩
      have HR6 := Lib.hid (show rows6.length = n by rw [← matR_len, hm6, prod_len])
      have HM6 := Lib.hid (show matR rows6 = powM n (matR ra) (k + 1) by rw [hm6, HMt.out]; rfl)
      have HO6 := Lib.hid (show MOwn w6 w.heap.size (.slice A6 n c6) rows6 by have h := ho6.base hws; rwa [HR6.out] at h)
      have HG6 := Lib.hid (HGs.out.grow hb6)
      rw [HR6.out]
      clear hm6 ho6 hb6 HMo HMt HR HGs
      go_wp2_with fail
      go_loopg [6, 7, 26] n (fun g _ _ v wx => GL2 w Y X n k (matR ra) A6 c6 rows6 g v wx)
      case atStart => exact ⟨0, G, rfl, by omega, HO6.out, HG6.out⟩
      case round =>
        clear HO6 HG6
        obtain ⟨i, G2, rfl, hi, hmo, hgs⟩ := hrel
        have Hi := Lib.hid hi
        have HMo := Lib.hid hmo
        have HGs := Lib.hid hgs
        clear hi hmo hgs
        by_cases hil : i < n
        · have hi6 : i < rows6.length := by rw [HR6.out]; exact hil
          have hz6 : rows6[i].zs.length = n := (show Sq n (matR rows6) by rw [HM6.out]; exact pow_sq _ _ _).2 _ (List.mem_map.2 ⟨rows6[i], List.getElem_mem hi6, rfl⟩)
          have ga := gm_row hi6 (k := i) (by rw [hz6]; exact hil)
          rw [HM6.out] at ga
          obtain ⟨bx, ox, ex, hbx, p0⟩ := rd1 HMo.out.rd.r i hi6
          obtain ⟨bu, ou, eu, hbu, p1⟩ := rd1 (HMo.out.rd.c rows6[i] (List.getElem_mem hi6)).r i (by rw [hz6]; exact hil)
          subst ex
          rw [← ga] at p1
          unfold Row.val at p0
          rw [eu, hz6] at p0
          have hwt := HBq.out i i hil hil
          have hok := grRow_ok HOk.out (by omega : k + 1 ≤ 12) HBq.out i (by omega)
          have HSt := Lib.hid (show grRow n (k + 1) (powM n (matR ra) (k + 1)) (grAll n (matR ra) k) (i + 1) = grStep n (k + 1) i (gm (powM n (matR ra) (k + 1)) i i) (grRow n (k + 1) (powM n (matR ra) (k + 1)) (grAll n (matR ra) k) i) from rfl)
          generalize rows6[i].c = cu at *
          clear ga eu hz6 hi6
          generalize gm (powM n (matR ra) (k + 1)) i i = wt at *
          generalize grRow n (k + 1) (powM n (matR ra) (k + 1)) (grAll n (matR ra) k) i = s at *
          obtain ⟨num, den, nodes⟩ := s
          obtain ⟨hn0, hn1', hd0, hd1, hnl⟩ := hok
          simp only at hn0 hn1' hd0 hd1 hnl
          have HNl := Lib.hid hnl
          clear hnl
          by_cases hw : wt = -1125899906842624
          · subst hw
            have HS2 := Lib.hid (show grStep n (k + 1) i (-1125899906842624) ⟨num, den, nodes⟩ = ⟨num, den, nodes⟩ by unfold grStep; rw [if_pos rfl])
            go_wp2_with fail
            go_roundg (n - i - 1)
            case measure => have := Hi.out; omega
            case rel => exact ⟨i + 1, G2, by first | rfl | go_num, by omega, HMo.out, by rw [HSt.out, HS2.out]; exact HGs.out⟩
          · have hw' : (wt == -1125899906842624) = false := by simpa using hw
            have hwb := hwt.resolve_left hw
            have hk12 : (0 : Int) ≤ (k : Int) + 1 ∧ (k : Int) + 1 ≤ 12 := by omega
            have hq1 := mulb wt den hwb ⟨hd0, hd1⟩
            have hq2 := mulb num ((k : Int) + 1) ⟨hn0, hn1'⟩ hk12
            have hq3 := mulb wt ((k : Int) + 1) hwb hk12
            have x0 := HGs.out.x.cell 0
            have x1 := HGs.out.x.cell 1
            simp at x0 x1
            obtain ⟨hq1a, hq1b⟩ := hq1
            obtain ⟨hq2a, hq2b⟩ := hq2
            obtain ⟨hq3a, hq3b⟩ := hq3
            clear hwt
            by_cases hup : den = 0 ∨ num * ((k : Int) + 1) < wt * den
            · have HUp := Lib.hid (grUp_mk (n := n) (k := k) (i := i) (wt := wt) (s := ⟨num, den, nodes⟩) hw hup)
              by_cases hd : den = 0
              · have hd' : (den == 0) = true := by simpa using hd
                clear hd hup hw
                go_upto_region 14 with (at_make; refine wpList_make_full _ rfl _ _ 28 rfl w.heap.size 4 b0 _ 1 Try.underlying28 HIb.out.1 HIb.out.2.1 HIb.out.2.2.1 .i64 .i64 _ _ n rfl rfl rfl rfl ?m1 ?m2 ?m3 ?_; rotate_right; intro w7 hown7 hg7; have hb7 : Below wr.heap.size wr w7 := (Below.refl _ _).grown hg7 (Nat.le_refl _) (by simp); have x7 := HGs.out.x.bel hb7; have k0 := x7.cell 0; have k1 := x7.cell 1; have k2 := x7.cell 2; have q0 := x7.frozen 0; have q1 := x7.frozen 1; have q2 := x7.frozen 2; simp at k0 k1 k2)
                case m1 => rw [HIb.out.2.2.2]; omega
                case m2 => simp only [maxLen]; omega
                case m3 => have := HGs.out.bel.size; omega
                have HN7 := Lib.hid (show w7.ownsRow w.heap.size 4 1 (.slice (some ⟨wr.heap.size, 0, none⟩) n n) n ((List.replicate n false).map Value.bool) by
                  have h := madeCells_one Value.bool false n
                  rw [← h]
                  simpa [Value.cells] using hown7)
                have HG7 := Lib.hid ((HGs.out.grow hb7).turn (num := wt) (den := (k : Int) + 1) HN7.out)
                have HM7 := Lib.hid ((HGs.out.grow hb7).turnM (u0 := .int .i64 wt) (u1 := .int .i64 ((k : Int) + 1)) (u2 := .slice (some ⟨wr.heap.size, 0, none⟩) n n) (HMo.out.grow hb7))
                clear k0 k1 k2 q0 q1 q2 x7 hb7 hown7 hg7 HN7 HGs HMo x0 x1 p0 p1
                generalize ((w7.setCell ⟨X, 0, none⟩ (.int .i64 wt)).setCell ⟨X, 1, none⟩ (.int .i64 ((k : Int) + 1))).setCell ⟨X, 2, none⟩ (.slice (some ⟨wr.heap.size, 0, none⟩) n n) = w8 at *
                generalize wr.heap.size = G3 at *
                have x0 := HG7.out.x.cell 0
                have x1 := HG7.out.x.cell 1
                have x2 := HG7.out.x.cell 2
                simp at x0 x1 x2
                have l0 := own1 HG7.out.o i (by simp; exact hil)
                have f0 := HG7.out.o.frozenAt i
                simp at l0
                have hgl := (own_block HG7.out.o G3 rfl).2
                have HG9 := Lib.hid (HG7.out.mark i)
                have HM9 := Lib.hid (HG7.out.markM HM7.out i)
                have heq : ((wt * ((k : Int) + 1)) == (wt * ((k : Int) + 1))) = true := by simp
                go_wp2_with fail
                go_roundg (n - i - 1)
                case measure => have := Hi.out; omega
                case rel => exact ⟨i + 1, G3, by first | rfl | go_num, by omega, HM9.out, by rw [HSt.out, HUp.out]; exact HG9.out⟩
              · have hd' : (den == 0) = false := by simpa using hd
                have hgt := hup.resolve_left hd
                have hgt' : decide (num * ((k : Int) + 1) < wt * den) = true := by simpa using hgt
                clear hd hup hw hgt
                go_upto_region 14 with (at_make; refine wpList_make_full _ rfl _ _ 28 rfl w.heap.size 4 b0 _ 1 Try.underlying28 HIb.out.1 HIb.out.2.1 HIb.out.2.2.1 .i64 .i64 _ _ n rfl rfl rfl rfl ?m1 ?m2 ?m3 ?_; rotate_right; intro w7 hown7 hg7; have hb7 : Below wr.heap.size wr w7 := (Below.refl _ _).grown hg7 (Nat.le_refl _) (by simp); have x7 := HGs.out.x.bel hb7; have k0 := x7.cell 0; have k1 := x7.cell 1; have k2 := x7.cell 2; have q0 := x7.frozen 0; have q1 := x7.frozen 1; have q2 := x7.frozen 2; simp at k0 k1 k2)
                case m1 => rw [HIb.out.2.2.2]; omega
                case m2 => simp only [maxLen]; omega
                case m3 => have := HGs.out.bel.size; omega
                have HN7 := Lib.hid (show w7.ownsRow w.heap.size 4 1 (.slice (some ⟨wr.heap.size, 0, none⟩) n n) n ((List.replicate n false).map Value.bool) by
                  have h := madeCells_one Value.bool false n
                  rw [← h]
                  simpa [Value.cells] using hown7)
                have HG7 := Lib.hid ((HGs.out.grow hb7).turn (num := wt) (den := (k : Int) + 1) HN7.out)
                have HM7 := Lib.hid ((HGs.out.grow hb7).turnM (u0 := .int .i64 wt) (u1 := .int .i64 ((k : Int) + 1)) (u2 := .slice (some ⟨wr.heap.size, 0, none⟩) n n) (HMo.out.grow hb7))
                clear k0 k1 k2 q0 q1 q2 x7 hb7 hown7 hg7 HN7 HGs HMo x0 x1 p0 p1
                generalize ((w7.setCell ⟨X, 0, none⟩ (.int .i64 wt)).setCell ⟨X, 1, none⟩ (.int .i64 ((k : Int) + 1))).setCell ⟨X, 2, none⟩ (.slice (some ⟨wr.heap.size, 0, none⟩) n n) = w8 at *
                generalize wr.heap.size = G3 at *
                have x0 := HG7.out.x.cell 0
                have x1 := HG7.out.x.cell 1
                have x2 := HG7.out.x.cell 2
                simp at x0 x1 x2
                have l0 := own1 HG7.out.o i (by simp; exact hil)
                have f0 := HG7.out.o.frozenAt i
                simp at l0
                have hgl := (own_block HG7.out.o G3 rfl).2
                have HG9 := Lib.hid (HG7.out.mark i)
                have HM9 := Lib.hid (HG7.out.markM HM7.out i)
                have heq : ((wt * ((k : Int) + 1)) == (wt * ((k : Int) + 1))) = true := by simp
                go_wp2_with fail
                go_roundg (n - i - 1)
                case measure => have := Hi.out; omega
                case rel => exact ⟨i + 1, G3, by first | rfl | go_num, by omega, HM9.out, by rw [HSt.out, HUp.out]; exact HG9.out⟩
            · have HNo := Lib.hid (grNo_mk (n := n) (k := k) (i := i) (wt := wt) (s := ⟨num, den, nodes⟩) hw hup)
              have hd' : (den == 0) = false := by simp; exact fun h => hup (.inl h)
              have hgt' : decide (num * ((k : Int) + 1) < wt * den) = false := by simp; have : ¬ num * ((k : Int) + 1) < wt * den := fun h => hup (.inr h); omega
              clear hup hw
              simp only at HNo
              by_cases heq : wt * den = num * ((k : Int) + 1)
              · have heq' : ((wt * den) == (num * ((k : Int) + 1))) = true := by simpa using heq
                rw [if_pos heq] at HNo
                clear heq
                have x2 := HGs.out.x.cell 2
                simp at x2
                have hin : i < nodes.length := by rw [HNl.out]; exact hil
                have l0 := own1 HGs.out.o i hin
                have f0 := HGs.out.o.frozenAt i
                have hgl := (own_block HGs.out.o G2 rfl).2
                have HG9 := Lib.hid (HGs.out.mark i)
                have HM9 := Lib.hid (HGs.out.markM HMo.out i)
                generalize nodes[i] = nb at *
                clear hin
                go_wp2_with fail
                go_roundg (n - i - 1)
                case measure => have := Hi.out; omega
                case rel => exact ⟨i + 1, G2, by first | rfl | go_num, by omega, HM9.out, by rw [HSt.out, HNo.out]; exact HG9.out⟩
              · have heq' : ((wt * den) == (num * ((k : Int) + 1))) = false := by simpa using heq
                rw [if_neg heq] at HNo
                clear heq
                go_wp2_with fail
                go_roundg (n - i - 1)
                case measure => have := Hi.out; omega
                case rel => exact ⟨i + 1, G2, by first | rfl | go_num, by omega, HMo.out, by rw [HSt.out, HNo.out]; exact HGs.out⟩
        · obtain rfl : i = n := by have := Hi.out; omega
          go_wp2_with fail
          go_roundg (i - k - 1)
          case measure => have := Hk.out; omega
          case rel => exact ⟨k + 1, G2, A6, c6, rows6, by first | rfl | go_num, by omega, rfl, HR6.out, HM6.out, HMo.out, HGs.out⟩
    · obtain rfl : k = n := by have := Hk.out; omega
      have hle : ¬ (k : Int) + 1 ≤ (k : Int) := by omega
      have x0 := HGs.out.x.cell 0
      have x1 := HGs.out.x.cell 1
      have x2 := HGs.out.x.cell 2
      have y0 := HGs.out.y.cell 0
      have y1 := HGs.out.y.cell 1
      have y2 := HGs.out.y.cell 2
      have q0 := HGs.out.y.frozen 0
      have q1 := HGs.out.y.frozen 1
      have q2 := HGs.out.y.frozen 2
      simp at x0 x1 x2 y0 y1 y2
      have hxy := HGs.out.ne
      have HY0 := Lib.hid (HGs.out.y.set_ 0 (.int .i64 (grAll k (matR ra) k).num))
      have HY1 := Lib.hid (HY0.out.set_ 1 (.int .i64 (grAll k (matR ra) k).den))
      have HY2 := Lib.hid (HY1.out.set_ 2 (.slice (some ⟨G, 0, none⟩) k k))
      have HO1 := Lib.hid (own_far (p := ⟨Y, 0, none⟩) (u := .int .i64 (grAll k (matR ra) k).num) HGs.out.o (own_ne_blk HGs.out.o HGs.out.y (by decide)))
      have HO2 := Lib.hid (own_far (p := ⟨Y, 1, none⟩) (u := .int .i64 (grAll k (matR ra) k).den) HO1.out (own_ne_blk HO1.out HY0.out (by decide)))
      have HO3 := Lib.hid (own_far (p := ⟨Y, 2, none⟩) (u := .slice (some ⟨G, 0, none⟩) k k) HO2.out (own_ne_blk HO2.out HY1.out (by decide)))
      have HB3 := Lib.hid (((HGs.out.bel.setCell (p := ⟨Y, 0, none⟩) HGs.out.hY (.int .i64 (grAll k (matR ra) k).num)).setCell (p := ⟨Y, 1, none⟩) HGs.out.hY (.int .i64 (grAll k (matR ra) k).den)).setCell (p := ⟨Y, 2, none⟩) HGs.out.hY (.slice (some ⟨G, 0, none⟩) k k))
      generalize hnum : (grAll k (matR ra) k).num = num at *
      generalize hden : (grAll k (matR ra) k).den = den at *
      have Hnum := Lib.hid hnum
      have Hden := Lib.hid hden
      clear hnum hden
      go_wp2_with fail
      have z0 := HY2.out.cell 0
      have z1 := HY2.out.cell 1
      have z2 := HY2.out.cell 2
      simp at z0 z1 z2
      exact bodyPost_ret (v := .agg #[.int .i64 num, .int .i64 den, .slice (some ⟨G, 0, none⟩) k k]) (by simp [results, Try.results41, go_sem, z0, z1, z2]) rfl ⟨G, by rw [Hnum.out, Hden.out], HO3.out, HB3.out⟩
end Go.Proofs.Ythmnalaeckfaaaa
