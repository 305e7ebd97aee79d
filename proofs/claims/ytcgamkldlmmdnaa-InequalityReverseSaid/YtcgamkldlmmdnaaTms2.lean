import Derived.Test.YtcgamkldlmmdnaaTms
namespace Go.Proofs.Ytcgamkldlmmdnaa
open Go.RowKit

set_option maxRecDepth 100000 in
set_option maxHeartbeats 3200000 in
theorem list_any (A : Option Addr) (n c m : Nat) (most : Int) (z : List Int) (w : World) (h : Rd w w.heap.size 1 A n (z.map (Value.int .i64))) (hn : n ≤ maxLen) (hm0 : 0 ≤ most) (hm1 : most ≤ 100000) (hne : m ≤ 512) :
    Calls Try.prog 24 #[.slice A n c, .int .i64 (m : Int), .int .i64 most] w (IntsOut w m (most + 1)) := by
  have H := Lib.hid h
  have Hn := Lib.hid hn
  clear h hn
  obtain ⟨i0, a1, a2, a3, a4⟩ := info_parts infoInt
  have HI := Lib.hid (And.intro a1 (And.intro a2 (And.intro a3 a4)))
  clear a1 a2 a3 a4
  go_enter Try.func24, Try.ntmps24
  go_wp2_with fail
  refine (from_any A n c z w H.out Hn.out).mono ?_
  rintro e w1 ⟨rfl, hs1, hb1, hz1⟩
  have Hb1 := Lib.hid hb1
  have Hs1 := Lib.hid hs1
  obtain ⟨b, hb⟩ : ∃ b, b = w.heap.size := ⟨_, rfl⟩
  rw [← hb] at ⊢
  rw [show Src w1 w.heap.size = Src w1 b by rw [hb]] at Hs1
  have hbw : w.heap.size ≤ b := by omega
  have hz : w1.heap.size = b + 1 := by omega
  clear hs1 hb1 hz1 hb
  go_upto_region 3 with (at_make; refine wpList_make_full _ rfl _ _ 22 rfl (b + 1) 3 i0 _ 1 Try.underlying22 HI.out.1 HI.out.2.1 HI.out.2.2.1 .i64 .i64 _ _ m rfl rfl rfl rfl ?m1 ?m2 ?m3 ?_; rotate_right; intro w2 hown2 hg2)
  case m1 => rw [HI.out.2.2.2]; omega
  case m2 => simp only [maxLen]; omega
  case m3 => omega
  have HL0 := Lib.hid (LsS.made (hi := most + 1) Hb1.out Hs1.out hbw hz (by omega) hown2 hg2)
  try rw [hz]
  clear hown2 hg2 Hs1 Hb1 H Hn hz
  go_wp2_with fail
  go_loopg [9, 16] m (fun k _ v wr => LsL w b (b + 1) m (most + 1) k v wr)
  case atStart => exact ⟨0, _, _, rfl, by omega, HL0.out⟩
  case round =>
    obtain ⟨j, l, zs, rfl, hj, hls⟩ := hrel
    clear HL0
    have Hj := Lib.hid hj
    have HL := Lib.hid hls
    clear hj hls
    by_cases hlt : j < m
    · go_upto_region 6 with fail
      go_wp2_with fail
      refine (next_any b l (most + 1) wr HL.out.src (by omega) (by omega)).mono ?_
      rintro e w5 ⟨rfl, hs2, ht2⟩
      have HL5 := Lib.hid (HL.out.turn hs2 ht2)
      have hk := nextV_bd l (most + 1) (by omega) (by omega)
      generalize nextV l (most + 1) = q at *
      obtain ⟨hq0, hq1⟩ := hk
      clear hs2 ht2 HL
      have hzl : zs.length = m := (own1_len HL5.out.own).symm
      have q0 := own1 HL5.out.own j (by omega)
      have q1 := HL5.out.own.frozenAt j
      have HL6 := Lib.hid (HL5.out.set j q hq0 hq1)
      go_wp2_with fail
      go_roundg (m - j - 1)
      case measure => have := Hj.out; omega
      case rel => exact ⟨j + 1, _, _, by first | rfl | go_num, by omega, HL6.out⟩
    · have Hzl := Lib.hid (own1_len HL.out.own).symm
      go_wp2_with fail
      go_ret
      exact ⟨_, m, zs, by rw [Hzl.out]; rfl, Hzl.out, HL.out.rg, by rw [Hzl.out]; exact Rd.of_own HL.out.own, HL.out.bel⟩

/-- times that the reference takes for good -/
def TmOk (T : Int) (ne : Nat) (x : List Int) : Prop := x.length = ne ∧ ∀ t ∈ x, 0 ≤ t ∧ t < T
theorem TmOk.get {T : Int} {ne : Nat} {x : List Int} (h : TmOk T ne x) (i : Int) (h0 : 0 ≤ i) (h1 : i < ne) : 0 ≤ gi x i ∧ gi x i < T := by
  obtain ⟨i, rfl⟩ := Int.eq_ofNat_of_zero_le h0
  rw [gi_nat x i (by rw [h.1]; omega)]
  exact h.2 _ (List.getElem_mem _)

set_option maxRecDepth 100000 in
set_option maxHeartbeats 1600000 in
theorem lasts_any (T : Int) (AE AA At : Option Addr) (ne ce na ca ct : Nat) (x : List Int) (a : Act) (w : World) (hX : Rd w w.heap.size 1 At x.length (x.map (Value.int .i64))) (hx : TmOk T ne x) (ha : ActOk T ne a) (ht0 : 2 ≤ T) (ht1 : T ≤ 7200) :
    Calls Try.prog 37 #[.agg #[.int .i64 T, .slice AE ne ce, .slice AA na ca], .slice At x.length ct, .agg #[.int .i64 a.kd, .int .i64 a.fr, .int .i64 a.tt, .int .i64 a.mn, .int .i64 a.mx, .int .i64 a.wt]] w fun e w' => e = .returned (.int .i64 (a.mn + slk1 T x a)) ∧ Below w.heap.size w w' := by
  have HXr := Lib.hid hX
  have hg1 := hx.get a.fr ha.f0 ha.f1
  have hg2 := hx.get a.tt ha.t0 ha.t1
  have hf0 := ha.f0
  have hf1 := ha.f1
  have htt0 := ha.t0
  have htt1 := ha.t1
  have hm0 := ha.m0
  have hm1 := ha.mm
  have hm2 := ha.m1
  have hsl := slk1_bd (x := x) ht0 a
  have Hsl := Lib.hid (show slk1 T x a = (gi x a.tt - gi x a.fr - a.mn) % T from rfl)
  have hxl := hx.1
  clear hX hx ha
  obtain ⟨kd, fr, tt, mn, mx, wt⟩ := a
  simp only at hg1 hg2 hf0 hf1 htt0 htt1 hm0 hm1 hm2 Hsl ⊢
  obtain ⟨f, rfl⟩ := Int.eq_ofNat_of_zero_le hf0
  obtain ⟨t, rfl⟩ := Int.eq_ofNat_of_zero_le htt0
  have hfl : f < x.length := by omega
  have htl : t < x.length := by omega
  rw [gi_nat x f hfl] at hg1 Hsl
  rw [gi_nat x t htl] at hg2 Hsl
  go_enter Try.func37, Try.ntmps37
  go_upto_region 1 with fail
  refine world_gen (fun w1 => Below w.heap.size w w1 ∧ Blk w1 w.heap.size 26 #[.int .i64 T, .slice AE ne ce, .slice AA na ca] ∧ Blk w1 (w.heap.size + 1) 62 #[.int .i64 kd, .int .i64 (f : Int), .int .i64 (t : Int), .int .i64 mn, .int .i64 mx, .int .i64 wt]) ⟨(by repeat (first | exact Below.refl _ _ | (with_reducible refine Below.drew ?_) | (with_reducible refine below_drewN ?_ _) | (with_reducible refine Below.alloc ?_ (by first | omega | (simp; done) | (simp; omega)) _) | (with_reducible refine Below.setCell ?_ (by first | omega | (simp; done) | (simp; omega)) _) | (refine Below.trans ?_ (Below.mono (by with_reducible assumption) (by first | omega | (simp; done) | (simp; omega)))))), (Blk.new _ _ _).al _, by have := Blk.new (w.alloc (.cells #[.int .i64 T, .slice AE ne ce, .slice AA na ca] 26)) 62 #[.int .i64 kd, .int .i64 (f : Int), .int .i64 (t : Int), .int .i64 mn, .int .i64 mx, .int .i64 wt]; simpa using this⟩ ?_
  rintro w1 ⟨hb1, hx1, hy1⟩
  have Hb1 := Lib.hid hb1
  have x0 := hx1.cell 0
  have y1 := hy1.cell 1
  have y2 := hy1.cell 2
  have y3 := hy1.cell 3
  simp at x0 y1 y2 y3
  obtain ⟨bt, ot, rfl, hbt, q1⟩ := rd1 (HXr.out.grow Hb1.out) f hfl
  obtain ⟨bt', ot', e1, _, q2⟩ := rd1 (HXr.out.grow Hb1.out) t htl
  injection e1 with e1
  injection e1 with e1 e2
  subst e1 e2
  have hxl := hx1.lt
  have hyl := hy1.lt
  clear hb1 hx1 hy1
  generalize x[f] = xf at *
  generalize x[t] = xt at *
  rw [Hsl.out] at hsl
  have e1 : IntKind.i64.wrap (xt - xf) = xt - xf := IntWalk.i64_in _ (by omega)
  have e2 : IntKind.i64.wrap (xt - xf - mn) = xt - xf - mn := IntWalk.i64_in _ (by omega)
  have e3 : IntKind.i64.wrap (mn + (xt - xf - mn) % T) = mn + (xt - xf - mn) % T := IntWalk.i64_in _ (by omega)
  go_quiet ((go_at_call 58; exact Calls.quiet_of_same ((rmod_any _ _ _ (by omega) (by omega)).mono fun _ _ h => ⟨h.1, h.2.symm⟩)))
  go_wp2_with fail
  go_ret
  exact ⟨by rw [Hsl.out]; rfl, (by have hbelh := Hb1.out; have hbels := hbelh.size; exact (by repeat (first | exact Below.refl _ _ | (with_reducible refine Below.drew ?_) | (with_reducible refine below_drewN ?_ _) | (with_reducible refine Below.alloc ?_ (by first | omega | (simp; done) | (simp; omega)) _) | (with_reducible refine Below.setCell ?_ (by first | omega | (simp; done) | (simp; omega)) _) | (refine Below.trans ?_ (Below.mono (by with_reducible assumption) (by first | omega | (simp; done) | (simp; omega)))))))⟩
end Go.Proofs.Ytcgamkldlmmdnaa
