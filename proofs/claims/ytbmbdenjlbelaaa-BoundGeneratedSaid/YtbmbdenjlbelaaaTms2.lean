import Derived.Test.YtbmbdenjlbelaaaTms
namespace Go.Proofs.Ytbmbdenjlbelaaa
open Go.RowKit

/-- times that the reference takes for good -/
def TmOk (T : Int) (ne : Nat) (x : List Int) : Prop := x.length = ne ∧ ∀ t ∈ x, 0 ≤ t ∧ t < T
theorem TmOk.get {T : Int} {ne : Nat} {x : List Int} (h : TmOk T ne x) (i : Int) (h0 : 0 ≤ i) (h1 : i < ne) : 0 ≤ gi x i ∧ gi x i < T := by
  obtain ⟨i, rfl⟩ := Int.eq_ofNat_of_zero_le h0
  rw [gi_nat x i (by rw [h.1]; omega)]
  exact h.2 _ (List.getElem_mem _)

set_option maxRecDepth 100000 in
set_option maxHeartbeats 1600000 in
theorem lasts_any (T : Int) (AE AA At : Option Addr) (ne ce na ca ct : Nat) (x : List Int) (a : Act) (w : World) (hX : Rd w w.heap.size 1 At x.length (x.map (Value.int .i64))) (hx : TmOk T ne x) (ha : ActOk T ne a) (ht0 : 2 ≤ T) (ht1 : T ≤ 7200) :
    Calls Try.prog 37 #[.agg #[.int .i64 T, .slice AE ne ce, .slice AA na ca], .slice At x.length ct, .agg #[.int .i64 a.kd, .int .i64 a.fr, .int .i64 a.tt, .int .i64 a.mn, .int .i64 a.mx, .int .i64 a.wt]] w fun e w' => e = .returned (.int .i64 (a.mn + slk1 T x a)) ∧ Below w.heap.size w w' := by
  have HXr := Lib.hid hX
  have hg1 := hx.get a.fr ha.f0 ha.f1
  have hg2 := hx.get a.tt ha.t0 ha.t1
  have hf0 := ha.f0
  have hf1 := ha.f1
  have htt0 := ha.t0
  have htt1 := ha.t1
  have hm0 := ha.m0
  have hm1 := ha.mm
  have hm2 := ha.m1
  have hsl := slk1_bd (x := x) ht0 a
  have Hsl := Lib.hid (show slk1 T x a = (gi x a.tt - gi x a.fr - a.mn) % T from rfl)
  have hxl := hx.1
  clear hX hx ha
  obtain ⟨kd, fr, tt, mn, mx, wt⟩ := a
  simp only at hg1 hg2 hf0 hf1 htt0 htt1 hm0 hm1 hm2 Hsl ⊢
  obtain ⟨f, rfl⟩ := Int.eq_ofNat_of_zero_le hf0
  obtain ⟨t, rfl⟩ := Int.eq_ofNat_of_zero_le htt0
  have hfl : f < x.length := by omega
  have htl : t < x.length := by omega
  rw [gi_nat x f hfl] at hg1 Hsl
  rw [gi_nat x t htl] at hg2 Hsl
  go_enter Try.func37, Try.ntmps37
  go_upto_region 1 with fail
  refine world_gen (fun w1 => Below w.heap.size w w1 ∧ Blk w1 w.heap.size 26 #[.int .i64 T, .slice AE ne ce, .slice AA na ca] ∧ Blk w1 (w.heap.size + 1) 61 #[.int .i64 kd, .int .i64 (f : Int), .int .i64 (t : Int), .int .i64 mn, .int .i64 mx, .int .i64 wt]) ⟨(by repeat (first | exact Below.refl _ _ | (with_reducible refine Below.drew ?_) | (with_reducible refine below_drewN ?_ _) | (with_reducible refine Below.alloc ?_ (by first | omega | (simp; done) | (simp; omega)) _) | (with_reducible refine Below.setCell ?_ (by first | omega | (simp; done) | (simp; omega)) _) | (refine Below.trans ?_ (Below.mono (by with_reducible assumption) (by first | omega | (simp; done) | (simp; omega)))))), (Blk.new _ _ _).al _, by have := Blk.new (w.alloc (.cells #[.int .i64 T, .slice AE ne ce, .slice AA na ca] 26)) 61 #[.int .i64 kd, .int .i64 (f : Int), .int .i64 (t : Int), .int .i64 mn, .int .i64 mx, .int .i64 wt]; simpa using this⟩ ?_
  rintro w1 ⟨hb1, hx1, hy1⟩
  have Hb1 := Lib.hid hb1
  have x0 := hx1.cell 0
  have y1 := hy1.cell 1
  have y2 := hy1.cell 2
  have y3 := hy1.cell 3
  simp at x0 y1 y2 y3
  obtain ⟨bt, ot, rfl, hbt, q1⟩ := rd1 (HXr.out.grow Hb1.out) f hfl
  obtain ⟨bt', ot', e1, _, q2⟩ := rd1 (HXr.out.grow Hb1.out) t htl
  injection e1 with e1
  injection e1 with e1 e2
  subst e1 e2
  have hxl := hx1.lt
  have hyl := hy1.lt
  clear hb1 hx1 hy1
  generalize x[f] = xf at *
  generalize x[t] = xt at *
  rw [Hsl.out] at hsl
  have e1 : IntKind.i64.wrap (xt - xf) = xt - xf := IntWalk.i64_in _ (by omega)
  have e2 : IntKind.i64.wrap (xt - xf - mn) = xt - xf - mn := IntWalk.i64_in _ (by omega)
  have e3 : IntKind.i64.wrap (mn + (xt - xf - mn) % T) = mn + (xt - xf - mn) % T := IntWalk.i64_in _ (by omega)
  go_quiet ((go_at_call 52; exact Calls.quiet_of_same ((rmod_any _ _ _ (by omega) (by omega)).mono fun _ _ h => ⟨h.1, h.2.symm⟩)))
  go_wp2_with fail
  go_ret
  exact ⟨by rw [Hsl.out]; rfl, (by have hbelh := Hb1.out; have hbels := hbelh.size; exact (by repeat (first | exact Below.refl _ _ | (with_reducible refine Below.drew ?_) | (with_reducible refine below_drewN ?_ _) | (with_reducible refine Below.alloc ?_ (by first | omega | (simp; done) | (simp; omega)) _) | (with_reducible refine Below.setCell ?_ (by first | omega | (simp; done) | (simp; omega)) _) | (refine Below.trans ?_ (Below.mono (by with_reducible assumption) (by first | omega | (simp; done) | (simp; omega)))))))⟩
end Go.Proofs.Ytbmbdenjlbelaaa
