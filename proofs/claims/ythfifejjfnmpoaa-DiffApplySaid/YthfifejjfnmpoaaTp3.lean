import Derived.Test.YthfifejjfnmpoaaTp2
namespace Go.Proofs.Ythfifejjfnmpoaa
open Go.RowKit
set_option maxRecDepth 100000 in
set_option maxHeartbeats 3200000 in
theorem eq_any (a b : CT) (w : World) (ha : TM w w.heap.size a) (hb : TM w w.heap.size b) :
    Calls Try.prog 38 #[.agg #[.int .i64 (a).ln, .int .i64 (a).dy, .slice (a).Ad (a).dep.length (a).cd, .slice (a).Aa (a).arr.length (a).ca], .agg #[.int .i64 (b).ln, .int .i64 (b).dy, .slice (b).Ad (b).dep.length (b).cd, .slice (b).Aa (b).arr.length (b).ca]] w fun e w' => e = .returned (.bool (eqT a.pt b.pt)) ∧ Below w.heap.size w w' := by
  have HA := Lib.hid ha
  have HB := Lib.hid hb
  clear ha hb
  have HZ := Lib.hid (show eqT a.pt b.pt = (decide (a.ln = b.ln) && decide (a.dy = b.dy) && decide (a.dep = b.dep) && decide (a.arr = b.arr)) from rfl)
  generalize eqT a.pt b.pt = z at *
  have hsa := HA.out.d.sz
  have hsb := HB.out.d.sz
  have hsa2 := HA.out.a.sz
  have hsb2 := HB.out.a.sz
  go_enter Try.func38, Try.ntmps38
  go_upto_region 1 with fail
  refine world_gen (fun w0 => Below w.heap.size w w0 ∧ Blk w0 w.heap.size 28 #[.int .i64 (a).ln, .int .i64 (a).dy, .slice (a).Ad (a).dep.length (a).cd, .slice (a).Aa (a).arr.length (a).ca] ∧ Blk w0 (w.heap.size + 1) 28 #[.int .i64 (b).ln, .int .i64 (b).dy, .slice (b).Ad (b).dep.length (b).cd, .slice (b).Aa (b).arr.length (b).ca]) ⟨(by repeat (first | exact Below.refl _ _ | (with_reducible refine Below.drew ?_) | (with_reducible refine below_drewN ?_ _) | (with_reducible refine Below.alloc ?_ (by first | omega | (simp; done) | (simp; omega)) _) | (with_reducible refine Below.setCell ?_ (by first | omega | (simp; done) | (simp; omega)) _) | (refine Below.trans ?_ (Below.mono (by with_reducible assumption) (by first | omega | (simp; done) | (simp; omega)))))), (Blk.new w _ _).al _, by simpa using Blk.new (w.alloc _) 28 _⟩ ?_
  rintro w0 ⟨hb0, hx0, hy0⟩
  have HB0 := Lib.hid hb0
  have hxl := hx0.lt
  have hyl := hy0.lt
  have x0 := hx0.cell 0
  have x1 := hx0.cell 1
  have x2 := hx0.cell 2
  have x3 := hx0.cell 3
  have y0 := hy0.cell 0
  have y1 := hy0.cell 1
  have y2 := hy0.cell 2
  have y3 := hy0.cell 3
  simp at x0 x1 x2 x3 y0 y1 y2 y3
  clear hx0 hy0
  clear hb0
  by_cases h1 : a.ln = b.ln
  case neg =>
    have h1' : (a.ln == b.ln) = false := by simpa using h1
    have hz : z = false := by rw [HZ.out, decide_eq_false h1]; simp
    subst hz
    go_wp2_with fail
    go_ret
    exact ⟨rfl, (by have hbelh := HB0.out; have hbels := hbelh.size; exact (by repeat (first | exact Below.refl _ _ | (with_reducible refine Below.drew ?_) | (with_reducible refine below_drewN ?_ _) | (with_reducible refine Below.alloc ?_ (by first | omega | (simp; done) | (simp; omega)) _) | (with_reducible refine Below.setCell ?_ (by first | omega | (simp; done) | (simp; omega)) _) | (refine Below.trans ?_ (Below.mono (by with_reducible assumption) (by first | omega | (simp; done) | (simp; omega)))))))⟩
  have h1' : (a.ln == b.ln) = true := by simpa using h1
  by_cases h2 : a.dy = b.dy
  case neg =>
    have h2' : (a.dy == b.dy) = false := by simpa using h2
    have hz : z = false := by rw [HZ.out, decide_eq_false h2]; simp
    subst hz
    go_wp2_with fail
    go_ret
    exact ⟨rfl, (by have hbelh := HB0.out; have hbels := hbelh.size; exact (by repeat (first | exact Below.refl _ _ | (with_reducible refine Below.drew ?_) | (with_reducible refine below_drewN ?_ _) | (with_reducible refine Below.alloc ?_ (by first | omega | (simp; done) | (simp; omega)) _) | (with_reducible refine Below.setCell ?_ (by first | omega | (simp; done) | (simp; omega)) _) | (refine Below.trans ?_ (Below.mono (by with_reducible assumption) (by first | omega | (simp; done) | (simp; omega)))))))⟩
  have h2' : (a.dy == b.dy) = true := by simpa using h2
  go_wp2_with fail
  refine (eqs_any _ _ _ _ _ _ _ (HA.out.go HB0.out).d.r (HB.out.go HB0.out).d.r (by omega) (by omega)).mono ?_
  rintro e w1 ⟨rfl, hb1⟩
  have HB1 := Lib.hid (HB0.out.trans (hb1.mono HB0.out.size))
  have u3 := cell_bel hb1 x3
  have v3 := cell_bel hb1 y3
  have hxl1 := Nat.lt_of_lt_of_le hxl hb1.size
  have hyl1 := Nat.lt_of_lt_of_le hyl hb1.size
  clear hb1 x0 x1 x2 x3 y0 y1 y2 y3 HB0
  by_cases h3 : a.dep = b.dep
  case neg =>
    have h3' := decide_eq_false h3
    have hz : z = false := by rw [HZ.out, h3']; simp
    subst hz
    generalize decide (a.dep = b.dep) = q at *
    subst h3'
    go_wp2_with fail
    go_ret
    exact ⟨rfl, HB1.out⟩
  have h3' := decide_eq_true h3
  have hz : z = decide (a.arr = b.arr) := by rw [HZ.out, decide_eq_true h1, decide_eq_true h2, h3']; simp
  have HZ2 := Lib.hid hz
  clear HZ hz
  generalize decide (a.dep = b.dep) = q at *
  subst h3'
  go_wp2_with fail
  refine (eqs_any _ _ _ _ _ _ _ (HA.out.go HB1.out).a.r (HB.out.go HB1.out).a.r (by omega) (by omega)).mono ?_
  rintro e w2 ⟨rfl, hb2⟩
  have HB2 := Lib.hid (HB1.out.trans (hb2.mono HB1.out.size))
  rw [← HZ2.out]
  go_wp2_with fail
  go_ret
  exact ⟨rfl, HB2.out⟩
set_option maxRecDepth 100000 in
set_option maxHeartbeats 3200000 in
theorem req_any (a b : CT) (w : World) (ha : TM w w.heap.size a) (hb : TM w w.heap.size b) :
    Calls Try.prog 25 #[.agg #[.int .i64 (a).ln, .int .i64 (a).dy, .slice (a).Ad (a).dep.length (a).cd, .slice (a).Aa (a).arr.length (a).ca], .agg #[.int .i64 (b).ln, .int .i64 (b).dy, .slice (b).Ad (b).dep.length (b).cd, .slice (b).Aa (b).arr.length (b).ca]] w fun e w' => e = .returned (.bool (eqT a.pt b.pt)) ∧ Below w.heap.size w w' := by
  have HA := Lib.hid ha
  have HB := Lib.hid hb
  clear ha hb
  have HZ := Lib.hid (show eqT a.pt b.pt = (decide (a.ln = b.ln) && decide (a.dy = b.dy) && decide (a.dep = b.dep) && decide (a.arr = b.arr)) from rfl)
  generalize eqT a.pt b.pt = z at *
  have hsa := HA.out.d.sz
  have hsb := HB.out.d.sz
  have hsa2 := HA.out.a.sz
  have hsb2 := HB.out.a.sz
  go_enter Try.func25, Try.ntmps25
  go_upto_region 1 with fail
  refine world_gen (fun w0 => Below w.heap.size w w0 ∧ Blk w0 w.heap.size 28 #[.int .i64 (a).ln, .int .i64 (a).dy, .slice (a).Ad (a).dep.length (a).cd, .slice (a).Aa (a).arr.length (a).ca] ∧ Blk w0 (w.heap.size + 1) 28 #[.int .i64 (b).ln, .int .i64 (b).dy, .slice (b).Ad (b).dep.length (b).cd, .slice (b).Aa (b).arr.length (b).ca]) ⟨(by repeat (first | exact Below.refl _ _ | (with_reducible refine Below.drew ?_) | (with_reducible refine below_drewN ?_ _) | (with_reducible refine Below.alloc ?_ (by first | omega | (simp; done) | (simp; omega)) _) | (with_reducible refine Below.setCell ?_ (by first | omega | (simp; done) | (simp; omega)) _) | (refine Below.trans ?_ (Below.mono (by with_reducible assumption) (by first | omega | (simp; done) | (simp; omega)))))), (Blk.new w _ _).al _, by simpa using Blk.new (w.alloc _) 28 _⟩ ?_
  rintro w0 ⟨hb0, hx0, hy0⟩
  have HB0 := Lib.hid hb0
  have hxl := hx0.lt
  have hyl := hy0.lt
  have x0 := hx0.cell 0
  have x1 := hx0.cell 1
  have x2 := hx0.cell 2
  have x3 := hx0.cell 3
  have y0 := hy0.cell 0
  have y1 := hy0.cell 1
  have y2 := hy0.cell 2
  have y3 := hy0.cell 3
  simp at x0 x1 x2 x3 y0 y1 y2 y3
  clear hx0 hy0
  clear hb0
  by_cases h1 : a.ln = b.ln
  case neg =>
    have h1' : (a.ln == b.ln) = false := by simpa using h1
    have hz : z = false := by rw [HZ.out, decide_eq_false h1]; simp
    subst hz
    go_wp2_with fail
    go_ret
    exact ⟨rfl, (by have hbelh := HB0.out; have hbels := hbelh.size; exact (by repeat (first | exact Below.refl _ _ | (with_reducible refine Below.drew ?_) | (with_reducible refine below_drewN ?_ _) | (with_reducible refine Below.alloc ?_ (by first | omega | (simp; done) | (simp; omega)) _) | (with_reducible refine Below.setCell ?_ (by first | omega | (simp; done) | (simp; omega)) _) | (refine Below.trans ?_ (Below.mono (by with_reducible assumption) (by first | omega | (simp; done) | (simp; omega)))))))⟩
  have h1' : (a.ln == b.ln) = true := by simpa using h1
  by_cases h2 : a.dy = b.dy
  case neg =>
    have h2' : (a.dy == b.dy) = false := by simpa using h2
    have hz : z = false := by rw [HZ.out, decide_eq_false h2]; simp
    subst hz
    go_wp2_with fail
    go_ret
    exact ⟨rfl, (by have hbelh := HB0.out; have hbels := hbelh.size; exact (by repeat (first | exact Below.refl _ _ | (with_reducible refine Below.drew ?_) | (with_reducible refine below_drewN ?_ _) | (with_reducible refine Below.alloc ?_ (by first | omega | (simp; done) | (simp; omega)) _) | (with_reducible refine Below.setCell ?_ (by first | omega | (simp; done) | (simp; omega)) _) | (refine Below.trans ?_ (Below.mono (by with_reducible assumption) (by first | omega | (simp; done) | (simp; omega)))))))⟩
  have h2' : (a.dy == b.dy) = true := by simpa using h2
  go_wp2_with fail
  refine (eqr_any _ _ _ _ _ _ _ (HA.out.go HB0.out).d.r (HB.out.go HB0.out).d.r (by omega) (by omega)).mono ?_
  rintro e w1 ⟨rfl, hb1⟩
  have HB1 := Lib.hid (HB0.out.trans (hb1.mono HB0.out.size))
  have u3 := cell_bel hb1 x3
  have v3 := cell_bel hb1 y3
  have hxl1 := Nat.lt_of_lt_of_le hxl hb1.size
  have hyl1 := Nat.lt_of_lt_of_le hyl hb1.size
  clear hb1 x0 x1 x2 x3 y0 y1 y2 y3 HB0
  by_cases h3 : a.dep = b.dep
  case neg =>
    have h3' := decide_eq_false h3
    have hz : z = false := by rw [HZ.out, h3']; simp
    subst hz
    generalize decide (a.dep = b.dep) = q at *
    subst h3'
    go_wp2_with fail
    go_ret
    exact ⟨rfl, HB1.out⟩
  have h3' := decide_eq_true h3
  have hz : z = decide (a.arr = b.arr) := by rw [HZ.out, decide_eq_true h1, decide_eq_true h2, h3']; simp
  have HZ2 := Lib.hid hz
  clear HZ hz
  generalize decide (a.dep = b.dep) = q at *
  subst h3'
  go_wp2_with fail
  refine (eqr_any _ _ _ _ _ _ _ (HA.out.go HB1.out).a.r (HB.out.go HB1.out).a.r (by omega) (by omega)).mono ?_
  rintro e w2 ⟨rfl, hb2⟩
  have HB2 := Lib.hid (HB1.out.trans (hb2.mono HB1.out.size))
  rw [← HZ2.out]
  go_wp2_with fail
  go_ret
  exact ⟨rfl, HB2.out⟩
end Go.Proofs.Ythfifejjfnmpoaa
