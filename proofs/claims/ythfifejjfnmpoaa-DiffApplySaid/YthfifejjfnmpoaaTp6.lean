import Derived.Test.YthfifejjfnmpoaaTp5
namespace Go.Proofs.Ythfifejjfnmpoaa
open Go.RowKit
set_option maxRecDepth 100000 in
set_option maxHeartbeats 3200000 in
theorem ord_any (a b : CT) (w : World) (ha : TM w w.heap.size a) (hb : TM w w.heap.size b) (ha1 : 1 ≤ a.dep.length) (hb1 : 1 ≤ b.dep.length) :
    Calls Try.prog 36 #[.agg #[.int .i64 (a).ln, .int .i64 (a).dy, .slice (a).Ad (a).dep.length (a).cd, .slice (a).Aa (a).arr.length (a).ca], .agg #[.int .i64 (b).ln, .int .i64 (b).dy, .slice (b).Ad (b).dep.length (b).cd, .slice (b).Aa (b).arr.length (b).ca]] w fun e w' => e = .returned (.int .i64 (cmpV a.pt b.pt)) ∧ Below w.heap.size w w' := by
  obtain ⟨ba, oa, ea, hba, ca0⟩ := ha.k0 ha1
  obtain ⟨bb, ob, eb, hbb, cb0⟩ := hb.k0 hb1
  have sa := ha.d.sz
  have sb := hb.d.sz
  clear ha hb
  have HR := Lib.hid (cmpV_or a.pt b.pt)
  have e1 : a.pt.ln = a.ln := rfl
  have e2 : b.pt.ln = b.ln := rfl
  rw [e1, e2] at HR
  clear e1 e2
  generalize cmpV a.pt b.pt = z at *
  generalize k1 a.pt = ka at *
  generalize k1 b.pt = kb at *
  obtain ⟨ln, dy, Ad, cd, Aa, ca, dep, arr⟩ := a
  obtain ⟨ln', dy', Ad', cd', Aa', ca', dep', arr'⟩ := b
  simp only at ea eb ha1 hb1 sa sb HR
  subst ea eb
  go_enter Try.func36, Try.ntmps36
  go_upto_region 1 with fail
  refine world_gen (fun w0 => Below w.heap.size w w0 ∧ Blk w0 w.heap.size 28 #[.int .i64 (CT.mk ln dy (some ⟨ba, oa, none⟩) cd Aa ca dep arr).ln, .int .i64 (CT.mk ln dy (some ⟨ba, oa, none⟩) cd Aa ca dep arr).dy, .slice (CT.mk ln dy (some ⟨ba, oa, none⟩) cd Aa ca dep arr).Ad (CT.mk ln dy (some ⟨ba, oa, none⟩) cd Aa ca dep arr).dep.length (CT.mk ln dy (some ⟨ba, oa, none⟩) cd Aa ca dep arr).cd, .slice (CT.mk ln dy (some ⟨ba, oa, none⟩) cd Aa ca dep arr).Aa (CT.mk ln dy (some ⟨ba, oa, none⟩) cd Aa ca dep arr).arr.length (CT.mk ln dy (some ⟨ba, oa, none⟩) cd Aa ca dep arr).ca] ∧ Blk w0 (w.heap.size + 1) 28 #[.int .i64 (CT.mk ln' dy' (some ⟨bb, ob, none⟩) cd' Aa' ca' dep' arr').ln, .int .i64 (CT.mk ln' dy' (some ⟨bb, ob, none⟩) cd' Aa' ca' dep' arr').dy, .slice (CT.mk ln' dy' (some ⟨bb, ob, none⟩) cd' Aa' ca' dep' arr').Ad (CT.mk ln' dy' (some ⟨bb, ob, none⟩) cd' Aa' ca' dep' arr').dep.length (CT.mk ln' dy' (some ⟨bb, ob, none⟩) cd' Aa' ca' dep' arr').cd, .slice (CT.mk ln' dy' (some ⟨bb, ob, none⟩) cd' Aa' ca' dep' arr').Aa (CT.mk ln' dy' (some ⟨bb, ob, none⟩) cd' Aa' ca' dep' arr').arr.length (CT.mk ln' dy' (some ⟨bb, ob, none⟩) cd' Aa' ca' dep' arr').ca]) ⟨(by repeat (first | exact Below.refl _ _ | (with_reducible refine Below.drew ?_) | (with_reducible refine below_drewN ?_ _) | (with_reducible refine Below.alloc ?_ (by first | omega | (simp; done) | (simp; omega)) _) | (with_reducible refine Below.setCell ?_ (by first | omega | (simp; done) | (simp; omega)) _) | (refine Below.trans ?_ (Below.mono (by with_reducible assumption) (by first | omega | (simp; done) | (simp; omega)))))), (Blk.new w _ _).al _, by simpa using Blk.new (w.alloc _) 28 _⟩ ?_
  rintro w0 ⟨hb0, hx0, hy0⟩
  have HB0 := Lib.hid hb0
  have hxl := hx0.lt
  have hyl := hy0.lt
  have x0 := hx0.cell 0
  have x1 := hx0.cell 1
  have x2 := hx0.cell 2
  have x3 := hx0.cell 3
  have y0 := hy0.cell 0
  have y1 := hy0.cell 1
  have y2 := hy0.cell 2
  have y3 := hy0.cell 3
  simp at x0 x1 x2 x3 y0 y1 y2 y3
  clear hx0 hy0
  have p0 := cell_bel hb0 ca0
  have p1 := cell_bel hb0 cb0
  have hpl := Nat.lt_of_lt_of_le hba hb0.size
  have hql := Nat.lt_of_lt_of_le hbb hb0.size
  clear hb0 ca0 cb0
  rcases Int.lt_trichotomy ka kb with h | h | h
  · have h1 : decide (ka < kb) = true := by simpa using h
    have hz : z = -1 := by rw [← HR.out]; simp [orV, cmpI, h]
    subst hz
    clear HR
    refine wp_region_overL (by kernel_rfl) (by kernel_rfl) ?_
    repeat (go_big_quiet_step (fail))
    refine wpQuiet_nil ?_
    intro w1 hb1
    have HB1 := Lib.hid (HB0.out.trans (hb1.mono HB0.out.size))
    clear hb1
    go_wp2_with fail
    go_ret
    exact ⟨rfl, HB1.out⟩
  · subst h
    have h1 : decide (ka < ka) = false := by simp
    have h2 : (ka == ka) = true := by simp
    rcases Int.lt_trichotomy ln ln' with g | g | g
    · have g1 : decide (ln < ln') = true := by simpa using g
      have hz : z = -1 := by rw [← HR.out]; simp [orV, cmpI, g]
      subst hz
      clear HR
      refine wp_region_overL (by kernel_rfl) (by kernel_rfl) ?_
      repeat (go_big_quiet_step (fail))
      refine wpQuiet_nil ?_
      intro w1 hb1
      have HB1 := Lib.hid (HB0.out.trans (hb1.mono HB0.out.size))
      clear hb1
      go_wp2_with fail
      go_ret
      exact ⟨rfl, HB1.out⟩
    · subst g
      have g1 : decide (ln < ln) = false := by simp
      have g2 : (ln == ln) = true := by simp
      have hz : z = 0 := by rw [← HR.out]; simp [orV, cmpI]
      subst hz
      clear HR
      refine wp_region_overL (by kernel_rfl) (by kernel_rfl) ?_
      repeat (go_big_quiet_step (fail))
      refine wpQuiet_nil ?_
      intro w1 hb1
      have HB1 := Lib.hid (HB0.out.trans (hb1.mono HB0.out.size))
      replace x0 := cell_bel hb1 x0
      replace x2 := cell_bel hb1 x2
      replace y0 := cell_bel hb1 y0
      replace y2 := cell_bel hb1 y2
      replace p0 := cell_bel hb1 p0
      replace p1 := cell_bel hb1 p1
      replace hpl := Nat.lt_of_lt_of_le hpl (hb1).size
      replace hql := Nat.lt_of_lt_of_le hql (hb1).size
      replace hxl := Nat.lt_of_lt_of_le hxl (hb1).size
      replace hyl := Nat.lt_of_lt_of_le hyl (hb1).size
      clear x1 x3 y1 y3 hb1
      go_upto_region 3 with fail
      refine wp_region_overL (by kernel_rfl) (by kernel_rfl) ?_
      repeat (go_big_quiet_step (fail))
      refine wpQuiet_nil ?_
      intro w2 hb2
      have HB2 := Lib.hid (HB1.out.trans (hb2.mono HB1.out.size))
      go_wp2_with fail
      go_ret
      exact ⟨rfl, HB2.out⟩
    · have g1 : decide (ln < ln') = false := by simp; omega
      have g2 : (ln == ln') = false := by simp; omega
      have hz : z = 1 := by rw [← HR.out]; simp [orV, cmpI, g, show ¬ ln < ln' by omega]
      subst hz
      clear HR
      refine wp_region_overL (by kernel_rfl) (by kernel_rfl) ?_
      repeat (go_big_quiet_step (fail))
      refine wpQuiet_nil ?_
      intro w1 hb1
      have HB1 := Lib.hid (HB0.out.trans (hb1.mono HB0.out.size))
      replace x0 := cell_bel hb1 x0
      replace x2 := cell_bel hb1 x2
      replace y0 := cell_bel hb1 y0
      replace y2 := cell_bel hb1 y2
      replace p0 := cell_bel hb1 p0
      replace p1 := cell_bel hb1 p1
      replace hpl := Nat.lt_of_lt_of_le hpl (hb1).size
      replace hql := Nat.lt_of_lt_of_le hql (hb1).size
      replace hxl := Nat.lt_of_lt_of_le hxl (hb1).size
      replace hyl := Nat.lt_of_lt_of_le hyl (hb1).size
      clear x1 x3 y1 y3 hb1
      go_upto_region 3 with fail
      refine wp_region_overL (by kernel_rfl) (by kernel_rfl) ?_
      repeat (go_big_quiet_step (fail))
      refine wpQuiet_nil ?_
      intro w2 hb2
      have HB2 := Lib.hid (HB1.out.trans (hb2.mono HB1.out.size))
      go_wp2_with fail
      go_ret
      exact ⟨rfl, HB2.out⟩
  · have h1 : decide (ka < kb) = false := by simp; omega
    have h2 : (ka == kb) = false := by simp; omega
    have hz : z = 1 := by rw [← HR.out]; simp [orV, cmpI, h, show ¬ ka < kb by omega]
    subst hz
    clear HR
    refine wp_region_overL (by kernel_rfl) (by kernel_rfl) ?_
    repeat (go_big_quiet_step (fail))
    refine wpQuiet_nil ?_
    intro w1 hb1
    have HB1 := Lib.hid (HB0.out.trans (hb1.mono HB0.out.size))
    replace x0 := cell_bel hb1 x0
    replace x2 := cell_bel hb1 x2
    replace y0 := cell_bel hb1 y0
    replace y2 := cell_bel hb1 y2
    replace p0 := cell_bel hb1 p0
    replace p1 := cell_bel hb1 p1
    replace hpl := Nat.lt_of_lt_of_le hpl (hb1).size
    replace hql := Nat.lt_of_lt_of_le hql (hb1).size
    replace hxl := Nat.lt_of_lt_of_le hxl (hb1).size
    replace hyl := Nat.lt_of_lt_of_le hyl (hb1).size
    clear x1 x3 y1 y3 hb1
    go_upto_region 3 with fail
    refine wp_region_overL (by kernel_rfl) (by kernel_rfl) ?_
    repeat (go_big_quiet_step (fail))
    refine wpQuiet_nil ?_
    intro w2 hb2
    have HB2 := Lib.hid (HB1.out.trans (hb2.mono HB1.out.size))
    go_wp2_with fail
    go_ret
    exact ⟨rfl, HB2.out⟩
end Go.Proofs.Ythfifejjfnmpoaa
