import Derived.Test.YthfifejjfnmpoaaTp3
namespace Go.Proofs.Ythfifejjfnmpoaa
open Go.RowKit
theorem okT_iff {t : PT} : okT t = true ↔ 0 ≤ t.ln ∧ 0 ≤ t.dy ∧ t.dep.length = t.arr.length ∧ 1 ≤ t.dep.length ∧ t.dep.length ≤ 12 ∧ 0 ≤ k1 t := by
  simp only [okT, Bool.and_eq_true, decide_eq_true_eq]
  omega
set_option maxRecDepth 100000 in
set_option maxHeartbeats 3200000 in
theorem ist_any (t : CT) (w : World) (h : TM w w.heap.size t) :
    Calls Try.prog 33 #[.agg #[.int .i64 (t).ln, .int .i64 (t).dy, .slice (t).Ad (t).dep.length (t).cd, .slice (t).Aa (t).arr.length (t).ca]] w fun e w' => e = .returned (.bool (okT t.pt)) ∧ Below w.heap.size w w' := by
  have H := Lib.hid h
  have HZ := Lib.hid (show okT t.pt = true ↔ _ from okT_iff (t := t.pt))
  have e1 : t.pt.ln = t.ln := rfl
  have e2 : t.pt.dy = t.dy := rfl
  have e3 : t.pt.dep = t.dep := rfl
  have e4 : t.pt.arr = t.arr := rfl
  rw [e1, e2, e3, e4] at HZ
  clear e1 e2 e3 e4
  generalize okT t.pt = z at *
  have hsa := H.out.d.sz
  have hsb := H.out.a.sz
  have HK := Lib.hid h.k0
  clear h
  generalize k1 t.pt = kk at *
  obtain ⟨ln, dy, Ad, cd, Aa, ca, dep, arr⟩ := t
  simp only at HZ hsa hsb HK
  go_enter Try.func33, Try.ntmps33
  go_upto_region 1 with fail
  refine world_gen (fun w0 => Below w.heap.size w w0 ∧ Blk w0 w.heap.size 28 #[.int .i64 (CT.mk ln dy Ad cd Aa ca dep arr).ln, .int .i64 (CT.mk ln dy Ad cd Aa ca dep arr).dy, .slice (CT.mk ln dy Ad cd Aa ca dep arr).Ad (CT.mk ln dy Ad cd Aa ca dep arr).dep.length (CT.mk ln dy Ad cd Aa ca dep arr).cd, .slice (CT.mk ln dy Ad cd Aa ca dep arr).Aa (CT.mk ln dy Ad cd Aa ca dep arr).arr.length (CT.mk ln dy Ad cd Aa ca dep arr).ca]) ⟨(by repeat (first | exact Below.refl _ _ | (with_reducible refine Below.drew ?_) | (with_reducible refine below_drewN ?_ _) | (with_reducible refine Below.alloc ?_ (by first | omega | (simp; done) | (simp; omega)) _) | (with_reducible refine Below.setCell ?_ (by first | omega | (simp; done) | (simp; omega)) _) | (refine Below.trans ?_ (Below.mono (by with_reducible assumption) (by first | omega | (simp; done) | (simp; omega)))))), Blk.new w _ _⟩ ?_
  rintro w0 ⟨hb0, hx0⟩
  have HB0 := Lib.hid hb0
  have hxl := hx0.lt
  have x0 := hx0.cell 0
  have x1 := hx0.cell 1
  have x2 := hx0.cell 2
  have x3 := hx0.cell 3
  simp at x0 x1 x2 x3
  by_cases g1 : ln < 0
  case pos =>
    have hz : z = false := Bool.eq_false_iff.2 (fun h => by have := HZ.out.1 h; omega)
    subst hz
    go_wp2_with fail
    go_ret
    exact ⟨rfl, (by have hbelh := HB0.out; have hbels := hbelh.size; exact (by repeat (first | exact Below.refl _ _ | (with_reducible refine Below.drew ?_) | (with_reducible refine below_drewN ?_ _) | (with_reducible refine Below.alloc ?_ (by first | omega | (simp; done) | (simp; omega)) _) | (with_reducible refine Below.setCell ?_ (by first | omega | (simp; done) | (simp; omega)) _) | (refine Below.trans ?_ (Below.mono (by with_reducible assumption) (by first | omega | (simp; done) | (simp; omega)))))))⟩
  by_cases g2 : dy < 0
  case pos =>
    have hz : z = false := Bool.eq_false_iff.2 (fun h => by have := HZ.out.1 h; omega)
    subst hz
    go_wp2_with fail
    go_ret
    exact ⟨rfl, (by have hbelh := HB0.out; have hbels := hbelh.size; exact (by repeat (first | exact Below.refl _ _ | (with_reducible refine Below.drew ?_) | (with_reducible refine below_drewN ?_ _) | (with_reducible refine Below.alloc ?_ (by first | omega | (simp; done) | (simp; omega)) _) | (with_reducible refine Below.setCell ?_ (by first | omega | (simp; done) | (simp; omega)) _) | (refine Below.trans ?_ (Below.mono (by with_reducible assumption) (by first | omega | (simp; done) | (simp; omega)))))))⟩
  by_cases g3 : dep.length = arr.length
  case neg =>
    have g3' : ((dep.length : Int) == (arr.length : Int)) = false := by simp; omega
    have g3'' : ((arr.length : Int) == (dep.length : Int)) = false := by simp; omega
    have hz : z = false := Bool.eq_false_iff.2 (fun h => by have := HZ.out.1 h; omega)
    subst hz
    go_wp2_with fail
    go_ret
    exact ⟨rfl, (by have hbelh := HB0.out; have hbels := hbelh.size; exact (by repeat (first | exact Below.refl _ _ | (with_reducible refine Below.drew ?_) | (with_reducible refine below_drewN ?_ _) | (with_reducible refine Below.alloc ?_ (by first | omega | (simp; done) | (simp; omega)) _) | (with_reducible refine Below.setCell ?_ (by first | omega | (simp; done) | (simp; omega)) _) | (refine Below.trans ?_ (Below.mono (by with_reducible assumption) (by first | omega | (simp; done) | (simp; omega)))))))⟩
  have g3' : ((dep.length : Int) == (arr.length : Int)) = true := by simp; omega
  have g3'' : ((arr.length : Int) == (dep.length : Int)) = true := by simp; omega
  by_cases g4 : dep.length < 1
  case pos =>
    have g4' : decide ((dep.length : Int) ≥ 1) = false := by simp; omega
    have hz : z = false := Bool.eq_false_iff.2 (fun h => by have := HZ.out.1 h; omega)
    subst hz
    go_wp2_with fail
    go_ret
    exact ⟨rfl, (by have hbelh := HB0.out; have hbels := hbelh.size; exact (by repeat (first | exact Below.refl _ _ | (with_reducible refine Below.drew ?_) | (with_reducible refine below_drewN ?_ _) | (with_reducible refine Below.alloc ?_ (by first | omega | (simp; done) | (simp; omega)) _) | (with_reducible refine Below.setCell ?_ (by first | omega | (simp; done) | (simp; omega)) _) | (refine Below.trans ?_ (Below.mono (by with_reducible assumption) (by first | omega | (simp; done) | (simp; omega)))))))⟩
  have g4' : decide ((dep.length : Int) ≥ 1) = true := by simp; omega
  by_cases g5 : 12 < dep.length
  case pos =>
    have hz : z = false := Bool.eq_false_iff.2 (fun h => by have := HZ.out.1 h; omega)
    subst hz
    go_wp2_with fail
    go_ret
    exact ⟨rfl, (by have hbelh := HB0.out; have hbels := hbelh.size; exact (by repeat (first | exact Below.refl _ _ | (with_reducible refine Below.drew ?_) | (with_reducible refine below_drewN ?_ _) | (with_reducible refine Below.alloc ?_ (by first | omega | (simp; done) | (simp; omega)) _) | (with_reducible refine Below.setCell ?_ (by first | omega | (simp; done) | (simp; omega)) _) | (refine Below.trans ?_ (Below.mono (by with_reducible assumption) (by first | omega | (simp; done) | (simp; omega)))))))⟩
  obtain ⟨b, off, rfl, hbl, hk⟩ := HK.out (by omega)
  have hk0 := cell_bel hb0 hk
  have hbl0 := Nat.lt_of_lt_of_le hbl hb0.size
  clear hb0 hk hbl H HK
  have hz : z = decide (0 ≤ kk) := Bool.eq_iff_iff.2 (HZ.out.trans ⟨fun h => by simp; omega, fun h => by simp at h; omega⟩)
  subst hz
  clear HZ
  go_wp2_with fail
  go_ret
  exact ⟨rfl, (by have hbelh := HB0.out; have hbels := hbelh.size; exact (by repeat (first | exact Below.refl _ _ | (with_reducible refine Below.drew ?_) | (with_reducible refine below_drewN ?_ _) | (with_reducible refine Below.alloc ?_ (by first | omega | (simp; done) | (simp; omega)) _) | (with_reducible refine Below.setCell ?_ (by first | omega | (simp; done) | (simp; omega)) _) | (refine Below.trans ?_ (Below.mono (by with_reducible assumption) (by first | omega | (simp; done) | (simp; omega)))))))⟩
set_option maxRecDepth 100000 in
set_option maxHeartbeats 3200000 in
theorem vt_any (t : CT) (w : World) (h : TM w w.heap.size t) :
    Calls Try.prog 35 #[.agg #[.int .i64 (t).ln, .int .i64 (t).dy, .slice (t).Ad (t).dep.length (t).cd, .slice (t).Aa (t).arr.length (t).ca]] w fun e w' => e = .returned (.bool (okT t.pt)) ∧ Below w.heap.size w w' := by
  have H := Lib.hid h
  have HZ := Lib.hid (show okT t.pt = true ↔ _ from okT_iff (t := t.pt))
  have e1 : t.pt.ln = t.ln := rfl
  have e2 : t.pt.dy = t.dy := rfl
  have e3 : t.pt.dep = t.dep := rfl
  have e4 : t.pt.arr = t.arr := rfl
  rw [e1, e2, e3, e4] at HZ
  clear e1 e2 e3 e4
  generalize okT t.pt = z at *
  have hsa := H.out.d.sz
  have hsb := H.out.a.sz
  have HK := Lib.hid h.k0
  clear h
  generalize k1 t.pt = kk at *
  obtain ⟨ln, dy, Ad, cd, Aa, ca, dep, arr⟩ := t
  simp only at HZ hsa hsb HK
  go_enter Try.func35, Try.ntmps35
  go_upto_region 1 with fail
  refine world_gen (fun w0 => Below w.heap.size w w0 ∧ Blk w0 w.heap.size 28 #[.int .i64 (CT.mk ln dy Ad cd Aa ca dep arr).ln, .int .i64 (CT.mk ln dy Ad cd Aa ca dep arr).dy, .slice (CT.mk ln dy Ad cd Aa ca dep arr).Ad (CT.mk ln dy Ad cd Aa ca dep arr).dep.length (CT.mk ln dy Ad cd Aa ca dep arr).cd, .slice (CT.mk ln dy Ad cd Aa ca dep arr).Aa (CT.mk ln dy Ad cd Aa ca dep arr).arr.length (CT.mk ln dy Ad cd Aa ca dep arr).ca]) ⟨(by repeat (first | exact Below.refl _ _ | (with_reducible refine Below.drew ?_) | (with_reducible refine below_drewN ?_ _) | (with_reducible refine Below.alloc ?_ (by first | omega | (simp; done) | (simp; omega)) _) | (with_reducible refine Below.setCell ?_ (by first | omega | (simp; done) | (simp; omega)) _) | (refine Below.trans ?_ (Below.mono (by with_reducible assumption) (by first | omega | (simp; done) | (simp; omega)))))), Blk.new w _ _⟩ ?_
  rintro w0 ⟨hb0, hx0⟩
  have HB0 := Lib.hid hb0
  have hxl := hx0.lt
  have x0 := hx0.cell 0
  have x1 := hx0.cell 1
  have x2 := hx0.cell 2
  have x3 := hx0.cell 3
  simp at x0 x1 x2 x3
  by_cases g1 : ln < 0
  case pos =>
    have hz : z = false := Bool.eq_false_iff.2 (fun h => by have := HZ.out.1 h; omega)
    subst hz
    go_wp2_with fail
    go_ret
    exact ⟨rfl, (by have hbelh := HB0.out; have hbels := hbelh.size; exact (by repeat (first | exact Below.refl _ _ | (with_reducible refine Below.drew ?_) | (with_reducible refine below_drewN ?_ _) | (with_reducible refine Below.alloc ?_ (by first | omega | (simp; done) | (simp; omega)) _) | (with_reducible refine Below.setCell ?_ (by first | omega | (simp; done) | (simp; omega)) _) | (refine Below.trans ?_ (Below.mono (by with_reducible assumption) (by first | omega | (simp; done) | (simp; omega)))))))⟩
  by_cases g2 : dy < 0
  case pos =>
    have hz : z = false := Bool.eq_false_iff.2 (fun h => by have := HZ.out.1 h; omega)
    subst hz
    go_wp2_with fail
    go_ret
    exact ⟨rfl, (by have hbelh := HB0.out; have hbels := hbelh.size; exact (by repeat (first | exact Below.refl _ _ | (with_reducible refine Below.drew ?_) | (with_reducible refine below_drewN ?_ _) | (with_reducible refine Below.alloc ?_ (by first | omega | (simp; done) | (simp; omega)) _) | (with_reducible refine Below.setCell ?_ (by first | omega | (simp; done) | (simp; omega)) _) | (refine Below.trans ?_ (Below.mono (by with_reducible assumption) (by first | omega | (simp; done) | (simp; omega)))))))⟩
  by_cases g4 : dep.length < 1
  case pos =>
    have g4' : decide ((dep.length : Int) ≥ 1) = false := by simp; omega
    have hz : z = false := Bool.eq_false_iff.2 (fun h => by have := HZ.out.1 h; omega)
    subst hz
    go_wp2_with fail
    go_ret
    exact ⟨rfl, (by have hbelh := HB0.out; have hbels := hbelh.size; exact (by repeat (first | exact Below.refl _ _ | (with_reducible refine Below.drew ?_) | (with_reducible refine below_drewN ?_ _) | (with_reducible refine Below.alloc ?_ (by first | omega | (simp; done) | (simp; omega)) _) | (with_reducible refine Below.setCell ?_ (by first | omega | (simp; done) | (simp; omega)) _) | (refine Below.trans ?_ (Below.mono (by with_reducible assumption) (by first | omega | (simp; done) | (simp; omega)))))))⟩
  have g4' : decide ((dep.length : Int) ≥ 1) = true := by simp; omega
  by_cases g5 : 12 < dep.length
  case pos =>
    have hz : z = false := Bool.eq_false_iff.2 (fun h => by have := HZ.out.1 h; omega)
    subst hz
    go_wp2_with fail
    go_ret
    exact ⟨rfl, (by have hbelh := HB0.out; have hbels := hbelh.size; exact (by repeat (first | exact Below.refl _ _ | (with_reducible refine Below.drew ?_) | (with_reducible refine below_drewN ?_ _) | (with_reducible refine Below.alloc ?_ (by first | omega | (simp; done) | (simp; omega)) _) | (with_reducible refine Below.setCell ?_ (by first | omega | (simp; done) | (simp; omega)) _) | (refine Below.trans ?_ (Below.mono (by with_reducible assumption) (by first | omega | (simp; done) | (simp; omega)))))))⟩
  by_cases g3 : dep.length = arr.length
  case neg =>
    have g3' : ((dep.length : Int) == (arr.length : Int)) = false := by simp; omega
    have g3'' : ((arr.length : Int) == (dep.length : Int)) = false := by simp; omega
    have hz : z = false := Bool.eq_false_iff.2 (fun h => by have := HZ.out.1 h; omega)
    subst hz
    go_wp2_with fail
    go_ret
    exact ⟨rfl, (by have hbelh := HB0.out; have hbels := hbelh.size; exact (by repeat (first | exact Below.refl _ _ | (with_reducible refine Below.drew ?_) | (with_reducible refine below_drewN ?_ _) | (with_reducible refine Below.alloc ?_ (by first | omega | (simp; done) | (simp; omega)) _) | (with_reducible refine Below.setCell ?_ (by first | omega | (simp; done) | (simp; omega)) _) | (refine Below.trans ?_ (Below.mono (by with_reducible assumption) (by first | omega | (simp; done) | (simp; omega)))))))⟩
  have g3' : ((dep.length : Int) == (arr.length : Int)) = true := by simp; omega
  have g3'' : ((arr.length : Int) == (dep.length : Int)) = true := by simp; omega
  obtain ⟨b, off, rfl, hbl, hk⟩ := HK.out (by omega)
  have hk0 := cell_bel hb0 hk
  have hbl0 := Nat.lt_of_lt_of_le hbl hb0.size
  clear hb0 hk hbl H HK
  have hz : z = decide (0 ≤ kk) := Bool.eq_iff_iff.2 (HZ.out.trans ⟨fun h => by simp; omega, fun h => by simp at h; omega⟩)
  subst hz
  clear HZ
  go_wp2_with fail
  go_ret
  exact ⟨rfl, (by have hbelh := HB0.out; have hbels := hbelh.size; exact (by repeat (first | exact Below.refl _ _ | (with_reducible refine Below.drew ?_) | (with_reducible refine below_drewN ?_ _) | (with_reducible refine Below.alloc ?_ (by first | omega | (simp; done) | (simp; omega)) _) | (with_reducible refine Below.setCell ?_ (by first | omega | (simp; done) | (simp; omega)) _) | (refine Below.trans ?_ (Below.mono (by with_reducible assumption) (by first | omega | (simp; done) | (simp; omega)))))))⟩
end Go.Proofs.Ythfifejjfnmpoaa
