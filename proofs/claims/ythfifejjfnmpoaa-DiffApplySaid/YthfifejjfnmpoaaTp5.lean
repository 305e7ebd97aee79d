import Derived.Test.YthfifejjfnmpoaaTp4
namespace Go.Proofs.Ythfifejjfnmpoaa
open Go.RowKit
def keyC (e : CE) : CT := if e.k = 1 then e.n else e.o
theorem keyC_pt (e : CE) : (keyC e).pt = keyE e.pe := by unfold keyC keyE CE.pe; split <;> rfl
theorem keyC_tm {w : World} {B : Nat} {e : CE} (h : EM w B e) : TM w B (keyC e) := by unfold keyC; split; (exact h.n); exact h.o
set_option maxRecDepth 100000 in
set_option maxHeartbeats 3200000 in
theorem key_any (e : CE) (w : World) :
    Calls Try.prog 42 #[.agg #[.int .i64 (e).k, .int .i64 (e).o.ln, .int .i64 (e).o.dy, .slice (e).o.Ad (e).o.dep.length (e).o.cd, .slice (e).o.Aa (e).o.arr.length (e).o.ca, .int .i64 (e).n.ln, .int .i64 (e).n.dy, .slice (e).n.Ad (e).n.dep.length (e).n.cd, .slice (e).n.Aa (e).n.arr.length (e).n.ca]] w fun r w' => r = .returned (.agg #[.int .i64 (keyC e).ln, .int .i64 (keyC e).dy, .slice (keyC e).Ad (keyC e).dep.length (keyC e).cd, .slice (keyC e).Aa (keyC e).arr.length (keyC e).ca]) ∧ Below w.heap.size w w' := by
  have HK := Lib.hid (show keyC e = if e.k = 1 then e.n else e.o from rfl)
  generalize keyC e = q at *
  go_enter Try.func42, Try.ntmps42
  go_upto_region 1 with fail
  refine world_gen (fun w0 => Below w.heap.size w w0 ∧ w0.heap.size = w.heap.size + 2 ∧ Blk w0 w.heap.size 40 #[.int .i64 (e).k, .int .i64 (e).o.ln, .int .i64 (e).o.dy, .slice (e).o.Ad (e).o.dep.length (e).o.cd, .slice (e).o.Aa (e).o.arr.length (e).o.ca, .int .i64 (e).n.ln, .int .i64 (e).n.dy, .slice (e).n.Ad (e).n.dep.length (e).n.cd, .slice (e).n.Aa (e).n.arr.length (e).n.ca] ∧ Blk w0 (w.heap.size + 1) 28 #[.int .i64 0, .int .i64 0, .slice none 0 0, .slice none 0 0]) ⟨(by repeat (first | exact Below.refl _ _ | (with_reducible refine Below.drew ?_) | (with_reducible refine below_drewN ?_ _) | (with_reducible refine Below.alloc ?_ (by first | omega | (simp; done) | (simp; omega)) _) | (with_reducible refine Below.setCell ?_ (by first | omega | (simp; done) | (simp; omega)) _) | (refine Below.trans ?_ (Below.mono (by with_reducible assumption) (by first | omega | (simp; done) | (simp; omega)))))), by simp, (Blk.new w _ _).al _, by simpa using Blk.new (w.alloc _) 28 _⟩ ?_
  rintro w0 ⟨hb0, hs0, hx0, hr0⟩
  have HB0 := Lib.hid hb0
  have HR0 := Lib.hid hr0
  have HX0 := Lib.hid hx0
  have hxl := hx0.lt
  have hrl := hr0.lt
  have x0 := hx0.cell 0
  have x1 := hx0.cell 1
  have x2 := hx0.cell 2
  have x3 := hx0.cell 3
  have x4 := hx0.cell 4
  have x5 := hx0.cell 5
  have x6 := hx0.cell 6
  have x7 := hx0.cell 7
  have x8 := hx0.cell 8
  simp at x0 x1 x2 x3 x4 x5 x6 x7 x8
  clear hb0 hx0 hr0
  have r0 := HR0.out.cell 0
  have r1 := HR0.out.cell 1
  have r2 := HR0.out.cell 2
  have r3 := HR0.out.cell 3
  have f0 := HR0.out.frozen 0
  have f1 := HR0.out.frozen 1
  have f2 := HR0.out.frozen 2
  have f3 := HR0.out.frozen 3
  simp at r0 r1 r2 r3
  by_cases h : e.k = 1
  · have hq : q = e.n := by rw [HK.out, if_pos h]
    subst hq
    have h' : (e.k == 1) = true := by simpa using h
    clear HK
    go_wp2_with fail
    (try simp only [Exit.inBlock, Exit.then])
    have hcs := (((HR0.out.set_ 0 (.int .i64 e.n.ln)).set_ 1 (.int .i64 e.n.dy)).set_ 2 (.slice e.n.Ad e.n.dep.length e.n.cd)).set_ 3 (.slice e.n.Aa e.n.arr.length e.n.ca)
    refine bodyPost_ret (results_cell_row rfl _ _ (w.heap.size + 1) 28 #[.int .i64 (e.n).ln, .int .i64 (e.n).dy, .slice (e.n).Ad (e.n).dep.length (e.n).cd, .slice (e.n).Aa (e.n).arr.length (e.n).ca] (0, 0) _ rfl (by first | exact hcs | (simp at hcs; exact hcs)) Try.underlying28 rfl (by kernel_rfl)) rfl ?_
    exact ⟨rfl, (by have hbelh := HB0.out; have hbels := hbelh.size; exact (by repeat (first | exact Below.refl _ _ | (with_reducible refine Below.drew ?_) | (with_reducible refine below_drewN ?_ _) | (with_reducible refine Below.alloc ?_ (by first | omega | (simp; done) | (simp; omega)) _) | (with_reducible refine Below.setCell ?_ (by first | omega | (simp; done) | (simp; omega)) _) | (refine Below.trans ?_ (Below.mono (by with_reducible assumption) (by first | omega | (simp; done) | (simp; omega)))))))⟩
  · have hq : q = e.o := by rw [HK.out, if_neg h]
    subst hq
    have h' : (e.k == 1) = false := by simpa using h
    clear HK
    go_wp2_with fail
    (try simp only [Exit.inBlock, Exit.then])
    have hcs := (((HR0.out.set_ 0 (.int .i64 e.o.ln)).set_ 1 (.int .i64 e.o.dy)).set_ 2 (.slice e.o.Ad e.o.dep.length e.o.cd)).set_ 3 (.slice e.o.Aa e.o.arr.length e.o.ca)
    refine bodyPost_ret (results_cell_row rfl _ _ (w.heap.size + 1) 28 #[.int .i64 (e.o).ln, .int .i64 (e.o).dy, .slice (e.o).Ad (e.o).dep.length (e.o).cd, .slice (e.o).Aa (e.o).arr.length (e.o).ca] (0, 0) _ rfl (by first | exact hcs | (simp at hcs; exact hcs)) Try.underlying28 rfl (by kernel_rfl)) rfl ?_
    exact ⟨rfl, (by have hbelh := HB0.out; have hbels := hbelh.size; exact (by repeat (first | exact Below.refl _ _ | (with_reducible refine Below.drew ?_) | (with_reducible refine below_drewN ?_ _) | (with_reducible refine Below.alloc ?_ (by first | omega | (simp; done) | (simp; omega)) _) | (with_reducible refine Below.setCell ?_ (by first | omega | (simp; done) | (simp; omega)) _) | (refine Below.trans ?_ (Below.mono (by with_reducible assumption) (by first | omega | (simp; done) | (simp; omega)))))))⟩
set_option maxRecDepth 100000 in
set_option maxHeartbeats 3200000 in
theorem rkey_any (e : CE) (w : World) :
    Calls Try.prog 47 #[.agg #[.int .i64 (e).k, .int .i64 (e).o.ln, .int .i64 (e).o.dy, .slice (e).o.Ad (e).o.dep.length (e).o.cd, .slice (e).o.Aa (e).o.arr.length (e).o.ca, .int .i64 (e).n.ln, .int .i64 (e).n.dy, .slice (e).n.Ad (e).n.dep.length (e).n.cd, .slice (e).n.Aa (e).n.arr.length (e).n.ca]] w fun r w' => r = .returned (.agg #[.int .i64 (keyC e).ln, .int .i64 (keyC e).dy, .slice (keyC e).Ad (keyC e).dep.length (keyC e).cd, .slice (keyC e).Aa (keyC e).arr.length (keyC e).ca]) ∧ Below w.heap.size w w' := by
  have HK := Lib.hid (show keyC e = if e.k = 1 then e.n else e.o from rfl)
  generalize keyC e = q at *
  go_enter Try.func47, Try.ntmps47
  go_upto_region 1 with fail
  refine world_gen (fun w0 => Below w.heap.size w w0 ∧ w0.heap.size = w.heap.size + 2 ∧ Blk w0 w.heap.size 40 #[.int .i64 (e).k, .int .i64 (e).o.ln, .int .i64 (e).o.dy, .slice (e).o.Ad (e).o.dep.length (e).o.cd, .slice (e).o.Aa (e).o.arr.length (e).o.ca, .int .i64 (e).n.ln, .int .i64 (e).n.dy, .slice (e).n.Ad (e).n.dep.length (e).n.cd, .slice (e).n.Aa (e).n.arr.length (e).n.ca] ∧ Blk w0 (w.heap.size + 1) 28 #[.int .i64 0, .int .i64 0, .slice none 0 0, .slice none 0 0]) ⟨(by repeat (first | exact Below.refl _ _ | (with_reducible refine Below.drew ?_) | (with_reducible refine below_drewN ?_ _) | (with_reducible refine Below.alloc ?_ (by first | omega | (simp; done) | (simp; omega)) _) | (with_reducible refine Below.setCell ?_ (by first | omega | (simp; done) | (simp; omega)) _) | (refine Below.trans ?_ (Below.mono (by with_reducible assumption) (by first | omega | (simp; done) | (simp; omega)))))), by simp, (Blk.new w _ _).al _, by simpa using Blk.new (w.alloc _) 28 _⟩ ?_
  rintro w0 ⟨hb0, hs0, hx0, hr0⟩
  have HB0 := Lib.hid hb0
  have HR0 := Lib.hid hr0
  have HX0 := Lib.hid hx0
  have hxl := hx0.lt
  have hrl := hr0.lt
  have x0 := hx0.cell 0
  have x1 := hx0.cell 1
  have x2 := hx0.cell 2
  have x3 := hx0.cell 3
  have x4 := hx0.cell 4
  have x5 := hx0.cell 5
  have x6 := hx0.cell 6
  have x7 := hx0.cell 7
  have x8 := hx0.cell 8
  simp at x0 x1 x2 x3 x4 x5 x6 x7 x8
  clear hb0 hx0 hr0
  have r0 := HR0.out.cell 0
  have r1 := HR0.out.cell 1
  have r2 := HR0.out.cell 2
  have r3 := HR0.out.cell 3
  have f0 := HR0.out.frozen 0
  have f1 := HR0.out.frozen 1
  have f2 := HR0.out.frozen 2
  have f3 := HR0.out.frozen 3
  simp at r0 r1 r2 r3
  by_cases h : e.k = 1
  · have hq : q = e.n := by rw [HK.out, if_pos h]
    subst hq
    have h' : (e.k == 1) = true := by simpa using h
    clear HK
    go_wp2_with fail
    (try simp only [Exit.inBlock, Exit.then])
    have hcs := (((HR0.out.set_ 0 (.int .i64 e.n.ln)).set_ 1 (.int .i64 e.n.dy)).set_ 2 (.slice e.n.Ad e.n.dep.length e.n.cd)).set_ 3 (.slice e.n.Aa e.n.arr.length e.n.ca)
    refine bodyPost_ret (results_cell_row rfl _ _ (w.heap.size + 1) 28 #[.int .i64 (e.n).ln, .int .i64 (e.n).dy, .slice (e.n).Ad (e.n).dep.length (e.n).cd, .slice (e.n).Aa (e.n).arr.length (e.n).ca] (0, 0) _ rfl (by first | exact hcs | (simp at hcs; exact hcs)) Try.underlying28 rfl (by kernel_rfl)) rfl ?_
    exact ⟨rfl, (by have hbelh := HB0.out; have hbels := hbelh.size; exact (by repeat (first | exact Below.refl _ _ | (with_reducible refine Below.drew ?_) | (with_reducible refine below_drewN ?_ _) | (with_reducible refine Below.alloc ?_ (by first | omega | (simp; done) | (simp; omega)) _) | (with_reducible refine Below.setCell ?_ (by first | omega | (simp; done) | (simp; omega)) _) | (refine Below.trans ?_ (Below.mono (by with_reducible assumption) (by first | omega | (simp; done) | (simp; omega)))))))⟩
  · have hq : q = e.o := by rw [HK.out, if_neg h]
    subst hq
    have h' : (e.k == 1) = false := by simpa using h
    clear HK
    go_wp2_with fail
    (try simp only [Exit.inBlock, Exit.then])
    have hcs := (((HR0.out.set_ 0 (.int .i64 e.o.ln)).set_ 1 (.int .i64 e.o.dy)).set_ 2 (.slice e.o.Ad e.o.dep.length e.o.cd)).set_ 3 (.slice e.o.Aa e.o.arr.length e.o.ca)
    refine bodyPost_ret (results_cell_row rfl _ _ (w.heap.size + 1) 28 #[.int .i64 (e.o).ln, .int .i64 (e.o).dy, .slice (e.o).Ad (e.o).dep.length (e.o).cd, .slice (e.o).Aa (e.o).arr.length (e.o).ca] (0, 0) _ rfl (by first | exact hcs | (simp at hcs; exact hcs)) Try.underlying28 rfl (by kernel_rfl)) rfl ?_
    exact ⟨rfl, (by have hbelh := HB0.out; have hbels := hbelh.size; exact (by repeat (first | exact Below.refl _ _ | (with_reducible refine Below.drew ?_) | (with_reducible refine below_drewN ?_ _) | (with_reducible refine Below.alloc ?_ (by first | omega | (simp; done) | (simp; omega)) _) | (with_reducible refine Below.setCell ?_ (by first | omega | (simp; done) | (simp; omega)) _) | (refine Below.trans ?_ (Below.mono (by with_reducible assumption) (by first | omega | (simp; done) | (simp; omega)))))))⟩
theorem isz_eq (t : CT) : eqT t.pt zeroT = (decide (t.ln = 0) && decide (t.dy = 0) && decide (t.dep = []) && decide (t.arr = [])) := rfl
set_option maxRecDepth 100000 in
set_option maxHeartbeats 3200000 in
theorem isz_any (t : CT) (w : World) (h : TM w w.heap.size t) :
    Calls Try.prog 54 #[.agg #[.int .i64 (t).ln, .int .i64 (t).dy, .slice (t).Ad (t).dep.length (t).cd, .slice (t).Aa (t).arr.length (t).ca]] w fun e w' => e = .returned (.bool (eqT t.pt zeroT)) ∧ Below w.heap.size w w' := by
  have H := Lib.hid h
  clear h
  go_enter Try.func54, Try.ntmps54
  go_upto_region 1 with fail
  refine world_gen (fun w0 => Below w.heap.size w w0 ∧ Blk w0 w.heap.size 28 #[.int .i64 (t).ln, .int .i64 (t).dy, .slice (t).Ad (t).dep.length (t).cd, .slice (t).Aa (t).arr.length (t).ca]) ⟨(by repeat (first | exact Below.refl _ _ | (with_reducible refine Below.drew ?_) | (with_reducible refine below_drewN ?_ _) | (with_reducible refine Below.alloc ?_ (by first | omega | (simp; done) | (simp; omega)) _) | (with_reducible refine Below.setCell ?_ (by first | omega | (simp; done) | (simp; omega)) _) | (refine Below.trans ?_ (Below.mono (by with_reducible assumption) (by first | omega | (simp; done) | (simp; omega)))))), Blk.new w _ _⟩ ?_
  rintro w0 ⟨hb0, hx0⟩
  have HB0 := Lib.hid hb0
  have hxl := hx0.lt
  have x0 := hx0.cell 0
  have x1 := hx0.cell 1
  have x2 := hx0.cell 2
  have x3 := hx0.cell 3
  simp at x0 x1 x2 x3
  clear hb0
  go_wp2_with fail
  refine (eq_any t zT _ (H.out.go HB0.out) (TM.zero _ _)).mono ?_
  rintro e w2 ⟨rfl, hb2⟩
  go_wp2_with fail
  go_ret
  exact ⟨rfl, HB0.out.trans (hb2.mono HB0.out.size)⟩
set_option maxRecDepth 100000 in
set_option maxHeartbeats 3200000 in
theorem zero_any (t : CT) (w : World) (h : TM w w.heap.size t) :
    Calls Try.prog 55 #[.agg #[.int .i64 (t).ln, .int .i64 (t).dy, .slice (t).Ad (t).dep.length (t).cd, .slice (t).Aa (t).arr.length (t).ca]] w fun e w' => e = .returned (.bool (eqT t.pt zeroT)) ∧ Below w.heap.size w w' := by
  have hsa := h.d.sz
  have hsb := h.a.sz
  clear h
  have HZ := Lib.hid (isz_eq t)
  generalize eqT t.pt zeroT = z at *
  go_enter Try.func55, Try.ntmps55
  go_upto_region 1 with fail
  refine world_gen (fun w0 => Below w.heap.size w w0 ∧ Blk w0 w.heap.size 28 #[.int .i64 (t).ln, .int .i64 (t).dy, .slice (t).Ad (t).dep.length (t).cd, .slice (t).Aa (t).arr.length (t).ca]) ⟨(by repeat (first | exact Below.refl _ _ | (with_reducible refine Below.drew ?_) | (with_reducible refine below_drewN ?_ _) | (with_reducible refine Below.alloc ?_ (by first | omega | (simp; done) | (simp; omega)) _) | (with_reducible refine Below.setCell ?_ (by first | omega | (simp; done) | (simp; omega)) _) | (refine Below.trans ?_ (Below.mono (by with_reducible assumption) (by first | omega | (simp; done) | (simp; omega)))))), Blk.new w _ _⟩ ?_
  rintro w0 ⟨hb0, hx0⟩
  have HB0 := Lib.hid hb0
  have hxl := hx0.lt
  have x0 := hx0.cell 0
  have x1 := hx0.cell 1
  have x2 := hx0.cell 2
  have x3 := hx0.cell 3
  simp at x0 x1 x2 x3
  clear hb0 hx0
  by_cases h1 : t.ln = 0
  case neg =>
    have h1' : (t.ln == 0) = false := by simpa using h1
    have hz : z = false := by rw [HZ.out, decide_eq_false h1]; simp
    subst hz
    go_wp2_with fail
    go_ret
    exact ⟨rfl, (by have hbelh := HB0.out; have hbels := hbelh.size; exact (by repeat (first | exact Below.refl _ _ | (with_reducible refine Below.drew ?_) | (with_reducible refine below_drewN ?_ _) | (with_reducible refine Below.alloc ?_ (by first | omega | (simp; done) | (simp; omega)) _) | (with_reducible refine Below.setCell ?_ (by first | omega | (simp; done) | (simp; omega)) _) | (refine Below.trans ?_ (Below.mono (by with_reducible assumption) (by first | omega | (simp; done) | (simp; omega)))))))⟩
  have h1' : (t.ln == 0) = true := by simpa using h1
  by_cases h2 : t.dy = 0
  case neg =>
    have h2' : (t.dy == 0) = false := by simpa using h2
    have hz : z = false := by rw [HZ.out, decide_eq_false h2]; simp
    subst hz
    go_wp2_with fail
    go_ret
    exact ⟨rfl, (by have hbelh := HB0.out; have hbels := hbelh.size; exact (by repeat (first | exact Below.refl _ _ | (with_reducible refine Below.drew ?_) | (with_reducible refine below_drewN ?_ _) | (with_reducible refine Below.alloc ?_ (by first | omega | (simp; done) | (simp; omega)) _) | (with_reducible refine Below.setCell ?_ (by first | omega | (simp; done) | (simp; omega)) _) | (refine Below.trans ?_ (Below.mono (by with_reducible assumption) (by first | omega | (simp; done) | (simp; omega)))))))⟩
  have h2' : (t.dy == 0) = true := by simpa using h2
  by_cases h3 : t.dep = []
  case neg =>
    have h3' : ((t.dep.length : Int) == 0) = false := by have := List.length_pos_iff.2 h3; simp; omega
    have hz : z = false := by rw [HZ.out, decide_eq_false h3]; simp
    subst hz
    go_wp2_with fail
    go_ret
    exact ⟨rfl, (by have hbelh := HB0.out; have hbels := hbelh.size; exact (by repeat (first | exact Below.refl _ _ | (with_reducible refine Below.drew ?_) | (with_reducible refine below_drewN ?_ _) | (with_reducible refine Below.alloc ?_ (by first | omega | (simp; done) | (simp; omega)) _) | (with_reducible refine Below.setCell ?_ (by first | omega | (simp; done) | (simp; omega)) _) | (refine Below.trans ?_ (Below.mono (by with_reducible assumption) (by first | omega | (simp; done) | (simp; omega)))))))⟩
  have h3' : ((t.dep.length : Int) == 0) = true := by simp [h3]
  have hz : z = ((t.arr.length : Int) == 0) := by
    rw [HZ.out, decide_eq_true h1, decide_eq_true h2, decide_eq_true h3]
    by_cases h4 : t.arr = []
    · simp [h4]
    · have := List.length_pos_iff.2 h4
      simp [h4]
  have HZ2 := Lib.hid hz
  clear HZ hz h3
  go_wp2_with fail
  go_ret
  exact ⟨by rw [HZ2.out]; rfl, (by have hbelh := HB0.out; have hbels := hbelh.size; exact (by repeat (first | exact Below.refl _ _ | (with_reducible refine Below.drew ?_) | (with_reducible refine below_drewN ?_ _) | (with_reducible refine Below.alloc ?_ (by first | omega | (simp; done) | (simp; omega)) _) | (with_reducible refine Below.setCell ?_ (by first | omega | (simp; done) | (simp; omega)) _) | (refine Below.trans ?_ (Below.mono (by with_reducible assumption) (by first | omega | (simp; done) | (simp; omega)))))))⟩
end Go.Proofs.Ythfifejjfnmpoaa
