import Derived.Test.YthfifejjfnmpoaaTp6
namespace Go.Proofs.Ythfifejjfnmpoaa
open Go.RowKit
set_option maxRecDepth 100000 in
set_option maxHeartbeats 3200000 in
theorem ise_any (e : CE) (w : World) (h : EM w w.heap.size e) :
    Calls Try.prog 41 #[.agg #[.int .i64 (e).k, .int .i64 (e).o.ln, .int .i64 (e).o.dy, .slice (e).o.Ad (e).o.dep.length (e).o.cd, .slice (e).o.Aa (e).o.arr.length (e).o.ca, .int .i64 (e).n.ln, .int .i64 (e).n.dy, .slice (e).n.Ad (e).n.dep.length (e).n.cd, .slice (e).n.Aa (e).n.arr.length (e).n.ca]] w fun r w' => r = .returned (.bool (okE e.pe)) ∧ Below w.heap.size w w' := by
  have H := Lib.hid h
  clear h
  have HZ := Lib.hid (show okE e.pe = if e.k = 1 then eqT e.o.pt zeroT && okT e.n.pt else if e.k = 2 then okT e.o.pt && eqT e.n.pt zeroT else if e.k = 3 then okT e.o.pt && okT e.n.pt && decide (eqK e.o.pt e.n.pt) && !eqT e.o.pt e.n.pt else false from rfl)
  have HO := Lib.hid (okT_iff (t := e.o.pt))
  have HN := Lib.hid (okT_iff (t := e.n.pt))
  have HQ := Lib.hid (cmpV_eq (a := e.o.pt) (b := e.n.pt))
  generalize okE e.pe = z at *
  go_enter Try.func41, Try.ntmps41
  go_upto_region 1 with fail
  refine world_gen (fun w0 => Below w.heap.size w w0 ∧ Blk w0 w.heap.size 40 #[.int .i64 (e).k, .int .i64 (e).o.ln, .int .i64 (e).o.dy, .slice (e).o.Ad (e).o.dep.length (e).o.cd, .slice (e).o.Aa (e).o.arr.length (e).o.ca, .int .i64 (e).n.ln, .int .i64 (e).n.dy, .slice (e).n.Ad (e).n.dep.length (e).n.cd, .slice (e).n.Aa (e).n.arr.length (e).n.ca]) ⟨(by repeat (first | exact Below.refl _ _ | (with_reducible refine Below.drew ?_) | (with_reducible refine below_drewN ?_ _) | (with_reducible refine Below.alloc ?_ (by first | omega | (simp; done) | (simp; omega)) _) | (with_reducible refine Below.setCell ?_ (by first | omega | (simp; done) | (simp; omega)) _) | (refine Below.trans ?_ (Below.mono (by with_reducible assumption) (by first | omega | (simp; done) | (simp; omega)))))), Blk.new w _ _⟩ ?_
  rintro w0 ⟨hb0, hx0⟩
  have HB0 := Lib.hid hb0
  have hxl := hx0.lt
  have x0 := hx0.cell 0
  have x1 := hx0.cell 1
  have x2 := hx0.cell 2
  have x3 := hx0.cell 3
  have x4 := hx0.cell 4
  have x5 := hx0.cell 5
  have x6 := hx0.cell 6
  have x7 := hx0.cell 7
  have x8 := hx0.cell 8
  simp at x0 x1 x2 x3 x4 x5 x6 x7 x8
  clear hb0 hx0
  by_cases h1 : e.k = 1
  · have h1' : (e.k == 1) = true := by simpa using h1
    have hz := HZ.out
    rw [if_pos h1] at hz
    clear HZ HO HN HQ
    have HZ := Lib.hid hz
    clear hz
    go_wp2_with fail
    refine (isz_any e.o _ (H.out.o.go HB0.out)).mono ?_
    rintro r w1 ⟨rfl, hb1⟩
    have HB1 := Lib.hid (HB0.out.trans ((hb1).mono HB0.out.size))
    replace x0 := cell_bel hb1 x0
    replace x1 := cell_bel hb1 x1
    replace x2 := cell_bel hb1 x2
    replace x3 := cell_bel hb1 x3
    replace x4 := cell_bel hb1 x4
    replace x5 := cell_bel hb1 x5
    replace x6 := cell_bel hb1 x6
    replace x7 := cell_bel hb1 x7
    replace x8 := cell_bel hb1 x8
    replace hxl := Nat.lt_of_lt_of_le hxl (hb1).size
    clear HB0 hb1
    have HB0 := HB1
    clear HB1
    generalize eqT e.o.pt zeroT = u at *
    cases u with
    | false =>
      have hz : z = false := by rw [HZ.out]; simp
      subst hz
      go_wp2_with fail
      go_ret
      exact ⟨rfl, HB0.out⟩
    | true =>
      have hz : z = okT e.n.pt := by rw [HZ.out]; simp
      subst hz
      clear HZ
      go_wp2_with fail
      refine (ist_any e.n _ (H.out.n.go HB0.out)).mono ?_
      rintro r w1 ⟨rfl, hb1⟩
      go_wp2_with fail
      go_ret
      exact ⟨rfl, HB0.out.trans (hb1.mono HB0.out.size)⟩
  have h1' : (e.k == 1) = false := by simpa using h1
  by_cases h2 : e.k = 2
  · have h2' : (e.k == 2) = true := by simpa using h2
    have hz := HZ.out
    rw [if_neg h1, if_pos h2] at hz
    clear HZ HO HN HQ
    have HZ := Lib.hid hz
    clear hz
    go_wp2_with fail
    refine (ist_any e.o _ (H.out.o.go HB0.out)).mono ?_
    rintro r w1 ⟨rfl, hb1⟩
    have HB1 := Lib.hid (HB0.out.trans ((hb1).mono HB0.out.size))
    replace x0 := cell_bel hb1 x0
    replace x1 := cell_bel hb1 x1
    replace x2 := cell_bel hb1 x2
    replace x3 := cell_bel hb1 x3
    replace x4 := cell_bel hb1 x4
    replace x5 := cell_bel hb1 x5
    replace x6 := cell_bel hb1 x6
    replace x7 := cell_bel hb1 x7
    replace x8 := cell_bel hb1 x8
    replace hxl := Nat.lt_of_lt_of_le hxl (hb1).size
    clear HB0 hb1
    have HB0 := HB1
    clear HB1
    generalize okT e.o.pt = u at *
    cases u with
    | false =>
      have hz : z = false := by rw [HZ.out]; simp
      subst hz
      go_wp2_with fail
      go_ret
      exact ⟨rfl, HB0.out⟩
    | true =>
      have hz : z = eqT e.n.pt zeroT := by rw [HZ.out]; simp
      subst hz
      clear HZ
      go_wp2_with fail
      refine (isz_any e.n _ (H.out.n.go HB0.out)).mono ?_
      rintro r w1 ⟨rfl, hb1⟩
      go_wp2_with fail
      go_ret
      exact ⟨rfl, HB0.out.trans (hb1.mono HB0.out.size)⟩
  have h2' : (e.k == 2) = false := by simpa using h2
  by_cases h3 : e.k = 3
  · have h3' : (e.k == 3) = true := by simpa using h3
    have hz := HZ.out
    rw [if_neg h1, if_neg h2, if_pos h3] at hz
    clear HZ
    have HZ := Lib.hid hz
    clear hz
    go_wp2_with fail
    refine (ist_any e.o _ (H.out.o.go HB0.out)).mono ?_
    rintro r w1 ⟨rfl, hb1⟩
    have HB1 := Lib.hid (HB0.out.trans ((hb1).mono HB0.out.size))
    replace x0 := cell_bel hb1 x0
    replace x1 := cell_bel hb1 x1
    replace x2 := cell_bel hb1 x2
    replace x3 := cell_bel hb1 x3
    replace x4 := cell_bel hb1 x4
    replace x5 := cell_bel hb1 x5
    replace x6 := cell_bel hb1 x6
    replace x7 := cell_bel hb1 x7
    replace x8 := cell_bel hb1 x8
    replace hxl := Nat.lt_of_lt_of_le hxl (hb1).size
    clear HB0 hb1
    have HB0 := HB1
    clear HB1
    generalize okT e.o.pt = u at *
    cases u with
    | false =>
      have hz : z = false := by rw [HZ.out]; simp
      subst hz
      go_wp2_with fail
      go_ret
      exact ⟨rfl, HB0.out⟩
    | true =>
      have ho1 : 1 ≤ e.o.dep.length := (HO.out.1 rfl).2.2.2.1
      clear HO
      go_wp2_with fail
      refine (ist_any e.n _ (H.out.n.go HB0.out)).mono ?_
      rintro r w1 ⟨rfl, hb1⟩
      have HB1 := Lib.hid (HB0.out.trans ((hb1).mono HB0.out.size))
      replace x0 := cell_bel hb1 x0
      replace x1 := cell_bel hb1 x1
      replace x2 := cell_bel hb1 x2
      replace x3 := cell_bel hb1 x3
      replace x4 := cell_bel hb1 x4
      replace x5 := cell_bel hb1 x5
      replace x6 := cell_bel hb1 x6
      replace x7 := cell_bel hb1 x7
      replace x8 := cell_bel hb1 x8
      replace hxl := Nat.lt_of_lt_of_le hxl (hb1).size
      clear HB0 hb1
      have HB0 := HB1
      clear HB1
      generalize okT e.n.pt = u at *
      cases u with
      | false =>
        have hz : z = false := by rw [HZ.out]; simp
        subst hz
        go_wp2_with fail
        go_ret
        exact ⟨rfl, HB0.out⟩
      | true =>
        have hn1 : 1 ≤ e.n.dep.length := (HN.out.1 rfl).2.2.2.1
        clear HN
        go_wp2_with fail
        refine (cmp_any e.o e.n _ (H.out.o.go HB0.out) (H.out.n.go HB0.out) ho1 hn1).mono ?_
        rintro r w1 ⟨rfl, hb1⟩
        have HB1 := Lib.hid (HB0.out.trans ((hb1).mono HB0.out.size))
        replace x0 := cell_bel hb1 x0
        replace x1 := cell_bel hb1 x1
        replace x2 := cell_bel hb1 x2
        replace x3 := cell_bel hb1 x3
        replace x4 := cell_bel hb1 x4
        replace x5 := cell_bel hb1 x5
        replace x6 := cell_bel hb1 x6
        replace x7 := cell_bel hb1 x7
        replace x8 := cell_bel hb1 x8
        replace hxl := Nat.lt_of_lt_of_le hxl (hb1).size
        clear HB0 hb1
        have HB0 := HB1
        clear HB1
        generalize cmpV e.o.pt e.n.pt = cv at *
        by_cases hc : cv = 0
        · have hc' : (cv == 0) = true := by simpa using hc
          have hz : z = !eqT e.o.pt e.n.pt := by rw [HZ.out, decide_eq_true (HQ.out.1 hc)]; simp
          clear HQ HZ
          have HZ := Lib.hid hz
          clear hz hc
          go_wp2_with fail
          refine (eq_any e.o e.n _ (H.out.o.go HB0.out) (H.out.n.go HB0.out)).mono ?_
          rintro r w1 ⟨rfl, hb1⟩
          generalize eqT e.o.pt e.n.pt = qq at *
          go_wp2_with fail
          go_ret
          exact ⟨by rw [HZ.out]; rfl, HB0.out.trans (hb1.mono HB0.out.size)⟩
        · have hc' : (cv == 0) = false := by simpa using hc
          have hz : z = false := by rw [HZ.out, decide_eq_false (fun h => hc (HQ.out.2 h))]; simp
          subst hz
          clear HQ HZ
          go_wp2_with fail
          go_ret
          exact ⟨rfl, HB0.out⟩
  have h3' : (e.k == 3) = false := by simpa using h3
  have hz := HZ.out
  rw [if_neg h1, if_neg h2, if_neg h3] at hz
  subst hz
  go_wp2_with fail
  go_ret
  exact ⟨rfl, HB0.out⟩
set_option maxRecDepth 100000 in
set_option maxHeartbeats 3200000 in
theorem ve_any (e : CE) (w : World) (h : EM w w.heap.size e) :
    Calls Try.prog 46 #[.agg #[.int .i64 (e).k, .int .i64 (e).o.ln, .int .i64 (e).o.dy, .slice (e).o.Ad (e).o.dep.length (e).o.cd, .slice (e).o.Aa (e).o.arr.length (e).o.ca, .int .i64 (e).n.ln, .int .i64 (e).n.dy, .slice (e).n.Ad (e).n.dep.length (e).n.cd, .slice (e).n.Aa (e).n.arr.length (e).n.ca]] w fun r w' => r = .returned (.bool (okE e.pe)) ∧ Below w.heap.size w w' := by
  have H := Lib.hid h
  clear h
  have HZ := Lib.hid (show okE e.pe = if e.k = 1 then eqT e.o.pt zeroT && okT e.n.pt else if e.k = 2 then okT e.o.pt && eqT e.n.pt zeroT else if e.k = 3 then okT e.o.pt && okT e.n.pt && decide (eqK e.o.pt e.n.pt) && !eqT e.o.pt e.n.pt else false from rfl)
  have HO := Lib.hid (okT_iff (t := e.o.pt))
  have HN := Lib.hid (okT_iff (t := e.n.pt))
  have HQ := Lib.hid (cmpV_eq (a := e.o.pt) (b := e.n.pt))
  generalize okE e.pe = z at *
  go_enter Try.func46, Try.ntmps46
  go_upto_region 1 with fail
  refine world_gen (fun w0 => Below w.heap.size w w0 ∧ Blk w0 w.heap.size 40 #[.int .i64 (e).k, .int .i64 (e).o.ln, .int .i64 (e).o.dy, .slice (e).o.Ad (e).o.dep.length (e).o.cd, .slice (e).o.Aa (e).o.arr.length (e).o.ca, .int .i64 (e).n.ln, .int .i64 (e).n.dy, .slice (e).n.Ad (e).n.dep.length (e).n.cd, .slice (e).n.Aa (e).n.arr.length (e).n.ca]) ⟨(by repeat (first | exact Below.refl _ _ | (with_reducible refine Below.drew ?_) | (with_reducible refine below_drewN ?_ _) | (with_reducible refine Below.alloc ?_ (by first | omega | (simp; done) | (simp; omega)) _) | (with_reducible refine Below.setCell ?_ (by first | omega | (simp; done) | (simp; omega)) _) | (refine Below.trans ?_ (Below.mono (by with_reducible assumption) (by first | omega | (simp; done) | (simp; omega)))))), Blk.new w _ _⟩ ?_
  rintro w0 ⟨hb0, hx0⟩
  have HB0 := Lib.hid hb0
  have hxl := hx0.lt
  have x0 := hx0.cell 0
  have x1 := hx0.cell 1
  have x2 := hx0.cell 2
  have x3 := hx0.cell 3
  have x4 := hx0.cell 4
  have x5 := hx0.cell 5
  have x6 := hx0.cell 6
  have x7 := hx0.cell 7
  have x8 := hx0.cell 8
  simp at x0 x1 x2 x3 x4 x5 x6 x7 x8
  clear hb0 hx0
  by_cases h1 : e.k = 1
  · have h1' : (e.k == 1) = true := by simpa using h1
    have hz := HZ.out
    rw [if_pos h1] at hz
    clear HZ HO HN HQ
    have HZ := Lib.hid hz
    clear hz
    go_wp2_with fail
    refine (vt_any e.n _ (H.out.n.go HB0.out)).mono ?_
    rintro r w1 ⟨rfl, hb1⟩
    have HB1 := Lib.hid (HB0.out.trans ((hb1).mono HB0.out.size))
    replace x0 := cell_bel hb1 x0
    replace x1 := cell_bel hb1 x1
    replace x2 := cell_bel hb1 x2
    replace x3 := cell_bel hb1 x3
    replace x4 := cell_bel hb1 x4
    replace x5 := cell_bel hb1 x5
    replace x6 := cell_bel hb1 x6
    replace x7 := cell_bel hb1 x7
    replace x8 := cell_bel hb1 x8
    replace hxl := Nat.lt_of_lt_of_le hxl (hb1).size
    clear HB0 hb1
    have HB0 := HB1
    clear HB1
    generalize okT e.n.pt = u at *
    cases u with
    | false =>
      have hz : z = false := by rw [HZ.out]; simp
      subst hz
      go_wp2_with fail
      go_ret
      exact ⟨rfl, HB0.out⟩
    | true =>
      have hz : z = eqT e.o.pt zeroT := by rw [HZ.out]; simp
      subst hz
      clear HZ
      go_wp2_with fail
      refine (zero_any e.o _ (H.out.o.go HB0.out)).mono ?_
      rintro r w1 ⟨rfl, hb1⟩
      go_wp2_with fail
      go_ret
      exact ⟨rfl, HB0.out.trans (hb1.mono HB0.out.size)⟩
  have h1' : (e.k == 1) = false := by simpa using h1
  by_cases h2 : e.k = 2
  · have h2' : (e.k == 2) = true := by simpa using h2
    have hz := HZ.out
    rw [if_neg h1, if_pos h2] at hz
    clear HZ HO HN HQ
    have HZ := Lib.hid hz
    clear hz
    go_wp2_with fail
    refine (vt_any e.o _ (H.out.o.go HB0.out)).mono ?_
    rintro r w1 ⟨rfl, hb1⟩
    have HB1 := Lib.hid (HB0.out.trans ((hb1).mono HB0.out.size))
    replace x0 := cell_bel hb1 x0
    replace x1 := cell_bel hb1 x1
    replace x2 := cell_bel hb1 x2
    replace x3 := cell_bel hb1 x3
    replace x4 := cell_bel hb1 x4
    replace x5 := cell_bel hb1 x5
    replace x6 := cell_bel hb1 x6
    replace x7 := cell_bel hb1 x7
    replace x8 := cell_bel hb1 x8
    replace hxl := Nat.lt_of_lt_of_le hxl (hb1).size
    clear HB0 hb1
    have HB0 := HB1
    clear HB1
    generalize okT e.o.pt = u at *
    cases u with
    | false =>
      have hz : z = false := by rw [HZ.out]; simp
      subst hz
      go_wp2_with fail
      go_ret
      exact ⟨rfl, HB0.out⟩
    | true =>
      have hz : z = eqT e.n.pt zeroT := by rw [HZ.out]; simp
      subst hz
      clear HZ
      go_wp2_with fail
      refine (zero_any e.n _ (H.out.n.go HB0.out)).mono ?_
      rintro r w1 ⟨rfl, hb1⟩
      go_wp2_with fail
      go_ret
      exact ⟨rfl, HB0.out.trans (hb1.mono HB0.out.size)⟩
  have h2' : (e.k == 2) = false := by simpa using h2
  by_cases h3 : e.k = 3
  · have h3' : (e.k == 3) = true := by simpa using h3
    have hz := HZ.out
    rw [if_neg h1, if_neg h2, if_pos h3] at hz
    clear HZ
    have HZ := Lib.hid hz
    clear hz
    go_wp2_with fail
    refine (vt_any e.o _ (H.out.o.go HB0.out)).mono ?_
    rintro r w1 ⟨rfl, hb1⟩
    have HB1 := Lib.hid (HB0.out.trans ((hb1).mono HB0.out.size))
    replace x0 := cell_bel hb1 x0
    replace x1 := cell_bel hb1 x1
    replace x2 := cell_bel hb1 x2
    replace x3 := cell_bel hb1 x3
    replace x4 := cell_bel hb1 x4
    replace x5 := cell_bel hb1 x5
    replace x6 := cell_bel hb1 x6
    replace x7 := cell_bel hb1 x7
    replace x8 := cell_bel hb1 x8
    replace hxl := Nat.lt_of_lt_of_le hxl (hb1).size
    clear HB0 hb1
    have HB0 := HB1
    clear HB1
    generalize okT e.o.pt = u at *
    cases u with
    | false =>
      have hz : z = false := by rw [HZ.out]; simp
      subst hz
      go_wp2_with fail
      go_ret
      exact ⟨rfl, HB0.out⟩
    | true =>
      have ho1 : 1 ≤ e.o.dep.length := (HO.out.1 rfl).2.2.2.1
      clear HO
      go_wp2_with fail
      refine (vt_any e.n _ (H.out.n.go HB0.out)).mono ?_
      rintro r w1 ⟨rfl, hb1⟩
      have HB1 := Lib.hid (HB0.out.trans ((hb1).mono HB0.out.size))
      replace x0 := cell_bel hb1 x0
      replace x1 := cell_bel hb1 x1
      replace x2 := cell_bel hb1 x2
      replace x3 := cell_bel hb1 x3
      replace x4 := cell_bel hb1 x4
      replace x5 := cell_bel hb1 x5
      replace x6 := cell_bel hb1 x6
      replace x7 := cell_bel hb1 x7
      replace x8 := cell_bel hb1 x8
      replace hxl := Nat.lt_of_lt_of_le hxl (hb1).size
      clear HB0 hb1
      have HB0 := HB1
      clear HB1
      generalize okT e.n.pt = u at *
      cases u with
      | false =>
        have hz : z = false := by rw [HZ.out]; simp
        subst hz
        go_wp2_with fail
        go_ret
        exact ⟨rfl, HB0.out⟩
      | true =>
        have hn1 : 1 ≤ e.n.dep.length := (HN.out.1 rfl).2.2.2.1
        clear HN
        go_wp2_with fail
        refine (ord_any e.o e.n _ (H.out.o.go HB0.out) (H.out.n.go HB0.out) ho1 hn1).mono ?_
        rintro r w1 ⟨rfl, hb1⟩
        have HB1 := Lib.hid (HB0.out.trans ((hb1).mono HB0.out.size))
        replace x0 := cell_bel hb1 x0
        replace x1 := cell_bel hb1 x1
        replace x2 := cell_bel hb1 x2
        replace x3 := cell_bel hb1 x3
        replace x4 := cell_bel hb1 x4
        replace x5 := cell_bel hb1 x5
        replace x6 := cell_bel hb1 x6
        replace x7 := cell_bel hb1 x7
        replace x8 := cell_bel hb1 x8
        replace hxl := Nat.lt_of_lt_of_le hxl (hb1).size
        clear HB0 hb1
        have HB0 := HB1
        clear HB1
        generalize cmpV e.o.pt e.n.pt = cv at *
        by_cases hc : cv = 0
        · have hc' : (cv == 0) = true := by simpa using hc
          have hz : z = !eqT e.o.pt e.n.pt := by rw [HZ.out, decide_eq_true (HQ.out.1 hc)]; simp
          clear HQ HZ
          have HZ := Lib.hid hz
          clear hz hc
          go_wp2_with fail
          refine (req_any e.o e.n _ (H.out.o.go HB0.out) (H.out.n.go HB0.out)).mono ?_
          rintro r w1 ⟨rfl, hb1⟩
          generalize eqT e.o.pt e.n.pt = qq at *
          go_wp2_with fail
          go_ret
          exact ⟨by rw [HZ.out]; rfl, HB0.out.trans (hb1.mono HB0.out.size)⟩
        · have hc' : (cv == 0) = false := by simpa using hc
          have hz : z = false := by rw [HZ.out, decide_eq_false (fun h => hc (HQ.out.2 h))]; simp
          subst hz
          clear HQ HZ
          go_wp2_with fail
          go_ret
          exact ⟨rfl, HB0.out⟩
  have h3' : (e.k == 3) = false := by simpa using h3
  have hz := HZ.out
  rw [if_neg h1, if_neg h2, if_neg h3] at hz
  subst hz
  go_wp2_with fail
  go_ret
  exact ⟨rfl, HB0.out⟩
set_option maxRecDepth 100000 in
set_option maxHeartbeats 3200000 in
theorem sm_any (a b : CE) (w : World) (ha : EM w w.heap.size a) (hb : EM w w.heap.size b) :
    Calls Try.prog 49 #[.agg #[.int .i64 (a).k, .int .i64 (a).o.ln, .int .i64 (a).o.dy, .slice (a).o.Ad (a).o.dep.length (a).o.cd, .slice (a).o.Aa (a).o.arr.length (a).o.ca, .int .i64 (a).n.ln, .int .i64 (a).n.dy, .slice (a).n.Ad (a).n.dep.length (a).n.cd, .slice (a).n.Aa (a).n.arr.length (a).n.ca], .agg #[.int .i64 (b).k, .int .i64 (b).o.ln, .int .i64 (b).o.dy, .slice (b).o.Ad (b).o.dep.length (b).o.cd, .slice (b).o.Aa (b).o.arr.length (b).o.ca, .int .i64 (b).n.ln, .int .i64 (b).n.dy, .slice (b).n.Ad (b).n.dep.length (b).n.cd, .slice (b).n.Aa (b).n.arr.length (b).n.ca]] w fun r w' => r = .returned (.bool (eqE a.pe b.pe)) ∧ Below w.heap.size w w' := by
  have HA := Lib.hid ha
  have HB := Lib.hid hb
  clear ha hb
  have HZ := Lib.hid (show eqE a.pe b.pe = (decide (a.k = b.k) && eqT a.o.pt b.o.pt && eqT a.n.pt b.n.pt) from rfl)
  generalize eqE a.pe b.pe = z at *
  go_enter Try.func49, Try.ntmps49
  go_upto_region 1 with fail
  refine world_gen (fun w0 => Below w.heap.size w w0 ∧ Blk w0 w.heap.size 40 #[.int .i64 (a).k, .int .i64 (a).o.ln, .int .i64 (a).o.dy, .slice (a).o.Ad (a).o.dep.length (a).o.cd, .slice (a).o.Aa (a).o.arr.length (a).o.ca, .int .i64 (a).n.ln, .int .i64 (a).n.dy, .slice (a).n.Ad (a).n.dep.length (a).n.cd, .slice (a).n.Aa (a).n.arr.length (a).n.ca] ∧ Blk w0 (w.heap.size + 1) 40 #[.int .i64 (b).k, .int .i64 (b).o.ln, .int .i64 (b).o.dy, .slice (b).o.Ad (b).o.dep.length (b).o.cd, .slice (b).o.Aa (b).o.arr.length (b).o.ca, .int .i64 (b).n.ln, .int .i64 (b).n.dy, .slice (b).n.Ad (b).n.dep.length (b).n.cd, .slice (b).n.Aa (b).n.arr.length (b).n.ca]) ⟨(by repeat (first | exact Below.refl _ _ | (with_reducible refine Below.drew ?_) | (with_reducible refine below_drewN ?_ _) | (with_reducible refine Below.alloc ?_ (by first | omega | (simp; done) | (simp; omega)) _) | (with_reducible refine Below.setCell ?_ (by first | omega | (simp; done) | (simp; omega)) _) | (refine Below.trans ?_ (Below.mono (by with_reducible assumption) (by first | omega | (simp; done) | (simp; omega)))))), (Blk.new w _ _).al _, by simpa using Blk.new (w.alloc _) 40 _⟩ ?_
  rintro w0 ⟨hb0, hx0, hy0⟩
  have HB0 := Lib.hid hb0
  have hxl := hx0.lt
  have hyl := hy0.lt
  have x0 := hx0.cell 0
  have x1 := hx0.cell 1
  have x2 := hx0.cell 2
  have x3 := hx0.cell 3
  have x4 := hx0.cell 4
  have x5 := hx0.cell 5
  have x6 := hx0.cell 6
  have x7 := hx0.cell 7
  have x8 := hx0.cell 8
  have y0 := hy0.cell 0
  have y1 := hy0.cell 1
  have y2 := hy0.cell 2
  have y3 := hy0.cell 3
  have y4 := hy0.cell 4
  have y5 := hy0.cell 5
  have y6 := hy0.cell 6
  have y7 := hy0.cell 7
  have y8 := hy0.cell 8
  simp at x0 x1 x2 x3 x4 x5 x6 x7 x8 y0 y1 y2 y3 y4 y5 y6 y7 y8
  clear hx0 hy0 hb0
  by_cases h1 : a.k = b.k
  case neg =>
    have h1' : (a.k == b.k) = false := by simpa using h1
    have hz : z = false := by rw [HZ.out, decide_eq_false h1]; simp
    subst hz
    go_wp2_with fail
    go_ret
    exact ⟨rfl, HB0.out⟩
  have h1' : (a.k == b.k) = true := by simpa using h1
  go_wp2_with fail
  refine (eq_any a.o b.o _ (HA.out.o.go HB0.out) (HB.out.o.go HB0.out)).mono ?_
  rintro e w1 ⟨rfl, hb1⟩
  replace y5 := cell_bel hb1 y5
  replace y6 := cell_bel hb1 y6
  replace y7 := cell_bel hb1 y7
  replace y8 := cell_bel hb1 y8
  replace hyl := Nat.lt_of_lt_of_le hyl hb1.size
  clear y0 y1 y2 y3 y4
  have HB1 := Lib.hid (HB0.out.trans ((hb1).mono HB0.out.size))
  replace x0 := cell_bel hb1 x0
  replace x1 := cell_bel hb1 x1
  replace x2 := cell_bel hb1 x2
  replace x3 := cell_bel hb1 x3
  replace x4 := cell_bel hb1 x4
  replace x5 := cell_bel hb1 x5
  replace x6 := cell_bel hb1 x6
  replace x7 := cell_bel hb1 x7
  replace x8 := cell_bel hb1 x8
  replace hxl := Nat.lt_of_lt_of_le hxl (hb1).size
  clear HB0 hb1
  have HB0 := HB1
  clear HB1
  generalize eqT a.o.pt b.o.pt = u at *
  cases u with
  | false =>
    have hz : z = false := by rw [HZ.out]; simp
    subst hz
    go_wp2_with fail
    go_ret
    exact ⟨rfl, HB0.out⟩
  | true =>
    have hz : z = eqT a.n.pt b.n.pt := by rw [HZ.out, decide_eq_true h1]; simp
    subst hz
    clear HZ
    go_wp2_with fail
    refine (eq_any a.n b.n _ (HA.out.n.go HB0.out) (HB.out.n.go HB0.out)).mono ?_
    rintro e w1 ⟨rfl, hb1⟩
    go_wp2_with fail
    go_ret
    exact ⟨rfl, HB0.out.trans (hb1.mono HB0.out.size)⟩
set_option maxRecDepth 100000 in
set_option maxHeartbeats 3200000 in
theorem rsm_any (a b : CE) (w : World) (ha : EM w w.heap.size a) (hb : EM w w.heap.size b) :
    Calls Try.prog 40 #[.agg #[.int .i64 (a).k, .int .i64 (a).o.ln, .int .i64 (a).o.dy, .slice (a).o.Ad (a).o.dep.length (a).o.cd, .slice (a).o.Aa (a).o.arr.length (a).o.ca, .int .i64 (a).n.ln, .int .i64 (a).n.dy, .slice (a).n.Ad (a).n.dep.length (a).n.cd, .slice (a).n.Aa (a).n.arr.length (a).n.ca], .agg #[.int .i64 (b).k, .int .i64 (b).o.ln, .int .i64 (b).o.dy, .slice (b).o.Ad (b).o.dep.length (b).o.cd, .slice (b).o.Aa (b).o.arr.length (b).o.ca, .int .i64 (b).n.ln, .int .i64 (b).n.dy, .slice (b).n.Ad (b).n.dep.length (b).n.cd, .slice (b).n.Aa (b).n.arr.length (b).n.ca]] w fun r w' => r = .returned (.bool (eqE a.pe b.pe)) ∧ Below w.heap.size w w' := by
  have HA := Lib.hid ha
  have HB := Lib.hid hb
  clear ha hb
  have HZ := Lib.hid (show eqE a.pe b.pe = (decide (a.k = b.k) && eqT a.o.pt b.o.pt && eqT a.n.pt b.n.pt) from rfl)
  generalize eqE a.pe b.pe = z at *
  go_enter Try.func40, Try.ntmps40
  go_upto_region 1 with fail
  refine world_gen (fun w0 => Below w.heap.size w w0 ∧ Blk w0 w.heap.size 40 #[.int .i64 (a).k, .int .i64 (a).o.ln, .int .i64 (a).o.dy, .slice (a).o.Ad (a).o.dep.length (a).o.cd, .slice (a).o.Aa (a).o.arr.length (a).o.ca, .int .i64 (a).n.ln, .int .i64 (a).n.dy, .slice (a).n.Ad (a).n.dep.length (a).n.cd, .slice (a).n.Aa (a).n.arr.length (a).n.ca] ∧ Blk w0 (w.heap.size + 1) 40 #[.int .i64 (b).k, .int .i64 (b).o.ln, .int .i64 (b).o.dy, .slice (b).o.Ad (b).o.dep.length (b).o.cd, .slice (b).o.Aa (b).o.arr.length (b).o.ca, .int .i64 (b).n.ln, .int .i64 (b).n.dy, .slice (b).n.Ad (b).n.dep.length (b).n.cd, .slice (b).n.Aa (b).n.arr.length (b).n.ca]) ⟨(by repeat (first | exact Below.refl _ _ | (with_reducible refine Below.drew ?_) | (with_reducible refine below_drewN ?_ _) | (with_reducible refine Below.alloc ?_ (by first | omega | (simp; done) | (simp; omega)) _) | (with_reducible refine Below.setCell ?_ (by first | omega | (simp; done) | (simp; omega)) _) | (refine Below.trans ?_ (Below.mono (by with_reducible assumption) (by first | omega | (simp; done) | (simp; omega)))))), (Blk.new w _ _).al _, by simpa using Blk.new (w.alloc _) 40 _⟩ ?_
  rintro w0 ⟨hb0, hx0, hy0⟩
  have HB0 := Lib.hid hb0
  have hxl := hx0.lt
  have hyl := hy0.lt
  have x0 := hx0.cell 0
  have x1 := hx0.cell 1
  have x2 := hx0.cell 2
  have x3 := hx0.cell 3
  have x4 := hx0.cell 4
  have x5 := hx0.cell 5
  have x6 := hx0.cell 6
  have x7 := hx0.cell 7
  have x8 := hx0.cell 8
  have y0 := hy0.cell 0
  have y1 := hy0.cell 1
  have y2 := hy0.cell 2
  have y3 := hy0.cell 3
  have y4 := hy0.cell 4
  have y5 := hy0.cell 5
  have y6 := hy0.cell 6
  have y7 := hy0.cell 7
  have y8 := hy0.cell 8
  simp at x0 x1 x2 x3 x4 x5 x6 x7 x8 y0 y1 y2 y3 y4 y5 y6 y7 y8
  clear hx0 hy0 hb0
  by_cases h1 : a.k = b.k
  case neg =>
    have h1' : (a.k == b.k) = false := by simpa using h1
    have hz : z = false := by rw [HZ.out, decide_eq_false h1]; simp
    subst hz
    go_wp2_with fail
    go_ret
    exact ⟨rfl, HB0.out⟩
  have h1' : (a.k == b.k) = true := by simpa using h1
  go_wp2_with fail
  refine (req_any a.o b.o _ (HA.out.o.go HB0.out) (HB.out.o.go HB0.out)).mono ?_
  rintro e w1 ⟨rfl, hb1⟩
  replace y5 := cell_bel hb1 y5
  replace y6 := cell_bel hb1 y6
  replace y7 := cell_bel hb1 y7
  replace y8 := cell_bel hb1 y8
  replace hyl := Nat.lt_of_lt_of_le hyl hb1.size
  clear y0 y1 y2 y3 y4
  have HB1 := Lib.hid (HB0.out.trans ((hb1).mono HB0.out.size))
  replace x0 := cell_bel hb1 x0
  replace x1 := cell_bel hb1 x1
  replace x2 := cell_bel hb1 x2
  replace x3 := cell_bel hb1 x3
  replace x4 := cell_bel hb1 x4
  replace x5 := cell_bel hb1 x5
  replace x6 := cell_bel hb1 x6
  replace x7 := cell_bel hb1 x7
  replace x8 := cell_bel hb1 x8
  replace hxl := Nat.lt_of_lt_of_le hxl (hb1).size
  clear HB0 hb1
  have HB0 := HB1
  clear HB1
  generalize eqT a.o.pt b.o.pt = u at *
  cases u with
  | false =>
    have hz : z = false := by rw [HZ.out]; simp
    subst hz
    go_wp2_with fail
    go_ret
    exact ⟨rfl, HB0.out⟩
  | true =>
    have hz : z = eqT a.n.pt b.n.pt := by rw [HZ.out, decide_eq_true h1]; simp
    subst hz
    clear HZ
    go_wp2_with fail
    refine (req_any a.n b.n _ (HA.out.n.go HB0.out) (HB.out.n.go HB0.out)).mono ?_
    rintro e w1 ⟨rfl, hb1⟩
    go_wp2_with fail
    go_ret
    exact ⟨rfl, HB0.out.trans (hb1.mono HB0.out.size)⟩
end Go.Proofs.Ythfifejjfnmpoaa
