import Derived.Test.YthmnalaeckfaaaaMp8
namespace Go.Proofs.Ythmnalaeckfaaaa
open Go.RowKit
attribute [local go_sem ↓] run_max_keep
def AP1 (w : World) (L : List Int) (g n : Nat) (k : Nat) (v : Value) (wr : World) : Prop :=
  ∃ i : Nat, v = .int .i64 i ∧ i + k = n ∧ wr.ownsRow w.heap.size 3 1 (.slice (some ⟨g, 0, none⟩) n n) n ((L.take i ++ List.replicate (n - i) 0).map (Value.int .i64)) ∧ Below w.heap.size w wr
def AP2 (w : World) (Z : List Int) (i : Nat) (f : Nat → Int) (g n : Nat) (k : Nat) (v : Value) (wr : World) : Prop :=
  ∃ t : Nat, v = .int .i64 t ∧ t + k = n ∧ wr.ownsRow w.heap.size 3 1 (.slice (some ⟨g, 0, none⟩) n n) n ((Z.set i (mx f t)).map (Value.int .i64)) ∧ Below w.heap.size w wr
theorem appE_no {a : List (List Int)} {x : List Int} (h : ¬ (chkM a = true ∧ vecB a.length x = true)) : appE a x = 1 ∧ appV a x = [] := by
  have h1 : appE a x = 1 := by unfold appE; rw [if_neg h]
  exact ⟨h1, by unfold appV; rw [h1]; rfl⟩
set_option maxRecDepth 100000 in
set_option maxHeartbeats 3200000 in
theorem apply_any (A B : Option Addr) (ca cb : Nat) (ra : List Row) (x : List Int) (w : World) (ha : MRd w A ra) (hb : Rd w w.heap.size 1 B x.length (x.map (Value.int .i64))) (hx : x.length ≤ 4611686018427387904) :
    Calls Try.prog 30 #[.slice A ra.length ca, .slice B x.length cb] w (VecE (appV (matR ra) x) (appE (matR ra) x) w) := by
  have HA := Lib.hid ha
  have HX := Lib.hid hb
  clear ha hb
  obtain ⟨i0, a1, a2, a3, a4⟩ := info_parts infoInt
  have HI := Lib.hid (And.intro a1 (And.intro a2 (And.intro a3 a4)))
  clear a1 a2 a3 a4
  obtain ⟨r0, a1, a2, a3, a4⟩ := info_parts infoRow
  have HIr := Lib.hid (And.intro a1 (And.intro a2 (And.intro a3 a4)))
  clear a1 a2 a3 a4
  cases h1 : chkM (matR ra)
  · have hno := appE_no (a := matR ra) (x := x) (by simp [h1])
    have HE := Lib.hid hno.1
    have HV := Lib.hid hno.2
    clear hno
    go_enter Try.func30, Try.ntmps30
    go_wp2_with fail
    refine (check_any A ca ra w HA.out).mono ?_
    rintro e w1 ⟨rfl, rfl⟩
    rw [h1]
    clear h1
    go_wp2_with fail
    go_ret2
    exact VecE.err HV.out HE.out.symm (Below.refl _ _)
  have H1 := Lib.hid h1
  clear h1
  cases h2 : vecB ra.length x
  · have hno := appE_no (a := matR ra) (x := x) (by rw [matR_len]; simp [h2])
    have HE := Lib.hid hno.1
    have HV := Lib.hid hno.2
    clear hno
    go_enter Try.func30, Try.ntmps30
    go_wp2_with fail
    refine (check_any A ca ra w HA.out).mono ?_
    rintro e w1 ⟨rfl, rfl⟩
    rw [H1.out]
    go_wp2_with fail
    refine (vector_any _ B cb x w HX.out hx).mono ?_
    rintro e w1 ⟨rfl, rfl⟩
    rw [h2]
    clear h2
    go_wp2_with fail
    go_ret2
    exact VecE.err HV.out HE.out.symm (Below.refl _ _)
  have H2 := Lib.hid h2
  have hxl : x.length = ra.length := by have := (vecB_iff.1 h2).2.1; omega
  have HXl := Lib.hid hxl
  clear h2 hxl
  have HSA := Lib.hid (show ∀ y ∈ ra, y.zs.length = ra.length from fun y hy => (chk_sq H1.out).2 y.zs (List.mem_map.2 ⟨y, hy, rfl⟩))
  have HBA := Lib.hid (chk_bd H1.out)
  obtain ⟨hn1, hn2⟩ := chk_n H1.out
  have HLl : Hid ((appL ra.length (matR ra) x).length = ra.length) := by show _ = _; simp [appL]
  have HLa : Hid (∀ j, j < ra.length → (appL ra.length (matR ra) x)[j]? = some (mx (fun k => plusF (gm (matR ra) j k) (x.getD k 0)) ra.length)) := fun j h => by simp [appL, h]
  have HEq := Lib.hid (show appE (matR ra) x = if vecB ra.length (appL ra.length (matR ra) x) = true then 0 else 8 by unfold appE; rw [matR_len, if_pos ⟨H1.out, H2.out⟩])
  have HVq := Lib.hid (show appV (matR ra) x = if appE (matR ra) x = 0 then appL ra.length (matR ra) x else [] by unfold appV; rw [matR_len])
  generalize appL ra.length (matR ra) x = L at *
  generalize appE (matR ra) x = er at *
  generalize appV (matR ra) x = ev at *
  obtain ⟨n, hn⟩ : ∃ n, n = ra.length := ⟨_, rfl⟩
  have HRn := Lib.hid hn.symm
  rw [← hn] at HXl HSA HBA hn1 hn2 HLl HLa HEq
  rw [← hn]
  clear hn
  go_enter Try.func30, Try.ntmps30
  go_wp2_with fail
  rw [← HRn.out]
  refine (check_any A ca ra w HA.out).mono ?_
  rintro e w1 ⟨rfl, rfl⟩
  rw [H1.out, HRn.out]
  have H2' := Lib.hid H2.out
  rw [HRn.out] at H2'
  go_wp2_with fail
  refine (vector_any _ B cb x w HX.out hx).mono ?_
  rintro e w1 ⟨rfl, rfl⟩
  rw [H2'.out, HXl.out]
  have HX' := Lib.hid HX.out
  go_upto_region 4 with (at_make; refine wpList_make_full _ rfl _ _ 22 rfl w.heap.size 3 i0 _ 1 Try.underlying22 HI.out.1 HI.out.2.1 HI.out.2.2.1 .i64 .i64 _ _ n rfl rfl rfl rfl ?m1 ?m2 ?m3 ?_; rotate_right; intro w3 hown3 hg3)
  case m1 => rw [HI.out.2.2.2]; omega
  case m2 => simp only [maxLen]; omega
  case m3 => omega
  have HR0 := Lib.hid (show w3.ownsRow w.heap.size 3 1 (.slice (some ⟨w.heap.size, 0, none⟩) n n) n ((L.take 0 ++ List.replicate (n - 0) 0).map (Value.int .i64)) by
    have h := madeCells_one (Value.int .i64) 0 n
    rw [List.take_zero, List.nil_append, Nat.sub_zero, ← h]
    exact hown3)
  have HB0 := Lib.hid (show Below w.heap.size w w3 from (Below.refl _ _).grown hg3 (Nat.le_refl _) (by simp))
  clear hown3 hg3
  go_wp2_with fail
  obtain ⟨g, hg⟩ : ∃ g, g = w.heap.size := ⟨_, rfl⟩
  have HR1 := Lib.hid (show w3.ownsRow w.heap.size 3 1 (.slice (some ⟨g, 0, none⟩) n n) n ((L.take 0 ++ List.replicate (n - 0) 0).map (Value.int .i64)) by rw [hg]; exact HR0.out)
  rw [← hg]
  clear HR0 hg
  go_loopg [7, 8, 9, 10, 26] n (fun k _ _ _ _ v wr => AP1 w L g n k v wr)
  case atStart => exact ⟨0, rfl, by omega, HR1.out, HB0.out⟩
  case round =>
    clear HR1 HB0
    obtain ⟨i, rfl, hi, ho, hbl⟩ := hrel
    have Hi := Lib.hid hi
    have HO := Lib.hid ho
    have HB2 := Lib.hid hbl
    clear hi ho hbl
    by_cases hlt : i < n
    · have HLj := Lib.hid (HLa.out i hlt)
      have HF := Lib.hid (fill_set' L 0 _ i n HLl.out HLj.out)
      obtain ⟨hzl, l1, l2, hgl, hgb⟩ := row_last HO.out
      have l3 := l1 i (by omega)
      have l4 := l2 i
      have HZl := Lib.hid hzl
      have HS := Lib.hid (own1_set HO.out i (-1125899906842624))
      have HB9 := Lib.hid (HB2.out.setCell (p := ⟨g, i, none⟩) hgb (.int .i64 (-1125899906842624)))
      generalize (L.take i ++ List.replicate (n - i) 0)[i]'(by omega) = zj at *
      generalize L.take i ++ List.replicate (n - i) 0 = Z at *
      have hia : i < ra.length := by rw [HRn.out]; exact hlt
      have hra := HSA.out ra[i] (List.getElem_mem hia)
      have HRA := Lib.hid hra
      have HGr := Lib.hid (show ∀ t, t < n → gm (matR ra) i t = (ra[i].zs).getD t 0 from fun t ht => by rw [gm_row hia (k := t) (by rw [hra]; exact ht)]; simp [List.getD_eq_getElem?_getD, hra, ht])
      obtain ⟨bx, ox, rfl, hbx, x0⟩ := rd1 (HA.out.r.grow HB2.out) i hia
      have HCi := Lib.hid (HA.out.c ra[i] (List.getElem_mem hia))
      unfold Row.val at x0
      rw [hra] at x0
      generalize ra[i] = rw1 at *
      obtain ⟨Aw, cw, zw⟩ := rw1
      simp only at x0 hra
      clear l1 l2 hzl hra hia
      go_wp2_with fail
      clear l3 l4 hgl hgb x0 HO HB2
      go_loopg [9, 10, 36] n (fun k _ _ v wr => AP2 w Z i (fun k => plusF (gm (matR ra) i k) (x.getD k 0)) g n k v wr)
      case atStart => exact ⟨0, rfl, by omega, HS.out, HB9.out⟩
      case round =>
        clear HS HB9
        obtain ⟨t, rfl, ht, ho, hbl⟩ := hrel
        have Ht := Lib.hid ht
        have HO := Lib.hid ho
        have HB2 := Lib.hid hbl
        have hz := hbl.size
        clear ht ho hbl
        by_cases htl : t < n
        · have hxt : t < x.length := by rw [HXl.out]; exact htl
          have hwt : t < zw.length := by have := HRA.out; (try simp only at this); omega
          obtain ⟨bu, ou, eu, hbu, u0⟩ := rd1 (HCi.out.r.grow HB2.out) t hwt
          obtain ⟨bv, ov, ev', hbv, v0⟩ := rd1 (HX.out.grow HB2.out) t hxt
          simp only at eu u0
          subst eu ev'
          have ba := HBA.out i t hlt htl
          have bb := vec_bd H2.out t hxt
          have e1 := HGr.out t htl
          try simp only at e1
          have e1' : zw[t] = gm (matR ra) i t := by rw [e1]; simp [List.getD_eq_getElem?_getD, hwt]
          have e2 : x[t] = x.getD t 0 := by simp [List.getD_eq_getElem?_getD, hxt]
          rw [e1'] at u0
          rw [e2] at v0 bb
          have HM := Lib.hid (show mx (fun k => plusF (gm (matR ra) i k) (x.getD k 0)) (t + 1) = max (mx (fun k => plusF (gm (matR ra) i k) (x.getD k 0)) t) (plusF (gm (matR ra) i t) (x.getD t 0)) from rfl)
          clear e1 e1' e2
          generalize gm (matR ra) i t = ea at *
          generalize x.getD t 0 = eb at *
          generalize mx (fun k => plusF (gm (matR ra) i k) (x.getD k 0)) t = mt at *
          obtain ⟨hzl, l1, l2, hgl, hgb⟩ := row_last HO.out
          have l3 := l1 i (by omega)
          rw [List.getElem_set_self] at l3
          clear l1 l2 hzl
          have hbu' : bu < wr.heap.size := by omega
          have hbv' : bv < wr.heap.size := by omega
          go_upto_region 11 with fail
          refine wp_region_overT 13 (by kernel_rfl) (by kernel_rfl) ?_
          simp only [List.take_succ_cons, List.take_zero, List.drop_succ_cons, List.drop_zero]
          repeat (go_big_quiet_step ((go_at_call 49; exact callsOverSame (sum_any _ _ _ (by omega) (by omega)))))
          refine wpQuiet_nil ?_
          intro w6 hb6
          have HO6 := Lib.hid (own_grow HO.out hb6)
          have HB6 := Lib.hid (HB2.out.trans (hb6.mono HB2.out.size))
          clear hb6 HO HB2 l3 hgl u0 v0
          obtain ⟨hzl, l1, l2, hgl, _⟩ := row_last HO6.out
          have l3 := l1 i (by omega)
          have l4 := l2 i
          rw [List.getElem_set_self] at l3
          have HS := Lib.hid (own1_set HO6.out i (max mt (plusF ea eb)))
          have HB9 := Lib.hid (HB6.out.setCell (p := ⟨g, i, none⟩) hgb (.int .i64 (max mt (plusF ea eb))))
          rw [List.set_set] at HS
          clear l1 l2 hzl
          go_wp2_with fail
          go_roundg (n - t - 1)
          case measure => have := Ht.out; omega
          case rel => exact ⟨t + 1, by first | rfl | go_num, by omega, by rw [HM.out]; exact HS.out, HB9.out⟩
        · obtain rfl : t = n := by have := Ht.out; omega
          rw [HF.out] at HO
          go_wp2_with fail
          go_roundg (t - i - 1)
          case measure => have := Hi.out; omega
          case rel => exact ⟨i + 1, by first | rfl | go_num, by omega, HO.out, HB2.out⟩
    · obtain rfl : i = n := by have := Hi.out; omega
      have htk : L.take i ++ List.replicate (i - i) 0 = L := by
        rw [Nat.sub_self, List.replicate_zero, List.append_nil, List.take_of_length_le (by rw [HLl.out]; exact Nat.le_refl _)]
      rw [htk] at HO
      clear htk
      have HRo := Lib.hid (show RowOwn wr w.heap.size ⟨some ⟨g, 0, none⟩, i, L⟩ from ⟨by
        have e : Row.val ⟨some ⟨g, 0, none⟩, i, L⟩ = .slice (some ⟨g, 0, none⟩) i i := by unfold Row.val; simp only; rw [HLl.out]
        rw [e]
        simp only
        rw [HLl.out]
        exact HO.out, by simp only; rw [HLl.out]; omega⟩)
      have HRl := Lib.hid HRo.out.rd
      go_wp2_with fail
      have hcall := vector_any (i : Int) (some ⟨g, 0, none⟩) i L wr HRl.out.r HRl.out.n
      rw [HLl.out] at hcall
      refine hcall.mono ?_
      rintro e w1 ⟨rfl, rfl⟩
      clear hcall
      cases h3 : vecB i L
      · rw [h3] at HEq
        have he : er = 8 := HEq.out
        subst he
        have hv : ev = [] := HVq.out
        have HV := Lib.hid hv
        clear h3 HEq hv
        go_wp2_with fail
        go_ret2
        exact VecE.err HV.out rfl HB2.out
      · rw [h3] at HEq
        have he : er = 0 := HEq.out
        subst he
        have hv : ev = L := HVq.out
        have HV := Lib.hid hv
        clear h3 HEq hv
        go_wp2_with fail
        go_ret2
        exact ⟨⟨some ⟨g, 0, none⟩, i, L⟩, by unfold Row.val; simp only; rw [HLl.out]; rfl, HV.out.symm, HRo.out, HB2.out⟩
end Go.Proofs.Ythmnalaeckfaaaa
