import Derived.Test.YthmnalaeckfaaaaMp9
namespace Go.Proofs.Ythmnalaeckfaaaa
open Go.RowKit
attribute [local go_sem ↓] run_max_keep
set_option maxRecDepth 100000 in
set_option maxHeartbeats 3200000 in
theorem rapply_any (A B : Option Addr) (ca cb : Nat) (ra : List Row) (x : List Int) (w : World) (ha : MRd w A ra) (hb : Rd w w.heap.size 1 B x.length (x.map (Value.int .i64))) (hx : x.length ≤ 4611686018427387904) :
    Calls Try.prog 31 #[.slice A ra.length ca, .slice B x.length cb] w (VecE (appV (matR ra) x) (appE (matR ra) x) w) := by
  have HA := Lib.hid ha
  have HX := Lib.hid hb
  clear ha hb
  obtain ⟨i0, a1, a2, a3, a4⟩ := info_parts infoInt
  have HI := Lib.hid (And.intro a1 (And.intro a2 (And.intro a3 a4)))
  clear a1 a2 a3 a4
  obtain ⟨r0, a1, a2, a3, a4⟩ := info_parts infoRow
  have HIr := Lib.hid (And.intro a1 (And.intro a2 (And.intro a3 a4)))
  clear a1 a2 a3 a4
  cases h1 : chkM (matR ra)
  · have hno := appE_no (a := matR ra) (x := x) (by simp [h1])
    have HE := Lib.hid hno.1
    have HV := Lib.hid hno.2
    clear hno
    go_enter Try.func31, Try.ntmps31
    go_wp2_with fail
    refine (rcheck_any A ca ra w HA.out).mono ?_
    rintro e w1 ⟨rfl, rfl⟩
    rw [h1]
    clear h1
    go_wp2_with fail
    go_ret2
    exact VecE.err HV.out HE.out.symm (Below.refl _ _)
  have H1 := Lib.hid h1
  clear h1
  cases h2 : vecB ra.length x
  · have hno := appE_no (a := matR ra) (x := x) (by rw [matR_len]; simp [h2])
    have HE := Lib.hid hno.1
    have HV := Lib.hid hno.2
    clear hno
    go_enter Try.func31, Try.ntmps31
    go_wp2_with fail
    refine (rcheck_any A ca ra w HA.out).mono ?_
    rintro e w1 ⟨rfl, rfl⟩
    rw [H1.out]
    go_wp2_with fail
    refine (rvector_any _ B cb x w HX.out hx).mono ?_
    rintro e w1 ⟨rfl, rfl⟩
    rw [h2]
    clear h2
    go_wp2_with fail
    go_ret2
    exact VecE.err HV.out HE.out.symm (Below.refl _ _)
  have H2 := Lib.hid h2
  have hxl : x.length = ra.length := by have := (vecB_iff.1 h2).2.1; omega
  have HXl := Lib.hid hxl
  clear h2 hxl
  have HSA := Lib.hid (show ∀ y ∈ ra, y.zs.length = ra.length from fun y hy => (chk_sq H1.out).2 y.zs (List.mem_map.2 ⟨y, hy, rfl⟩))
  have HBA := Lib.hid (chk_bd H1.out)
  obtain ⟨hn1, hn2⟩ := chk_n H1.out
  have HLl : Hid ((appL ra.length (matR ra) x).length = ra.length) := by show _ = _; simp [appL]
  have HLa : Hid (∀ j, j < ra.length → (appL ra.length (matR ra) x)[j]? = some (mx (fun k => plusF (gm (matR ra) j k) (x.getD k 0)) ra.length)) := fun j h => by simp [appL, h]
  have HEq := Lib.hid (show appE (matR ra) x = if vecB ra.length (appL ra.length (matR ra) x) = true then 0 else 8 by unfold appE; rw [matR_len, if_pos ⟨H1.out, H2.out⟩])
  have HVq := Lib.hid (show appV (matR ra) x = if appE (matR ra) x = 0 then appL ra.length (matR ra) x else [] by unfold appV; rw [matR_len])
  generalize appL ra.length (matR ra) x = L at *
  generalize appE (matR ra) x = er at *
  generalize appV (matR ra) x = ev at *
  obtain ⟨n, hn⟩ : ∃ n, n = ra.length := ⟨_, rfl⟩
  have HRn := Lib.hid hn.symm
  rw [← hn] at HXl HSA HBA hn1 hn2 HLl HLa HEq
  rw [← hn]
  clear hn
  go_enter Try.func31, Try.ntmps31
  go_wp2_with fail
  rw [← HRn.out]
  refine (rcheck_any A ca ra w HA.out).mono ?_
  rintro e w1 ⟨rfl, rfl⟩
  rw [H1.out, HRn.out]
  have H2' := Lib.hid H2.out
  rw [HRn.out] at H2'
  go_wp2_with fail
  refine (rvector_any _ B cb x w HX.out hx).mono ?_
  rintro e w1 ⟨rfl, rfl⟩
  rw [H2'.out, HXl.out]
  go_wp2_with fail
  go_loopg [6, 7, 8, 9, 22] n (fun k v6 _ _ _ v wr => PR2 w L n k v6 v wr)
  case atStart => exact ⟨0, rfl, by omega, World.ownsRow_nil _ _ _ _, Below.refl _ _⟩
  case round =>
    obtain ⟨i, rfl, hi, ho, hbl⟩ := hrel
    have Hi := Lib.hid hi
    have HO := Lib.hid ho
    have HB2 := Lib.hid hbl
    clear hi ho hbl
    by_cases hlt : i < n
    · have HLj := Lib.hid (HLa.out i hlt)
      have HTk := Lib.hid (show L.take (i + 1) = L.take i ++ [mx (fun k => plusF (gm (matR ra) i k) (x.getD k 0)) n] by
        obtain ⟨h, e⟩ := List.getElem?_eq_some_iff.1 HLj.out
        rw [List.take_succ_eq_append_getElem h, e])
      have HTl := Lib.hid (show (L.take i).length = i by have := HLl.out; simp; omega)
      generalize L.take i = l at *
      obtain ⟨A7, c7, e7, _, _⟩ := own_slice HO.out
      subst e7
      have hia : i < ra.length := by rw [HRn.out]; exact hlt
      go_wp2_with fail
      go_loopg [8, 9, 27] n (fun k v9 _ v wx => PR3 w (fun k => plusF (gm (matR ra) i k) (x.getD k 0)) l (.slice A7 l.length c7) n k v9 v wx)
      case atStart => exact ⟨0, rfl, by omega, rfl, HO.out, HB2.out⟩
      case round =>
        clear HO HB2
        obtain ⟨t, rfl, ht, rfl, ho, hbl⟩ := hrel
        have Ht := Lib.hid ht
        have HO := Lib.hid ho
        have HB2 := Lib.hid hbl
        have hz := hbl.size
        clear ht ho hbl
        by_cases htl : t < n
        · have hra := HSA.out ra[i] (List.getElem_mem hia)
          have hxt : t < x.length := by rw [HXl.out]; exact htl
          have ga := gm_row hia (k := t) (by rw [hra]; exact htl)
          obtain ⟨bx, ox, rfl, hbx, x0⟩ := rd1 (HA.out.r.grow HB2.out) i hia
          obtain ⟨bu, ou, eu, hbu, u0⟩ := rd1 ((HA.out.c ra[i] (List.getElem_mem hia)).r.grow HB2.out) t (by rw [hra]; exact htl)
          obtain ⟨bv, ov, ev', hbv, v0⟩ := rd1 (HX.out.grow HB2.out) t hxt
          subst ev'
          rw [← ga] at u0
          unfold Row.val at x0
          rw [eu, hra] at x0
          have ba := HBA.out i t hlt htl
          have bb := vec_bd H2.out t hxt
          have e2 : x[t] = x.getD t 0 := by simp [List.getD_eq_getElem?_getD, hxt]
          rw [e2] at v0 bb
          have HM := Lib.hid (show mx (fun k => plusF (gm (matR ra) i k) (x.getD k 0)) (t + 1) = max (mx (fun k => plusF (gm (matR ra) i k) (x.getD k 0)) t) (plusF (gm (matR ra) i t) (x.getD t 0)) from rfl)
          generalize ra[i].c = cu at *
          clear hra ga eu e2
          generalize gm (matR ra) i t = ea at *
          generalize x.getD t 0 = eb at *
          generalize mx (fun k => plusF (gm (matR ra) i k) (x.getD k 0)) t = mt at *
          have hbx' : bx < wr.heap.size := by omega
          have hbu' : bu < wr.heap.size := by omega
          have hbv' : bv < wr.heap.size := by omega
          go_upto_region 11 with fail
          refine wp_region_overL (by kernel_rfl) (by kernel_rfl) ?_
          repeat (go_big_quiet_step ((go_at_call 50; exact callsOverSame (plus_any _ _ _ (by omega) (by omega)))))
          refine wpQuiet_nil ?_
          intro w6 hb6
          have HO6 := Lib.hid (own_grow HO.out hb6)
          have HB6 := Lib.hid (HB2.out.trans (hb6.mono HB2.out.size))
          clear hb6 HO HB2
          go_wp2_with fail
          go_roundg (n - t - 1)
          case measure => have := Ht.out; omega
          case rel => exact ⟨t + 1, by first | rfl | go_num, by omega, by rw [HM.out], HO6.out, HB6.out⟩
        · obtain rfl : t = n := by have := Ht.out; omega
          generalize mx (fun k => plusF (gm (matR ra) i k) (x.getD k 0)) t = mt at *
          have hsS := HB2.out.size
          have hll : l.length ≤ 12 := by rw [HTl.out]; omega
          go_wp2_with (at_builtin; refine wpList_append_own_at _ rfl _ _ 22 rfl (w.heap.size) 3 i0 _ 1 8 Try.underlying22 HI.out.1 HI.out.2.1 HI.out.2.2.1 HI.out.2.2.2 rfl (by omega) _ l.length _ rfl (World.ownsRow.alloc HO.out _) ⟨wr.heap.size, 0, none⟩ 1 1 [.int .i64 mt] rfl rfl ?c0 ?c1 ?c2 ?c3 ?c4 ?_; rotate_right; intro v' w' hown' hg' _ hat')
          case c0 => exact news_new _ _ _
          case c1 => intro u hu; simp at hu; subst hu; rfl
          case c2 => simp only [maxLen]; omega
          case c3 => omega
          case c4 => simp; omega
          have HO9 := Lib.hid (show w'.ownsRow w.heap.size 3 1 v' (L.take (i + 1)).length ((L.take (i + 1)).map (Value.int .i64)) by
            rw [HTk.out, List.length_append, List.map_append]
            exact hown')
          have HB9 := Lib.hid (below_app (HB2.out.alloc hsS _) (World.ownsRow.alloc HO.out _) (Nat.le_refl _) (by simp; omega) hg')
          clear hown' hg' hat' HO HB2
          go_wp2_with fail
          go_roundg (t - i - 1)
          case measure => have := Hi.out; omega
          case rel => exact ⟨i + 1, by first | rfl | go_num, by omega, HO9.out, HB9.out⟩
    · obtain rfl : i = n := by have := Hi.out; omega
      have htk : L.take i = L := List.take_of_length_le (by rw [HLl.out]; exact Nat.le_refl _)
      rw [htk] at HO
      clear htk
      obtain ⟨A7, c7, e7, _, _⟩ := own_slice HO.out
      subst e7
      have HRo := Lib.hid (show RowOwn wr w.heap.size ⟨A7, c7, L⟩ from ⟨HO.out, by simp only; rw [HLl.out]; omega⟩)
      have HRl := Lib.hid HRo.out.rd
      go_wp2_with fail
      refine (rvector_any (i : Int) A7 c7 L wr HRl.out.r HRl.out.n).mono ?_
      rintro e w1 ⟨rfl, rfl⟩
      cases h3 : vecB i L
      · rw [h3] at HEq
        have he : er = 8 := HEq.out
        subst he
        have hv : ev = [] := HVq.out
        have HV := Lib.hid hv
        clear h3 HEq hv
        go_wp2_with fail
        go_ret2
        exact VecE.err HV.out rfl HB2.out
      · rw [h3] at HEq
        have he : er = 0 := HEq.out
        subst he
        have hv : ev = L := HVq.out
        have HV := Lib.hid hv
        clear h3 HEq hv
        go_wp2_with fail
        go_ret2
        exact ⟨⟨A7, c7, L⟩, rfl, HV.out.symm, HRo.out, HB2.out⟩
end Go.Proofs.Ythmnalaeckfaaaa
