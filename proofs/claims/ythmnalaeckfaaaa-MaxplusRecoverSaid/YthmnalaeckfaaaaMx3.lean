import Derived.Test.YthmnalaeckfaaaaMx2
namespace Go.Proofs.Ythmnalaeckfaaaa
open Go.RowKit
theorem sm_rowbd {n : Nat} {rows : List Row} (h : SmM n rows) (hn : 0 < rows.length) : rows[0].zs.length = n ∧ BdV 29 rows[0].zs := by
  have h1 := h rows[0] (List.getElem_mem hn)
  exact ⟨h1.1, fun e he => by rcases h1.2 e he with h | h <;> omega⟩
/-- what is known of a vector in a law -/
structure VxI (n : Nat) (A : Option Addr) (p : List Int) (w : World) : Prop where
  l : p.length = n
  r : Rd w w.heap.size 1 A p.length (p.map (Value.int .i64))
theorem VxI.grow {n : Nat} {A : Option Addr} {p : List Int} {w w' : World} (h : VxI n A p w) (hb : Below w.heap.size w w') : VxI n A p w' := ⟨h.l, (h.r.grow hb).more hb.size⟩
theorem apply_law {n : Nat} {A A' : Option Addr} {c c' : Nat} {rows : List Row} {p : List (List Int)} {x : List Int} {B C : Int} (w : World) (h : MxI n A c rows p w) (h' : VxI n A' x w) (hn : 1 ≤ n ∧ n ≤ 12) (hs : Sq n p) (hb : Go.Proofs.Ythmnalaeckfaaaa.Bd B p n) (hx : BdV C x) (h0 : 0 ≤ B ∧ 0 ≤ C) (hm : B + C ≤ 68719476736) :
    Calls Try.prog 30 #[.slice A n c, .slice A' n c'] w fun e w' => ∃ (A1 : Option Addr) (c1 : Nat), e = .returned (.tuple #[.slice A1 n c1, .int .i64 0]) ∧ VxI n A1 (appL n p x) w' ∧ Below w.heap.size w w' := by
  obtain ⟨rfl, rfl, hr⟩ := h
  obtain ⟨hl', hr'⟩ := h'
  have hp := appE_ok hn hs hb hl' hx h0 hm
  have hc := apply_any A A' c c' rows x w hr hr' (by omega)
  rw [hl'] at hc
  refine hc.mono ?_
  rintro e w' ⟨⟨A1, c1, zs⟩, rfl, e1, ho, hbl⟩
  rw [hp.2] at e1
  simp only at e1
  subst e1
  refine ⟨A1, c1, by rw [hp.1]; unfold Row.val; simp only; rw [appL_len], ⟨appL_len _ _ _, ho.rd.r⟩, hbl⟩
theorem samev_law {n : Nat} {A A' : Option Addr} {c c' : Nat} {p p' : List Int} (w : World) (h : VxI n A p w) (h' : VxI n A' p' w) (hn : n ≤ 12) (e : p' = p) :
    Calls Try.prog 25 #[.slice A n c, .slice A' n c'] w fun e w' => e = .returned (.bool true) ∧ Below w.heap.size w w' := by
  subst e
  obtain ⟨hl, hr⟩ := h
  obtain ⟨_, hr'⟩ := h'
  exact sameInt_yes A A' n n c c' p' w (by rw [hl] at hr; exact hr) (by rw [hl] at hr'; exact hr') hl.symm hl.symm (by omega)
set_option maxRecDepth 100000 in
set_option maxHeartbeats 6400000 in
theorem associative_true (a0 : Int) (A1 : Option Addr) (n1 c1 : Nat) (z1 : List Int) (A2 : Option Addr) (n2 c2 : Nat) (z2 : List Int) (A3 : Option Addr) (n3 c3 : Nat) (z3 : List Int) (A4 : Option Addr) (n4 c4 : Nat) (z4 : List Int) (w : World) (_w0 : (Lit.int .i64 a0).wf = true) (h1 : Rd w w.heap.size 1 A1 n1 (z1.map (Value.int .i64))) (m1 : n1 ≤ c1 ∧ c1 ≤ maxLen ∧ c1 * 8 ≤ 140737488351232) (h2 : Rd w w.heap.size 1 A2 n2 (z2.map (Value.int .i64))) (m2 : n2 ≤ c2 ∧ c2 ≤ maxLen ∧ c2 * 8 ≤ 140737488351232) (h3 : Rd w w.heap.size 1 A3 n3 (z3.map (Value.int .i64))) (m3 : n3 ≤ c3 ∧ c3 ≤ maxLen ∧ c3 * 8 ≤ 140737488351232) (h4 : Rd w w.heap.size 1 A4 n4 (z4.map (Value.int .i64))) (m4 : n4 ≤ c4 ∧ c4 ≤ maxLen ∧ c4 * 8 ≤ 140737488351232) :
    Calls Try.prog 9 #[.int .i64 a0, .slice A1 n1 c1, .slice A2 n2 c2, .slice A3 n3 c3, .slice A4 n4 c4] w fun e w' => e = .returned (.bool true) ∧ Below w.heap.size w w' := by
  have I1 := Lib.hid h1
  have I2 := Lib.hid h2
  have I3 := Lib.hid h3
  have I4 := Lib.hid h4
  have Hm := Lib.hid (show n1 ≤ maxLen ∧ n2 ≤ maxLen ∧ n3 ≤ maxLen ∧ n4 ≤ maxLen by omega)
  clear h1 m1 h2 m2 h3 m3 h4 m4
  go_enter Try.func9, Try.ntmps9
  go_wp2_with fail
  refine (pick_any a0 4 w (by omega) (by omega)).mono ?_
  rintro e w1 ⟨rfl, rfl⟩
  have hp := pick_bd a0 4 (by omega) (by omega)
  obtain ⟨n, hn⟩ := Int.eq_ofNat_of_zero_le (show 0 ≤ 1 + pick a0 4 by omega)
  have hnb : 1 ≤ n ∧ n ≤ 4 := by omega
  obtain ⟨hn1, hn2⟩ := hnb
  generalize pick a0 4 = p0 at *
  obtain rfl : p0 = (n : Int) - 1 := by omega
  have hn3 : (1 + ((n : Int) - 1)) = n := by omega
  clear hp hn
  go_wp2_with fail
  try rw [hn3]
  clear hn3
  have hn12 : n ≤ 12 := by omega
  refine (matrix_law n A1 n1 c1 z1 w ⟨hn1, hn12⟩ I1.out Hm.out.1).mono ?_
  rintro e w5 ⟨A5, c5, r5, a, rfl, h5, hs5, hb5⟩
  have Ha := Lib.hid h5
  have Sa := Lib.hid hs5
  have HB5 := Lib.hid hb5
  clear h5 hs5 hb5
  go_wp2_with fail
  refine (matrix_law n A2 n2 c2 z2 w5 ⟨hn1, hn12⟩ ((I2.out.grow HB5.out).more HB5.out.size) Hm.out.2.1).mono ?_
  rintro e w6 ⟨A6, c6, r6, b, rfl, h6, hs6, hb6⟩
  have Ha := Lib.hid (Ha.out.grow hb6)
  have Hb := Lib.hid h6
  have Sb := Lib.hid hs6
  have HB6 := Lib.hid (HB5.out.trans (hb6.mono HB5.out.size))
  clear h6 hs6 hb6
  go_wp2_with fail
  refine (matrix_law n A3 n3 c3 z3 w6 ⟨hn1, hn12⟩ ((I3.out.grow HB6.out).more HB6.out.size) Hm.out.2.2.1).mono ?_
  rintro e w7 ⟨A7, c7, r7, c, rfl, h7, hs7, hb7⟩
  have Ha := Lib.hid (Ha.out.grow hb7)
  have Hb := Lib.hid (Hb.out.grow hb7)
  have Hc := Lib.hid h7
  have Sc := Lib.hid hs7
  have HB7 := Lib.hid (HB6.out.trans (hb7.mono HB6.out.size))
  clear h7 hs7 hb7
  go_wp2_with fail
  refine (matrix_any n A4 n4 c4 z4 w7 ⟨hn1, hn12⟩ ((I4.out.grow HB7.out).more HB7.out.size) Hm.out.2.2.2).mono ?_
  rintro e w8 ⟨A8, c8, r8, rfl, hl8, hs8, ho8, hb8⟩
  have Ha := Lib.hid (Ha.out.grow hb8)
  have Hb := Lib.hid (Hb.out.grow hb8)
  have Hc := Lib.hid (Hc.out.grow hb8)
  have HB8 := Lib.hid (HB7.out.trans (hb8.mono HB7.out.size))
  have hr0 : 0 < r8.length := by omega
  have hv := sm_rowbd hs8 hr0
  have hvr := (ho8.rdn.c r8[0] (List.getElem_mem hr0)).r
  obtain ⟨bx, ox, rfl, hbx, x0⟩ := rd1 ho8.rdn.r 0 hr0
  unfold Row.val at x0
  rw [hv.1, Nat.add_zero] at x0
  generalize r8[0] = row at *
  obtain ⟨Ax, cx, x⟩ := row
  simp only at hv hvr x0
  have Hx := Lib.hid (show VxI n Ax x w8 from ⟨hv.1, hvr⟩)
  have Vx := Lib.hid hv.2
  clear hl8 hs8 ho8 hb8 hr0 hv hvr I1 I2 I3 I4 Hm HB5 HB6 HB7
  go_wp2_with fail
  refine (mul_law w8 Ha.out Hb.out ⟨hn1, hn12⟩ Sa.out.1 Sb.out.1 Sa.out.2.1 Sb.out.2.1 (by omega) (by omega)).mono ?_
  rintro e w9 ⟨A9, c9, r9, rfl, h9, hb9⟩
  have H9 := Lib.hid h9
  have HB9 := Lib.hid (HB8.out.trans (hb9.mono HB8.out.size))
  clear h9
  have Ha := Lib.hid (Ha.out.grow hb9)
  have Hb := Lib.hid (Hb.out.grow hb9)
  have Hc := Lib.hid (Hc.out.grow hb9)
  have Hx := Lib.hid (Hx.out.grow hb9)
  clear hb9 x0 hbx
  go_wp2_with fail
  refine (mul_law w9 Hb.out Hc.out ⟨hn1, hn12⟩ Sb.out.1 Sc.out.1 Sb.out.2.1 Sc.out.2.1 (by omega) (by omega)).mono ?_
  rintro e w10 ⟨A10, c10, r10, rfl, h10, hb10⟩
  have H10 := Lib.hid h10
  have HB10 := Lib.hid (HB9.out.trans (hb10.mono HB9.out.size))
  clear h10
  have Ha := Lib.hid (Ha.out.grow hb10)
  have Hb := Lib.hid (Hb.out.grow hb10)
  have Hc := Lib.hid (Hc.out.grow hb10)
  have Hx := Lib.hid (Hx.out.grow hb10)
  have H9 := Lib.hid (H9.out.grow hb10)
  clear hb10
  go_wp2_with fail
  refine (mul_law w10 H9.out Hc.out ⟨hn1, hn12⟩ (prod_sq _ _ _) Sc.out.1 (prod_bd Sa.out.2.1 Sb.out.2.1) Sc.out.2.1 (by omega) (by omega)).mono ?_
  rintro e w11 ⟨A11, c11, r11, rfl, h11, hb11⟩
  have H11 := Lib.hid h11
  have HB11 := Lib.hid (HB10.out.trans (hb11.mono HB10.out.size))
  clear h11
  have Ha := Lib.hid (Ha.out.grow hb11)
  have Hb := Lib.hid (Hb.out.grow hb11)
  have Hx := Lib.hid (Hx.out.grow hb11)
  have H9 := Lib.hid (H9.out.grow hb11)
  have H10 := Lib.hid (H10.out.grow hb11)
  clear hb11
  go_wp2_with fail
  refine (mul_law w11 Ha.out H10.out ⟨hn1, hn12⟩ Sa.out.1 (prod_sq _ _ _) Sa.out.2.1 (prod_bd Sb.out.2.1 Sc.out.2.1) (by omega) (by omega)).mono ?_
  rintro e w12 ⟨A12, c12, r12, rfl, h12, hb12⟩
  have H12 := Lib.hid h12
  have HB12 := Lib.hid (HB11.out.trans (hb12.mono HB11.out.size))
  clear h12
  have Ha := Lib.hid (Ha.out.grow hb12)
  have Hb := Lib.hid (Hb.out.grow hb12)
  have Hx := Lib.hid (Hx.out.grow hb12)
  have H9 := Lib.hid (H9.out.grow hb12)
  have H11 := Lib.hid (H11.out.grow hb12)
  have HL := Lib.hid (show MxI n A11 c11 r11 (prodM n a (prodM n b c)) w12 by rw [← prod_assoc Sa.out.2.1 Sb.out.2.1 Sc.out.2.1 (by omega) (by omega) (by omega) (by omega)]; exact H11.out)
  clear hb12 H11
  go_wp2_with fail
  refine (apply_law w12 Hb.out Hx.out ⟨hn1, hn12⟩ Sb.out.1 Sb.out.2.1 Vx.out (by omega) (by omega)).mono ?_
  rintro e w13 ⟨A13, c13, rfl, h13, hb13⟩
  have H13 := Lib.hid h13
  have HB13 := Lib.hid (HB12.out.trans (hb13.mono HB12.out.size))
  have Ha := Lib.hid (Ha.out.grow hb13)
  have Hx := Lib.hid (Hx.out.grow hb13)
  have H9 := Lib.hid (H9.out.grow hb13)
  have HL := Lib.hid (HL.out.grow hb13)
  have H12 := Lib.hid (H12.out.grow hb13)
  clear h13 hb13
  go_wp2_with fail
  refine (apply_law w13 Ha.out H13.out ⟨hn1, hn12⟩ Sa.out.1 Sa.out.2.1 (appL_bd Sb.out.2.1 Hx.out.l Vx.out) (by omega) (by omega)).mono ?_
  rintro e w14 ⟨A14, c14, rfl, h14, hb14⟩
  have H14 := Lib.hid h14
  have HB14 := Lib.hid (HB13.out.trans (hb14.mono HB13.out.size))
  have Hx := Lib.hid (Hx.out.grow hb14)
  have H9 := Lib.hid (H9.out.grow hb14)
  have HL := Lib.hid (HL.out.grow hb14)
  have H12 := Lib.hid (H12.out.grow hb14)
  clear h14 hb14
  go_wp2_with fail
  refine (apply_law w14 H9.out Hx.out ⟨hn1, hn12⟩ (prod_sq _ _ _) (prod_bd Sa.out.2.1 Sb.out.2.1) Vx.out (by omega) (by omega)).mono ?_
  rintro e w15 ⟨A15, c15, rfl, h15, hb15⟩
  have H15 := Lib.hid h15
  have HB15 := Lib.hid (HB14.out.trans (hb15.mono HB14.out.size))
  have H14 := Lib.hid (H14.out.grow hb15)
  have HL := Lib.hid (HL.out.grow hb15)
  have H12 := Lib.hid (H12.out.grow hb15)
  have HE := Lib.hid (app_assoc Sa.out.2.1 Sb.out.2.1 Hx.out.l Vx.out (by omega) (by omega) (by omega) (by omega))
  clear h15 hb15
  go_wp2_with fail
  refine (awake_any w15).mono ?_
  rintro e w16 ⟨rfl, hb16⟩
  have HB16 := Lib.hid (HB15.out.trans (hb16.mono HB15.out.size))
  have H14 := Lib.hid (H14.out.grow hb16)
  have H15 := Lib.hid (H15.out.grow hb16)
  have HL := Lib.hid (HL.out.grow hb16)
  have H12 := Lib.hid (H12.out.grow hb16)
  clear hb16
  go_wp2_with fail
  refine (same_law w16 HL.out H12.out rfl).mono ?_
  rintro e w17 ⟨rfl, hb17⟩
  have HB17 := Lib.hid (HB16.out.trans (hb17.mono HB16.out.size))
  have H14 := Lib.hid (H14.out.grow hb17)
  have H15 := Lib.hid (H15.out.grow hb17)
  clear hb17
  go_wp2_with fail
  refine (samev_law w17 H14.out H15.out hn12 HE.out).mono ?_
  rintro e w18 ⟨rfl, hb18⟩
  have HB18 := Lib.hid (HB17.out.trans (hb18.mono HB17.out.size))
  clear hb18
  go_wp2_with fail
  go_ret
  exact ⟨rfl, HB18.out⟩
end Go.Proofs.Ythmnalaeckfaaaa
