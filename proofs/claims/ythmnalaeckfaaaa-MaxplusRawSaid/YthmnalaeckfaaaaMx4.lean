import Derived.Test.YthmnalaeckfaaaaMx2
import Derived.Test.YthmnalaeckfaaaaMp24
namespace Go.Proofs.Ythmnalaeckfaaaa
open Go.RowKit
theorem Rd.front {w : World} {B n p : Nat} {A : Option Addr} {xs : List Value} (h : Rd w B 1 A n xs) (hp : p ≤ n) : Rd w B 1 A p (xs.take p) := by
  have hl := h.1
  refine ⟨by simp; omega, fun hp0 => ?_⟩
  obtain ⟨b, off, e, hb, hc⟩ := h.2 (by omega)
  refine ⟨b, off, e, hb, fun j u hu => hc j u ?_⟩
  rw [List.getElem?_take] at hu
  split at hu
  · exact hu
  · cases hu
/-- a row is cut -/
theorem MOwn.cut {w : World} {base g n c p i : Nat} {rows : List Row} (h : MOwn w base (.slice (some ⟨g, 0, none⟩) n c) rows) (hi : i < rows.length) (hp : p ≤ rows[i].zs.length) :
    MRd (w.setCell ⟨g, i, none⟩ (.slice rows[i].A p rows[i].c)) (some ⟨g, 0, none⟩) (rows.set i ⟨rows[i].A, rows[i].c, rows[i].zs.take p⟩) := by
  have hg := own_block h.o g rfl
  have hb : Below w.heap.size w w := Below.refl _ _
  have hn := h.nlen
  have hrow : ∀ x ∈ rows, RowRd (w.setCell ⟨g, i, none⟩ (.slice rows[i].A p rows[i].c)) x := fun x hx => by
    have h1 := own_far (p := ⟨g, i, none⟩) (u := .slice rows[i].A p rows[i].c) (h.c x hx).1 (own_ne2 (h.c x hx).1 h.o (by decide) rfl)
    exact ⟨Rd.of_own h1, (h.c x hx).2⟩
  have hz : (rows[i].zs.take p).length = p := by simp; omega
  refine ⟨?_, fun x hx => ?_, by simpa using h.n⟩
  · have ho := h.o
    rw [hn] at ho
    have h1 := (ho.stored i (Value.slice rows[i].A p rows[i].c)).1
    have h2 := Rd.of_own h1
    rw [List.map_set]
    rw [List.length_set, hn]
    have e : Row.val ⟨rows[i].A, rows[i].c, rows[i].zs.take p⟩ = .slice rows[i].A p rows[i].c := by unfold Row.val; simp only; rw [hz]
    rw [e]
    exact h2
  · rcases List.mem_or_eq_of_mem_set hx with h1 | rfl
    · exact hrow x h1
    · have h2 := (hrow rows[i] (List.getElem_mem hi))
      refine ⟨?_, by simp only; have := h2.n; omega⟩
      have h3 := h2.r.front hp
      simp only
      rw [hz, List.map_take]
      exact h3
set_option maxRecDepth 100000 in
set_option maxHeartbeats 6400000 in
theorem raw_true (A0 : Option Addr) (n0 c0 : Nat) (z0 : List Int) (A1 : Option Addr) (n1 c1 : Nat) (z1 : List Int) (A2 : Option Addr) (n2 c2 : Nat) (z2 : List Int) (a3 a4 a5 a6 a7 : Int) (w : World) (h0 : Rd w w.heap.size 1 A0 n0 (z0.map (Value.int .i64))) (m0 : n0 ≤ c0 ∧ c0 ≤ maxLen ∧ c0 * 8 ≤ 140737488351232) (h1 : Rd w w.heap.size 1 A1 n1 (z1.map (Value.int .i64))) (m1 : n1 ≤ c1 ∧ c1 ≤ maxLen ∧ c1 * 8 ≤ 140737488351232) (h2 : Rd w w.heap.size 1 A2 n2 (z2.map (Value.int .i64))) (m2 : n2 ≤ c2 ∧ c2 ≤ maxLen ∧ c2 * 8 ≤ 140737488351232) (_w3 : (Lit.int .i64 a3).wf = true) (_w4 : (Lit.int .i64 a4).wf = true) (_w5 : (Lit.int .i64 a5).wf = true) (_w6 : (Lit.int .i64 a6).wf = true) (_w7 : (Lit.int .i64 a7).wf = true) :
    Calls Try.prog 8 #[.slice A0 n0 c0, .slice A1 n1 c1, .slice A2 n2 c2, .int .i64 a3, .int .i64 a4, .int .i64 a5, .int .i64 a6, .int .i64 a7] w fun e w' => e = .returned (.bool true) ∧ Below w.heap.size w w' := by
  obtain rfl : n2 = z2.length := by have := h2.1; simp at this; omega
  have I0 := Lib.hid h0
  have I1 := Lib.hid h1
  have HX := Lib.hid h2
  have I2 := Lib.hid h2
  have hz2 : z2.length ≤ 4611686018427387904 := by omega
  have Hm := Lib.hid (show n0 ≤ maxLen ∧ n1 ≤ maxLen by omega)
  clear h0 m0 h1 m1 h2 m2
  go_enter Try.func8, Try.ntmps8
  go_wp2_with fail
  refine (pick_any a3 4 w (by omega) (by omega)).mono ?_
  rintro e w1 ⟨rfl, rfl⟩
  have hp := pick_bd a3 4 (by omega) (by omega)
  obtain ⟨n, hn⟩ := Int.eq_ofNat_of_zero_le (show 0 ≤ 1 + pick a3 4 by omega)
  have hnb : 1 ≤ n ∧ n ≤ 4 := by omega
  obtain ⟨hn1, hn2⟩ := hnb
  have Hpn := Lib.hid hn
  go_wp2_with fail
  try rw [Hpn.out]
  refine (square_any n A0 n0 c0 z0 w ⟨hn1, by omega⟩ I0.out Hm.out.1).mono ?_
  rintro e w5 ⟨A5, c5, r5, rfl, hl5, hs5, ho5, hb5⟩
  have Hl5 := Lib.hid hl5
  have Hs5 := Lib.hid hs5
  have H5o := Lib.hid ho5
  have Hsz5 := Lib.hid (fun (g : Nat) (hg : A5 = some ⟨g, 0, none⟩) => (own_block ho5.o g (by rw [hg]; rfl)).2)
  have HB := Lib.hid hb5
  have HX := Lib.hid ((HX.out.grow hb5).more hb5.size)
  clear hl5 hs5 ho5 hb5 hp hn Hpn
  go_wp2_with fail
  refine (pick_any _ 4 w5 (by omega) (by omega)).mono ?_
  rintro e w1 ⟨rfl, rfl⟩
  generalize hg34 : pick _ 4 = p34
  have hp : 0 ≤ p34 ∧ p34 < 4 := by rw [← hg34]; exact pick_bd _ 4 (by omega) (by omega)
  obtain ⟨q, hq⟩ := Int.eq_ofNat_of_zero_le (show 0 ≤ 1 + p34 by omega)
  have hqb : 1 ≤ q ∧ q ≤ 4 := by omega
  obtain ⟨hq1, hq2⟩ := hqb
  have Hpq := Lib.hid hq
  clear hg34
  go_wp2_with fail
  try rw [Hpq.out]
  refine (square_any q A1 n1 c1 z1 w5 ⟨hq1, by omega⟩ ((I1.out.grow HB.out).more HB.out.size) Hm.out.2).mono ?_
  rintro e w6 ⟨A6, c6, r6, rfl, hl6, hs6, ho6, hb6⟩
  have Hl6 := Lib.hid hl6
  have H6 := Lib.hid ho6.rdn
  have H6o := Lib.hid ho6
  have H5o := Lib.hid (H5o.out.grow hb6)
  have HB := Lib.hid (HB.out.trans (hb6.mono HB.out.size))
  have HX := Lib.hid ((HX.out.grow hb6).more hb6.size)
  clear hl6 hs6 ho6 hb6 hp hq Hpq I0 I1 Hm
  rw [← Hl6.out]
  clear hq1 hq2
  by_cases h1n : 1 < n
  case neg =>
    have h1d : decide ((1 : Int) < (n : Int)) = false := by simp; omega
    have h1e : decide (1 < n) = false := by simp; omega
    have H5 := Lib.hid H5o.out.rdn
    clear H5o
    go_wp2_with fail
    rw [← Hl5.out]
    refine (mul_any A5 A6 c5 c6 r5 r6 _ H5.out H6.out).mono ?_
    rintro e w11 ⟨A11, c11, r11, rfl, hm11, ho11, hb11⟩
    have HB := Lib.hid (HB.out.trans (hb11.mono HB.out.size))
    have H5 := Lib.hid (H5.out.grow hb11)
    have H6 := Lib.hid (H6.out.grow hb11)
    have HX := Lib.hid ((HX.out.grow hb11).more hb11.size)
    have M11 := Lib.hid hm11
    have R11 := Lib.hid ho11.rd
    clear hm11 ho11 hb11
    go_wp2_with fail
    refine (rmul_any A5 A6 c5 c6 r5 r6 _ H5.out H6.out).mono ?_
    rintro e w12 ⟨A12, c12, r12, rfl, hm12, ho12, hb12⟩
    have HB := Lib.hid (HB.out.trans (hb12.mono HB.out.size))
    have H5 := Lib.hid (H5.out.grow hb12)
    have H6 := Lib.hid (H6.out.grow hb12)
    have HX := Lib.hid ((HX.out.grow hb12).more hb12.size)
    have M12 := Lib.hid hm12
    have R12 := Lib.hid ho12.rd
    have R11 := Lib.hid (R11.out.grow hb12)
    clear hm12 ho12 hb12
    go_wp2_with fail
    refine (apply_any A5 A2 c5 c2 r5 z2 _ H5.out HX.out hz2).mono ?_
    rintro e w13 ⟨x13, rfl, hm13, ho13, hb13⟩
    have HB := Lib.hid (HB.out.trans (hb13.mono HB.out.size))
    have H5 := Lib.hid (H5.out.grow hb13)
    have H6 := Lib.hid (H6.out.grow hb13)
    have HX := Lib.hid ((HX.out.grow hb13).more hb13.size)
    have M13 := Lib.hid hm13
    have R13 := Lib.hid ho13.rd
    have R11 := Lib.hid (R11.out.grow hb13)
    have R12 := Lib.hid (R12.out.grow hb13)
    clear hm13 ho13 hb13
    go_wp2_with fail
    refine (rapply_any A5 A2 c5 c2 r5 z2 _ H5.out HX.out hz2).mono ?_
    rintro e w14 ⟨x14, rfl, hm14, ho14, hb14⟩
    have HB := Lib.hid (HB.out.trans (hb14.mono HB.out.size))
    have H5 := Lib.hid (H5.out.grow hb14)
    have H6 := Lib.hid (H6.out.grow hb14)
    have HX := Lib.hid ((HX.out.grow hb14).more hb14.size)
    have M14 := Lib.hid hm14
    have R14 := Lib.hid ho14.rd
    have R11 := Lib.hid (R11.out.grow hb14)
    have R12 := Lib.hid (R12.out.grow hb14)
    have R13 := Lib.hid (R13.out.grow hb14)
    clear hm14 ho14 hb14
    go_wp2_with fail
    refine (power_any A5 c5 r5 _ _ H5.out).mono ?_
    rintro e w15 ⟨A15, c15, r15, rfl, hm15, ho15, hb15⟩
    have HB := Lib.hid (HB.out.trans (hb15.mono HB.out.size))
    have H5 := Lib.hid (H5.out.grow hb15)
    have H6 := Lib.hid (H6.out.grow hb15)
    have HX := Lib.hid ((HX.out.grow hb15).more hb15.size)
    have M15 := Lib.hid hm15
    have R15 := Lib.hid ho15.rd
    have R11 := Lib.hid (R11.out.grow hb15)
    have R12 := Lib.hid (R12.out.grow hb15)
    have R13 := Lib.hid (R13.out.grow hb15)
    have R14 := Lib.hid (R14.out.grow hb15)
    clear hm15 ho15 hb15
    go_wp2_with fail
    refine (rpower_any A5 c5 r5 _ _ H5.out).mono ?_
    rintro e w16 ⟨A16, c16, r16, rfl, hm16, ho16, hb16⟩
    have HB := Lib.hid (HB.out.trans (hb16.mono HB.out.size))
    have H5 := Lib.hid (H5.out.grow hb16)
    have H6 := Lib.hid (H6.out.grow hb16)
    have HX := Lib.hid ((HX.out.grow hb16).more hb16.size)
    have M16 := Lib.hid hm16
    have R16 := Lib.hid ho16.rd
    have R11 := Lib.hid (R11.out.grow hb16)
    have R12 := Lib.hid (R12.out.grow hb16)
    have R13 := Lib.hid (R13.out.grow hb16)
    have R14 := Lib.hid (R14.out.grow hb16)
    have R15 := Lib.hid (R15.out.grow hb16)
    clear hm16 ho16 hb16
    go_wp2_with fail
    refine (recover_any A5 A2 c5 c2 r5 z2 _ _ _ H5.out HX.out hz2).mono ?_
    rintro e w17 ⟨rfl, hb17⟩
    have HB := Lib.hid (HB.out.trans (hb17.mono HB.out.size))
    have H5 := Lib.hid (H5.out.grow hb17)
    have H6 := Lib.hid (H6.out.grow hb17)
    have HX := Lib.hid ((HX.out.grow hb17).more hb17.size)
    have R11 := Lib.hid (R11.out.grow hb17)
    have R12 := Lib.hid (R12.out.grow hb17)
    have R13 := Lib.hid (R13.out.grow hb17)
    have R14 := Lib.hid (R14.out.grow hb17)
    have R15 := Lib.hid (R15.out.grow hb17)
    have R16 := Lib.hid (R16.out.grow hb17)
    clear hb17
    go_wp2_with fail
    refine (rrecover_any A5 A2 c5 c2 r5 z2 _ _ _ H5.out HX.out hz2).mono ?_
    rintro e w18 ⟨rfl, hb18⟩
    have HB := Lib.hid (HB.out.trans (hb18.mono HB.out.size))
    have H5 := Lib.hid (H5.out.grow hb18)
    have H6 := Lib.hid (H6.out.grow hb18)
    have HX := Lib.hid ((HX.out.grow hb18).more hb18.size)
    have R11 := Lib.hid (R11.out.grow hb18)
    have R12 := Lib.hid (R12.out.grow hb18)
    have R13 := Lib.hid (R13.out.grow hb18)
    have R14 := Lib.hid (R14.out.grow hb18)
    have R15 := Lib.hid (R15.out.grow hb18)
    have R16 := Lib.hid (R16.out.grow hb18)
    clear hb18
    generalize mulE (matR r5) (matR r6) = e1 at *
    generalize appE (matR r5) z2 = e2 at *
    generalize powE (matR r5) _ = e3 at *
    generalize recF (matR r5) z2 _ _ = e4 at *
    go_wp2_with fail
    refine (awake_any _).mono ?_
    rintro e w19 ⟨rfl, hb19⟩
    have HB := Lib.hid (HB.out.trans (hb19.mono HB.out.size))
    have H5 := Lib.hid (H5.out.grow hb19)
    have H6 := Lib.hid (H6.out.grow hb19)
    have HX := Lib.hid ((HX.out.grow hb19).more hb19.size)
    have R11 := Lib.hid (R11.out.grow hb19)
    have R12 := Lib.hid (R12.out.grow hb19)
    have R13 := Lib.hid (R13.out.grow hb19)
    have R14 := Lib.hid (R14.out.grow hb19)
    have R15 := Lib.hid (R15.out.grow hb19)
    have R16 := Lib.hid (R16.out.grow hb19)
    clear hb19
    go_wp2_with fail
    refine (check_any A5 c5 r5 _ H5.out).mono ?_
    rintro e w20 ⟨rfl, rfl⟩
    go_wp2_with fail
    refine (rcheck_any A5 c5 r5 _ H5.out).mono ?_
    rintro e w20 ⟨rfl, rfl⟩
    generalize chkM (matR r5) = b1 at *
    have hb1 : (b1 == b1) = true := by simp
    go_wp2_with fail
    refine (vector_any _ A2 c2 z2 _ HX.out hz2).mono ?_
    rintro e w20 ⟨rfl, rfl⟩
    go_wp2_with fail
    refine (rvector_any _ A2 c2 z2 _ HX.out hz2).mono ?_
    rintro e w20 ⟨rfl, rfl⟩
    generalize vecB _ z2 = b2 at *
    have hb2 : (b2 == b2) = true := by simp
    go_wp2_with fail
    refine (samelists_yes A11 A12 r12.length c11 c12 r11 r12 _ R11.out R12.out rfl (M12.out.trans M11.out.symm)).mono ?_
    rintro e w21 ⟨rfl, hb21⟩
    have HB := Lib.hid (HB.out.trans (hb21.mono HB.out.size))
    have H5 := Lib.hid (H5.out.grow hb21)
    have H6 := Lib.hid (H6.out.grow hb21)
    have HX := Lib.hid ((HX.out.grow hb21).more hb21.size)
    have R13 := Lib.hid (R13.out.grow hb21)
    have R14 := Lib.hid (R14.out.grow hb21)
    have R15 := Lib.hid (R15.out.grow hb21)
    have R16 := Lib.hid (R16.out.grow hb21)
    clear hb21
    have hq1 : (e1 == e1) = true := by simp
    go_wp2_with fail
    refine (samerow_eq R13.out R14.out (M14.out.trans M13.out.symm)).mono ?_
    rintro e w22 ⟨rfl, hb22⟩
    have HB := Lib.hid (HB.out.trans (hb22.mono HB.out.size))
    have H5 := Lib.hid (H5.out.grow hb22)
    have H6 := Lib.hid (H6.out.grow hb22)
    have HX := Lib.hid ((HX.out.grow hb22).more hb22.size)
    have R15 := Lib.hid (R15.out.grow hb22)
    have R16 := Lib.hid (R16.out.grow hb22)
    clear hb22
    have hq2 : (e2 == e2) = true := by simp
    go_wp2_with fail
    refine (samelists_yes A15 A16 r16.length c15 c16 r15 r16 _ R15.out R16.out rfl (M16.out.trans M15.out.symm)).mono ?_
    rintro e w23 ⟨rfl, hb23⟩
    have HB := Lib.hid (HB.out.trans (hb23.mono HB.out.size))
    have H5 := Lib.hid (H5.out.grow hb23)
    have H6 := Lib.hid (H6.out.grow hb23)
    have HX := Lib.hid ((HX.out.grow hb23).more hb23.size)
    clear hb23
    have hq3 : (e3 == e3) = true := by simp
    obtain ⟨e5, e6⟩ := e4
    have hq4 : (e5 == e5) = true := by simp
    have hq5 : (e6 == e6) = true := by simp
    simp only
    go_wp2_with fail
    go_ret
    exact ⟨rfl, HB.out⟩
  have h1d : decide ((1 : Int) < (n : Int)) = true := by simp; omega
  have h1e : decide (1 < n) = true := by simp; omega
  go_wp2_with fail
  refine (pick_any a4 4 w6 (by omega) (by omega)).mono ?_
  rintro e w1 ⟨rfl, rfl⟩
  by_cases hc : pick a4 4 = 0
  case neg =>
    have hc' : (pick a4 4 == 0) = false := by simpa using hc
    have H5 := Lib.hid H5o.out.rdn
    clear H5o hc
    generalize pick a4 4 = p4 at *
    go_wp2_with fail
    rw [← Hl5.out]
    refine (mul_any A5 A6 c5 c6 r5 r6 _ H5.out H6.out).mono ?_
    rintro e w11 ⟨A11, c11, r11, rfl, hm11, ho11, hb11⟩
    have HB := Lib.hid (HB.out.trans (hb11.mono HB.out.size))
    have H5 := Lib.hid (H5.out.grow hb11)
    have H6 := Lib.hid (H6.out.grow hb11)
    have HX := Lib.hid ((HX.out.grow hb11).more hb11.size)
    have M11 := Lib.hid hm11
    have R11 := Lib.hid ho11.rd
    clear hm11 ho11 hb11
    go_wp2_with fail
    refine (rmul_any A5 A6 c5 c6 r5 r6 _ H5.out H6.out).mono ?_
    rintro e w12 ⟨A12, c12, r12, rfl, hm12, ho12, hb12⟩
    have HB := Lib.hid (HB.out.trans (hb12.mono HB.out.size))
    have H5 := Lib.hid (H5.out.grow hb12)
    have H6 := Lib.hid (H6.out.grow hb12)
    have HX := Lib.hid ((HX.out.grow hb12).more hb12.size)
    have M12 := Lib.hid hm12
    have R12 := Lib.hid ho12.rd
    have R11 := Lib.hid (R11.out.grow hb12)
    clear hm12 ho12 hb12
    go_wp2_with fail
    refine (apply_any A5 A2 c5 c2 r5 z2 _ H5.out HX.out hz2).mono ?_
    rintro e w13 ⟨x13, rfl, hm13, ho13, hb13⟩
    have HB := Lib.hid (HB.out.trans (hb13.mono HB.out.size))
    have H5 := Lib.hid (H5.out.grow hb13)
    have H6 := Lib.hid (H6.out.grow hb13)
    have HX := Lib.hid ((HX.out.grow hb13).more hb13.size)
    have M13 := Lib.hid hm13
    have R13 := Lib.hid ho13.rd
    have R11 := Lib.hid (R11.out.grow hb13)
    have R12 := Lib.hid (R12.out.grow hb13)
    clear hm13 ho13 hb13
    go_wp2_with fail
    refine (rapply_any A5 A2 c5 c2 r5 z2 _ H5.out HX.out hz2).mono ?_
    rintro e w14 ⟨x14, rfl, hm14, ho14, hb14⟩
    have HB := Lib.hid (HB.out.trans (hb14.mono HB.out.size))
    have H5 := Lib.hid (H5.out.grow hb14)
    have H6 := Lib.hid (H6.out.grow hb14)
    have HX := Lib.hid ((HX.out.grow hb14).more hb14.size)
    have M14 := Lib.hid hm14
    have R14 := Lib.hid ho14.rd
    have R11 := Lib.hid (R11.out.grow hb14)
    have R12 := Lib.hid (R12.out.grow hb14)
    have R13 := Lib.hid (R13.out.grow hb14)
    clear hm14 ho14 hb14
    go_wp2_with fail
    refine (power_any A5 c5 r5 _ _ H5.out).mono ?_
    rintro e w15 ⟨A15, c15, r15, rfl, hm15, ho15, hb15⟩
    have HB := Lib.hid (HB.out.trans (hb15.mono HB.out.size))
    have H5 := Lib.hid (H5.out.grow hb15)
    have H6 := Lib.hid (H6.out.grow hb15)
    have HX := Lib.hid ((HX.out.grow hb15).more hb15.size)
    have M15 := Lib.hid hm15
    have R15 := Lib.hid ho15.rd
    have R11 := Lib.hid (R11.out.grow hb15)
    have R12 := Lib.hid (R12.out.grow hb15)
    have R13 := Lib.hid (R13.out.grow hb15)
    have R14 := Lib.hid (R14.out.grow hb15)
    clear hm15 ho15 hb15
    go_wp2_with fail
    refine (rpower_any A5 c5 r5 _ _ H5.out).mono ?_
    rintro e w16 ⟨A16, c16, r16, rfl, hm16, ho16, hb16⟩
    have HB := Lib.hid (HB.out.trans (hb16.mono HB.out.size))
    have H5 := Lib.hid (H5.out.grow hb16)
    have H6 := Lib.hid (H6.out.grow hb16)
    have HX := Lib.hid ((HX.out.grow hb16).more hb16.size)
    have M16 := Lib.hid hm16
    have R16 := Lib.hid ho16.rd
    have R11 := Lib.hid (R11.out.grow hb16)
    have R12 := Lib.hid (R12.out.grow hb16)
    have R13 := Lib.hid (R13.out.grow hb16)
    have R14 := Lib.hid (R14.out.grow hb16)
    have R15 := Lib.hid (R15.out.grow hb16)
    clear hm16 ho16 hb16
    go_wp2_with fail
    refine (recover_any A5 A2 c5 c2 r5 z2 _ _ _ H5.out HX.out hz2).mono ?_
    rintro e w17 ⟨rfl, hb17⟩
    have HB := Lib.hid (HB.out.trans (hb17.mono HB.out.size))
    have H5 := Lib.hid (H5.out.grow hb17)
    have H6 := Lib.hid (H6.out.grow hb17)
    have HX := Lib.hid ((HX.out.grow hb17).more hb17.size)
    have R11 := Lib.hid (R11.out.grow hb17)
    have R12 := Lib.hid (R12.out.grow hb17)
    have R13 := Lib.hid (R13.out.grow hb17)
    have R14 := Lib.hid (R14.out.grow hb17)
    have R15 := Lib.hid (R15.out.grow hb17)
    have R16 := Lib.hid (R16.out.grow hb17)
    clear hb17
    go_wp2_with fail
    refine (rrecover_any A5 A2 c5 c2 r5 z2 _ _ _ H5.out HX.out hz2).mono ?_
    rintro e w18 ⟨rfl, hb18⟩
    have HB := Lib.hid (HB.out.trans (hb18.mono HB.out.size))
    have H5 := Lib.hid (H5.out.grow hb18)
    have H6 := Lib.hid (H6.out.grow hb18)
    have HX := Lib.hid ((HX.out.grow hb18).more hb18.size)
    have R11 := Lib.hid (R11.out.grow hb18)
    have R12 := Lib.hid (R12.out.grow hb18)
    have R13 := Lib.hid (R13.out.grow hb18)
    have R14 := Lib.hid (R14.out.grow hb18)
    have R15 := Lib.hid (R15.out.grow hb18)
    have R16 := Lib.hid (R16.out.grow hb18)
    clear hb18
    generalize mulE (matR r5) (matR r6) = e1 at *
    generalize appE (matR r5) z2 = e2 at *
    generalize powE (matR r5) _ = e3 at *
    generalize recF (matR r5) z2 _ _ = e4 at *
    go_wp2_with fail
    refine (awake_any _).mono ?_
    rintro e w19 ⟨rfl, hb19⟩
    have HB := Lib.hid (HB.out.trans (hb19.mono HB.out.size))
    have H5 := Lib.hid (H5.out.grow hb19)
    have H6 := Lib.hid (H6.out.grow hb19)
    have HX := Lib.hid ((HX.out.grow hb19).more hb19.size)
    have R11 := Lib.hid (R11.out.grow hb19)
    have R12 := Lib.hid (R12.out.grow hb19)
    have R13 := Lib.hid (R13.out.grow hb19)
    have R14 := Lib.hid (R14.out.grow hb19)
    have R15 := Lib.hid (R15.out.grow hb19)
    have R16 := Lib.hid (R16.out.grow hb19)
    clear hb19
    go_wp2_with fail
    refine (check_any A5 c5 r5 _ H5.out).mono ?_
    rintro e w20 ⟨rfl, rfl⟩
    go_wp2_with fail
    refine (rcheck_any A5 c5 r5 _ H5.out).mono ?_
    rintro e w20 ⟨rfl, rfl⟩
    generalize chkM (matR r5) = b1 at *
    have hb1 : (b1 == b1) = true := by simp
    go_wp2_with fail
    refine (vector_any _ A2 c2 z2 _ HX.out hz2).mono ?_
    rintro e w20 ⟨rfl, rfl⟩
    go_wp2_with fail
    refine (rvector_any _ A2 c2 z2 _ HX.out hz2).mono ?_
    rintro e w20 ⟨rfl, rfl⟩
    generalize vecB _ z2 = b2 at *
    have hb2 : (b2 == b2) = true := by simp
    go_wp2_with fail
    refine (samelists_yes A11 A12 r12.length c11 c12 r11 r12 _ R11.out R12.out rfl (M12.out.trans M11.out.symm)).mono ?_
    rintro e w21 ⟨rfl, hb21⟩
    have HB := Lib.hid (HB.out.trans (hb21.mono HB.out.size))
    have H5 := Lib.hid (H5.out.grow hb21)
    have H6 := Lib.hid (H6.out.grow hb21)
    have HX := Lib.hid ((HX.out.grow hb21).more hb21.size)
    have R13 := Lib.hid (R13.out.grow hb21)
    have R14 := Lib.hid (R14.out.grow hb21)
    have R15 := Lib.hid (R15.out.grow hb21)
    have R16 := Lib.hid (R16.out.grow hb21)
    clear hb21
    have hq1 : (e1 == e1) = true := by simp
    go_wp2_with fail
    refine (samerow_eq R13.out R14.out (M14.out.trans M13.out.symm)).mono ?_
    rintro e w22 ⟨rfl, hb22⟩
    have HB := Lib.hid (HB.out.trans (hb22.mono HB.out.size))
    have H5 := Lib.hid (H5.out.grow hb22)
    have H6 := Lib.hid (H6.out.grow hb22)
    have HX := Lib.hid ((HX.out.grow hb22).more hb22.size)
    have R15 := Lib.hid (R15.out.grow hb22)
    have R16 := Lib.hid (R16.out.grow hb22)
    clear hb22
    have hq2 : (e2 == e2) = true := by simp
    go_wp2_with fail
    refine (samelists_yes A15 A16 r16.length c15 c16 r15 r16 _ R15.out R16.out rfl (M16.out.trans M15.out.symm)).mono ?_
    rintro e w23 ⟨rfl, hb23⟩
    have HB := Lib.hid (HB.out.trans (hb23.mono HB.out.size))
    have H5 := Lib.hid (H5.out.grow hb23)
    have H6 := Lib.hid (H6.out.grow hb23)
    have HX := Lib.hid ((HX.out.grow hb23).more hb23.size)
    clear hb23
    have hq3 : (e3 == e3) = true := by simp
    obtain ⟨e5, e6⟩ := e4
    have hq4 : (e5 == e5) = true := by simp
    have hq5 : (e6 == e6) = true := by simp
    simp only
    go_wp2_with fail
    go_ret
    exact ⟨rfl, HB.out⟩
  rw [hc]
  clear hc
  obtain ⟨g5, e5⟩ : ∃ g5, A5 = some ⟨g5, 0, none⟩ := by
    obtain ⟨g, cap, hv, _, _⟩ := H5o.out.o.form (by rw [Hl5.out]; omega)
    injection hv with hv
    exact ⟨g, hv⟩
  subst e5
  have h1l : 1 < r5.length := by rw [Hl5.out]; exact h1n
  have hz5 : r5[1].zs.length = n := (Hs5.out r5[1] (List.getElem_mem h1l)).1
  have HO5 := Lib.hid (show w6.ownsRow w.heap.size 22 1 (.slice (some ⟨g5, 0, none⟩) n c5) n (r5.map Row.val) by have := H5o.out.o; rwa [Hl5.out] at this)
  have x0 := own1 HO5.out 1 h1l
  have x1 := HO5.out.frozenAt 1
  have hg5 := (own_block HO5.out g5 rfl).2
  have hgb := (own_block HO5.out g5 rfl).1
  have hcap : n ≤ r5[1].c := by
    obtain ⟨A', c', e, h1, _⟩ := own_slice (H5o.out.c r5[1] (List.getElem_mem h1l)).1
    unfold Row.val at e
    injection e with _ _ e
    omega
  have HCut := Lib.hid (fun (w' : World) (hb : Below w6.heap.size w6 w') (p : Nat) (hp : p ≤ n) => (H5o.out.grow hb).cut (i := 1) (p := p) h1l (by rw [hz5]; exact hp))
  unfold Row.val at x0
  rw [hz5] at x0
  have HLs := Lib.hid (fun (p : Nat) => show (r5.set 1 ⟨r5[1].A, r5[1].c, r5[1].zs.take p⟩).length = n by simp [Hl5.out])
  generalize r5[1].A = Ax at *
  generalize r5[1].c = cx at *
  generalize r5[1].zs = zx at *
  have hpk := pick_bd (wrap64 (a4.tdiv 4)) n (by omega) (by omega)
  obtain ⟨p, hp⟩ := Int.eq_ofNat_of_zero_le hpk.1
  have hpn : p < n := by omega
  have hpn2 : p ≤ n := by omega
  have hpc : p ≤ cx := by omega
  have HPk := Lib.hid (show ∀ X : World, Calls Try.prog 14 #[.int .i64 (wrap64 (a4.tdiv 4)), .int .i64 n] X fun e w' => e = .returned (.int .i64 (p : Int)) ∧ X = w' from fun X => by
    rw [← hp]; exact pick_any _ _ X (by omega) (by omega))
  clear hpk hp
  go_upto_region 4 with fail
  refine wp_region_overT 12 (by kernel_rfl) (by kernel_rfl) ?_
  simp only [List.take_succ_cons, List.take_zero, List.drop_succ_cons, List.drop_zero]
  repeat (go_big_quiet_step ((go_at_call 14; exact callsOverSame (HPk.out _))))
  refine wpQuiet_nil ?_
  intro w7 hb7
  have hH5 := HCut.out w7 hb7 p hpn2
  have hLs := HLs.out p
  have HB := Lib.hid ((HB.out.trans (hb7.mono HB.out.size)).setCell (p := ⟨g5, 1, none⟩) hgb (.slice Ax p cx))
  have H5 := Lib.hid hH5
  have hg5w := Hsz5.out g5 rfl
  have H6 := Lib.hid (show MRd (w7.setCell ⟨g5, 1, none⟩ (.slice Ax p cx)) A6 r6 from ((H6o.out.grow hb7).far (p := ⟨g5, 1, none⟩) (u := .slice Ax p cx) (fun e => by have := (own_block H6o.out.o _ e).1; simp only at this; omega) (fun x hx e => by have := (own_block (H6o.out.c x hx).1 _ e).1; simp only at this; omega)).rdn)
  have HX := Lib.hid ((I2.out.grow HB.out).more HB.out.size)
  have HO7 := Lib.hid (own_grow HO5.out hb7)
  have x0 := own1 HO7.out 1 h1l
  have x1 := HO7.out.frozenAt 1
  have hg7 := (own_block HO7.out g5 rfl).2
  generalize r5.set 1 ⟨Ax, cx, zx.take p⟩ = r5' at *
  have HLs5 := Lib.hid hLs
  generalize (r5[1]'h1l).val = uu at *
  clear HCut HLs hH5 hLs Hs5
  have HH6 := Lib.hid H6.out
  go_wp2_with fail
  generalize w7.setCell ⟨g5, 1, none⟩ (.slice Ax p cx) = w8 at *
  rw [← HLs5.out]
  clear x0 x1 hg7 HO7 HO5 H5o H6o HH6 Hsz5
  generalize r5' = r5 at *
  generalize (some ⟨g5, 0, none⟩ : Option Addr) = A5 at *
  refine (mul_any A5 A6 c5 c6 r5 r6 _ H5.out H6.out).mono ?_
  rintro e w11 ⟨A11, c11, r11, rfl, hm11, ho11, hb11⟩
  have HB := Lib.hid (HB.out.trans (hb11.mono HB.out.size))
  have H5 := Lib.hid (H5.out.grow hb11)
  have H6 := Lib.hid (H6.out.grow hb11)
  have HX := Lib.hid ((HX.out.grow hb11).more hb11.size)
  have M11 := Lib.hid hm11
  have R11 := Lib.hid ho11.rd
  clear hm11 ho11 hb11
  go_wp2_with fail
  refine (rmul_any A5 A6 c5 c6 r5 r6 _ H5.out H6.out).mono ?_
  rintro e w12 ⟨A12, c12, r12, rfl, hm12, ho12, hb12⟩
  have HB := Lib.hid (HB.out.trans (hb12.mono HB.out.size))
  have H5 := Lib.hid (H5.out.grow hb12)
  have H6 := Lib.hid (H6.out.grow hb12)
  have HX := Lib.hid ((HX.out.grow hb12).more hb12.size)
  have M12 := Lib.hid hm12
  have R12 := Lib.hid ho12.rd
  have R11 := Lib.hid (R11.out.grow hb12)
  clear hm12 ho12 hb12
  go_wp2_with fail
  refine (apply_any A5 A2 c5 c2 r5 z2 _ H5.out HX.out hz2).mono ?_
  rintro e w13 ⟨x13, rfl, hm13, ho13, hb13⟩
  have HB := Lib.hid (HB.out.trans (hb13.mono HB.out.size))
  have H5 := Lib.hid (H5.out.grow hb13)
  have H6 := Lib.hid (H6.out.grow hb13)
  have HX := Lib.hid ((HX.out.grow hb13).more hb13.size)
  have M13 := Lib.hid hm13
  have R13 := Lib.hid ho13.rd
  have R11 := Lib.hid (R11.out.grow hb13)
  have R12 := Lib.hid (R12.out.grow hb13)
  clear hm13 ho13 hb13
  go_wp2_with fail
  refine (rapply_any A5 A2 c5 c2 r5 z2 _ H5.out HX.out hz2).mono ?_
  rintro e w14 ⟨x14, rfl, hm14, ho14, hb14⟩
  have HB := Lib.hid (HB.out.trans (hb14.mono HB.out.size))
  have H5 := Lib.hid (H5.out.grow hb14)
  have H6 := Lib.hid (H6.out.grow hb14)
  have HX := Lib.hid ((HX.out.grow hb14).more hb14.size)
  have M14 := Lib.hid hm14
  have R14 := Lib.hid ho14.rd
  have R11 := Lib.hid (R11.out.grow hb14)
  have R12 := Lib.hid (R12.out.grow hb14)
  have R13 := Lib.hid (R13.out.grow hb14)
  clear hm14 ho14 hb14
  go_wp2_with fail
  refine (power_any A5 c5 r5 _ _ H5.out).mono ?_
  rintro e w15 ⟨A15, c15, r15, rfl, hm15, ho15, hb15⟩
  have HB := Lib.hid (HB.out.trans (hb15.mono HB.out.size))
  have H5 := Lib.hid (H5.out.grow hb15)
  have H6 := Lib.hid (H6.out.grow hb15)
  have HX := Lib.hid ((HX.out.grow hb15).more hb15.size)
  have M15 := Lib.hid hm15
  have R15 := Lib.hid ho15.rd
  have R11 := Lib.hid (R11.out.grow hb15)
  have R12 := Lib.hid (R12.out.grow hb15)
  have R13 := Lib.hid (R13.out.grow hb15)
  have R14 := Lib.hid (R14.out.grow hb15)
  clear hm15 ho15 hb15
  go_wp2_with fail
  refine (rpower_any A5 c5 r5 _ _ H5.out).mono ?_
  rintro e w16 ⟨A16, c16, r16, rfl, hm16, ho16, hb16⟩
  have HB := Lib.hid (HB.out.trans (hb16.mono HB.out.size))
  have H5 := Lib.hid (H5.out.grow hb16)
  have H6 := Lib.hid (H6.out.grow hb16)
  have HX := Lib.hid ((HX.out.grow hb16).more hb16.size)
  have M16 := Lib.hid hm16
  have R16 := Lib.hid ho16.rd
  have R11 := Lib.hid (R11.out.grow hb16)
  have R12 := Lib.hid (R12.out.grow hb16)
  have R13 := Lib.hid (R13.out.grow hb16)
  have R14 := Lib.hid (R14.out.grow hb16)
  have R15 := Lib.hid (R15.out.grow hb16)
  clear hm16 ho16 hb16
  go_wp2_with fail
  refine (recover_any A5 A2 c5 c2 r5 z2 _ _ _ H5.out HX.out hz2).mono ?_
  rintro e w17 ⟨rfl, hb17⟩
  have HB := Lib.hid (HB.out.trans (hb17.mono HB.out.size))
  have H5 := Lib.hid (H5.out.grow hb17)
  have H6 := Lib.hid (H6.out.grow hb17)
  have HX := Lib.hid ((HX.out.grow hb17).more hb17.size)
  have R11 := Lib.hid (R11.out.grow hb17)
  have R12 := Lib.hid (R12.out.grow hb17)
  have R13 := Lib.hid (R13.out.grow hb17)
  have R14 := Lib.hid (R14.out.grow hb17)
  have R15 := Lib.hid (R15.out.grow hb17)
  have R16 := Lib.hid (R16.out.grow hb17)
  clear hb17
  go_wp2_with fail
  refine (rrecover_any A5 A2 c5 c2 r5 z2 _ _ _ H5.out HX.out hz2).mono ?_
  rintro e w18 ⟨rfl, hb18⟩
  have HB := Lib.hid (HB.out.trans (hb18.mono HB.out.size))
  have H5 := Lib.hid (H5.out.grow hb18)
  have H6 := Lib.hid (H6.out.grow hb18)
  have HX := Lib.hid ((HX.out.grow hb18).more hb18.size)
  have R11 := Lib.hid (R11.out.grow hb18)
  have R12 := Lib.hid (R12.out.grow hb18)
  have R13 := Lib.hid (R13.out.grow hb18)
  have R14 := Lib.hid (R14.out.grow hb18)
  have R15 := Lib.hid (R15.out.grow hb18)
  have R16 := Lib.hid (R16.out.grow hb18)
  clear hb18
  generalize mulE (matR r5) (matR r6) = e1 at *
  generalize appE (matR r5) z2 = e2 at *
  generalize powE (matR r5) _ = e3 at *
  generalize recF (matR r5) z2 _ _ = e4 at *
  go_wp2_with fail
  refine (awake_any _).mono ?_
  rintro e w19 ⟨rfl, hb19⟩
  have HB := Lib.hid (HB.out.trans (hb19.mono HB.out.size))
  have H5 := Lib.hid (H5.out.grow hb19)
  have H6 := Lib.hid (H6.out.grow hb19)
  have HX := Lib.hid ((HX.out.grow hb19).more hb19.size)
  have R11 := Lib.hid (R11.out.grow hb19)
  have R12 := Lib.hid (R12.out.grow hb19)
  have R13 := Lib.hid (R13.out.grow hb19)
  have R14 := Lib.hid (R14.out.grow hb19)
  have R15 := Lib.hid (R15.out.grow hb19)
  have R16 := Lib.hid (R16.out.grow hb19)
  clear hb19
  go_wp2_with fail
  refine (check_any A5 c5 r5 _ H5.out).mono ?_
  rintro e w20 ⟨rfl, rfl⟩
  go_wp2_with fail
  refine (rcheck_any A5 c5 r5 _ H5.out).mono ?_
  rintro e w20 ⟨rfl, rfl⟩
  generalize chkM (matR r5) = b1 at *
  have hb1 : (b1 == b1) = true := by simp
  go_wp2_with fail
  refine (vector_any _ A2 c2 z2 _ HX.out hz2).mono ?_
  rintro e w20 ⟨rfl, rfl⟩
  go_wp2_with fail
  refine (rvector_any _ A2 c2 z2 _ HX.out hz2).mono ?_
  rintro e w20 ⟨rfl, rfl⟩
  generalize vecB _ z2 = b2 at *
  have hb2 : (b2 == b2) = true := by simp
  go_wp2_with fail
  refine (samelists_yes A11 A12 r12.length c11 c12 r11 r12 _ R11.out R12.out rfl (M12.out.trans M11.out.symm)).mono ?_
  rintro e w21 ⟨rfl, hb21⟩
  have HB := Lib.hid (HB.out.trans (hb21.mono HB.out.size))
  have H5 := Lib.hid (H5.out.grow hb21)
  have H6 := Lib.hid (H6.out.grow hb21)
  have HX := Lib.hid ((HX.out.grow hb21).more hb21.size)
  have R13 := Lib.hid (R13.out.grow hb21)
  have R14 := Lib.hid (R14.out.grow hb21)
  have R15 := Lib.hid (R15.out.grow hb21)
  have R16 := Lib.hid (R16.out.grow hb21)
  clear hb21
  have hq1 : (e1 == e1) = true := by simp
  go_wp2_with fail
  refine (samerow_eq R13.out R14.out (M14.out.trans M13.out.symm)).mono ?_
  rintro e w22 ⟨rfl, hb22⟩
  have HB := Lib.hid (HB.out.trans (hb22.mono HB.out.size))
  have H5 := Lib.hid (H5.out.grow hb22)
  have H6 := Lib.hid (H6.out.grow hb22)
  have HX := Lib.hid ((HX.out.grow hb22).more hb22.size)
  have R15 := Lib.hid (R15.out.grow hb22)
  have R16 := Lib.hid (R16.out.grow hb22)
  clear hb22
  have hq2 : (e2 == e2) = true := by simp
  go_wp2_with fail
  refine (samelists_yes A15 A16 r16.length c15 c16 r15 r16 _ R15.out R16.out rfl (M16.out.trans M15.out.symm)).mono ?_
  rintro e w23 ⟨rfl, hb23⟩
  have HB := Lib.hid (HB.out.trans (hb23.mono HB.out.size))
  have H5 := Lib.hid (H5.out.grow hb23)
  have H6 := Lib.hid (H6.out.grow hb23)
  have HX := Lib.hid ((HX.out.grow hb23).more hb23.size)
  clear hb23
  have hq3 : (e3 == e3) = true := by simp
  obtain ⟨e5, e6⟩ := e4
  have hq4 : (e5 == e5) = true := by simp
  have hq5 : (e6 == e6) = true := by simp
  simp only
  go_wp2_with fail
  go_ret
  exact ⟨rfl, HB.out⟩
end Go.Proofs.Ythmnalaeckfaaaa
