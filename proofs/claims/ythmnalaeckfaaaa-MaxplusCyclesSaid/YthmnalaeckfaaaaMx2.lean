import Derived.Test.YthmnalaeckfaaaaMpLaw2
import Derived.Test.YthmnalaeckfaaaaBunA
namespace Go.Proofs.Ythmnalaeckfaaaa
open Go.RowKit
theorem MOwn.rdn {w : World} {base : Nat} {A : Option Addr} {n c : Nat} {rows : List Row} (h : MOwn w base (.slice A n c) rows) : MRd w A rows := h.rd
theorem MOwn.nlen {w : World} {base : Nat} {A : Option Addr} {n c : Nat} {rows : List Row} (h : MOwn w base (.slice A n c) rows) : rows.length = n := by
  obtain ⟨A', c', e, _, _⟩ := own_slice h.o
  injection e with _ e2 _
  exact e2.symm
/-- what is known of a matrix in a law -/
structure MxI (n : Nat) (A : Option Addr) (c : Nat) (rows : List Row) (p : List (List Int)) (w : World) : Prop where
  l : rows.length = n
  m : matR rows = p
  r : MRd w A rows
theorem MxI.grow {n : Nat} {A : Option Addr} {c : Nat} {rows : List Row} {p : List (List Int)} {w w' : World} (h : MxI n A c rows p w) (hb : Below w.heap.size w w') : MxI n A c rows p w' := ⟨h.l, h.m, h.r.grow hb⟩
/-- Matrix, for a law: the matrix is p -/
theorem matrix_law (n : Nat) (A : Option Addr) (m c : Nat) (z : List Int) (w : World) (hn : 1 ≤ n ∧ n ≤ 12) (h : Rd w w.heap.size 1 A m (z.map (Value.int .i64))) (hm : m ≤ maxLen) :
    Calls Try.prog 13 #[.int .i64 n, .slice A m c] w fun e w' => ∃ (A1 : Option Addr) (c1 : Nat) (r1 : List Row) (p : List (List Int)), e = .returned (.slice A1 n c1) ∧ MxI n A1 c1 r1 p w' ∧ (Sq n p ∧ Go.Proofs.Ythmnalaeckfaaaa.Bd 29 p n ∧ ∀ i j, i < n → j < n → SmE (gm p i j)) ∧ Below w.heap.size w w' :=
  (matrix_any n A m c z w hn h hm).mono fun _ _ ⟨A1, c1, r1, e, hl, hs, ho, hb⟩ => ⟨A1, c1, r1, matR r1, e, ⟨hl, rfl, ho.rdn⟩, ⟨sm_sq hs hl, sm_bd hs hl, fun _ _ hi hj => sm_ent hs hl hi hj⟩, hb⟩
/-- Power of a matrix whose entries are small -/
theorem power_law {n : Nat} {A : Option Addr} {c : Nat} {rows : List Row} {p : List (List Int)} {B : Int} (k : Nat) (w : World) (h : MxI n A c rows p w) (hn : 1 ≤ n ∧ n ≤ 12) (hs : Sq n p) (hB : 0 ≤ B) (hb : Go.Proofs.Ythmnalaeckfaaaa.Bd B p n) (hk : k ≤ 3600) (hm : B * (k : Nat) ≤ 68719476736) (h1 : B ≤ 68719476736) :
    Calls Try.prog 22 #[.slice A n c, .int .i64 k] w fun e w' => ∃ (A1 : Option Addr) (c1 : Nat) (r1 : List Row), e = .returned (.tuple #[.slice A1 n c1, .int .i64 0]) ∧ MxI n A1 c1 r1 (powM n p k) w' ∧ Below w.heap.size w w' := by
  obtain ⟨rfl, rfl, hr⟩ := h
  have hp := powE_ok hB hn hs hb k hk hm h1
  refine (power_any A c rows k w hr).mono ?_
  rintro e w' ⟨A1, c1, r1, rfl, e1, ho, hbl⟩
  rw [hp.2] at e1
  have hl : r1.length = rows.length := by rw [← matR_len, e1]; exact (pow_sq _ _ _).1
  rw [hl] at ho
  exact ⟨A1, c1, r1, by rw [hp.1, hl], ⟨hl, e1, ho.rdn⟩, hbl⟩
theorem mul_law {n : Nat} {A A' : Option Addr} {c c' : Nat} {rows rows' : List Row} {p p' : List (List Int)} {B B' : Int} (w : World) (h : MxI n A c rows p w) (h' : MxI n A' c' rows' p' w) (hn : 1 ≤ n ∧ n ≤ 12) (hs : Sq n p) (hs' : Sq n p') (hb : Go.Proofs.Ythmnalaeckfaaaa.Bd B p n) (hb' : Go.Proofs.Ythmnalaeckfaaaa.Bd B' p' n) (h0 : 0 ≤ B ∧ 0 ≤ B') (hm : B + B' ≤ 68719476736) :
    Calls Try.prog 23 #[.slice A n c, .slice A' n c'] w fun e w' => ∃ (A1 : Option Addr) (c1 : Nat) (r1 : List Row), e = .returned (.tuple #[.slice A1 n c1, .int .i64 0]) ∧ MxI n A1 c1 r1 (prodM n p p') w' ∧ Below w.heap.size w w' := by
  obtain ⟨rfl, rfl, hr⟩ := h
  obtain ⟨hl', rfl, hr'⟩ := h'
  have hp := mulE_ok hn hs hs' hb hb' h0 hm
  have hc := mul_any A A' c c' rows rows' w hr hr'
  rw [hl'] at hc
  refine hc.mono ?_
  rintro e w' ⟨A1, c1, r1, rfl, e1, ho, hbl⟩
  rw [hp.2] at e1
  have hl : r1.length = rows.length := by rw [← matR_len, e1]; exact (prod_sq _ _ _).1
  rw [hl] at ho
  exact ⟨A1, c1, r1, by rw [hp.1, hl], ⟨hl, e1, ho.rdn⟩, hbl⟩
theorem same_law {n : Nat} {A A' : Option Addr} {c c' : Nat} {rows rows' : List Row} {p p' : List (List Int)} (w : World) (h : MxI n A c rows p w) (h' : MxI n A' c' rows' p' w) (e : p' = p) :
    Calls Try.prog 24 #[.slice A n c, .slice A' n c'] w fun e w' => e = .returned (.bool true) ∧ Below w.heap.size w w' := by
  obtain ⟨rfl, rfl, hr⟩ := h
  obtain ⟨hl', rfl, hr'⟩ := h'
  exact samelists_yes A A' rows.length c c' rows rows' w hr hr' hl' e
set_option maxRecDepth 100000 in
set_option maxHeartbeats 3200000 in
theorem power_true (a0 : Int) (A1 : Option Addr) (n1 c1 : Nat) (z1 : List Int) (a2 a3 : Int) (w : World) (_w0 : (Lit.int .i64 a0).wf = true) (h1 : Rd w w.heap.size 1 A1 n1 (z1.map (Value.int .i64))) (m1 : n1 ≤ c1 ∧ c1 ≤ maxLen ∧ c1 * 8 ≤ 140737488351232) (_w2 : (Lit.int .i64 a2).wf = true) (_w3 : (Lit.int .i64 a3).wf = true) :
    Calls Try.prog 6 #[.int .i64 a0, .slice A1 n1 c1, .int .i64 a2, .int .i64 a3] w fun e w' => e = .returned (.bool true) ∧ Below w.heap.size w w' := by
  have H1 := Lib.hid h1
  have Hm1 := Lib.hid (show n1 ≤ maxLen by omega)
  clear h1 m1
  go_enter Try.func6, Try.ntmps6
  go_wp2_with fail
  refine (pick_any a0 4 w (by omega) (by omega)).mono ?_
  rintro e w1 ⟨rfl, rfl⟩
  have hp := pick_bd a0 4 (by omega) (by omega)
  obtain ⟨n, hn⟩ := Int.eq_ofNat_of_zero_le (show 0 ≤ 1 + pick a0 4 by omega)
  have hnb : 1 ≤ n ∧ n ≤ 4 := by omega
  obtain ⟨hn1, hn2⟩ := hnb
  generalize pick a0 4 = p0 at *
  obtain rfl : p0 = (n : Int) - 1 := by omega
  have hn3 : (1 + ((n : Int) - 1)) = n := by omega
  clear hp hn
  go_wp2_with fail
  try rw [hn3]
  clear hn3
  refine (matrix_law n A1 n1 c1 z1 w ⟨hn1, by omega⟩ H1.out Hm1.out).mono ?_
  rintro e w2 ⟨A2, c2, r2, p, rfl, h2, hs, hb2⟩
  have H2 := Lib.hid h2
  have HS := Lib.hid hs
  have HB := Lib.hid hb2
  clear h2 hs hb2
  have hx := pick_bd a2 15 (by omega) (by omega)
  have hy := pick_bd a3 15 (by omega) (by omega)
  go_wp2_with fail
  refine (pick_any a2 15 _ (by omega) (by omega)).mono ?_
  rintro e w3 ⟨rfl, rfl⟩
  go_wp2_with fail
  refine (pick_any a3 15 _ (by omega) (by omega)).mono ?_
  rintro e w3 ⟨rfl, rfl⟩
  obtain ⟨j, hj⟩ := Int.eq_ofNat_of_zero_le hx.1
  obtain ⟨k, hk⟩ := Int.eq_ofNat_of_zero_le hy.1
  rw [hj, hk]
  rw [hj] at hx
  rw [hk] at hy
  obtain ⟨hx0, hx1⟩ := hx
  obtain ⟨hy0, hy1⟩ := hy
  clear hj hk
  have hj15 : j < 15 := by omega
  have hk15 : k < 15 := by omega
  go_wp2_with fail
  refine (power_law j w2 H2.out ⟨hn1, by omega⟩ HS.out.1 (by omega) HS.out.2.1 (by omega) (by omega) (by omega)).mono ?_
  rintro e w4 ⟨A4, c4, r4, rfl, h4, hb4⟩
  have HP := Lib.hid h4
  have HM4 := Lib.hid (H2.out.grow hb4)
  have HB4 := Lib.hid (HB.out.trans (hb4.mono HB.out.size))
  clear h4 hb4 H2 HB
  go_wp2_with fail
  refine (power_law k w4 HM4.out ⟨hn1, by omega⟩ HS.out.1 (by omega) HS.out.2.1 (by omega) (by omega) (by omega)).mono ?_
  rintro e w5 ⟨A5, c5, r5, rfl, h5, hb5⟩
  have HQ := Lib.hid h5
  have HP5 := Lib.hid (HP.out.grow hb5)
  have HM5 := Lib.hid (HM4.out.grow hb5)
  have HB5 := Lib.hid (HB4.out.trans (hb5.mono HB4.out.size))
  clear h5 hb5 HM4 HB4 HP
  go_wp2_with fail
  have hjk : ((j : Int) + (k : Int)) = ((j + k : Nat) : Int) := by omega
  rw [hjk]
  clear hjk
  refine (power_law (j + k) w5 HM5.out ⟨hn1, by omega⟩ HS.out.1 (by omega) HS.out.2.1 (by omega) (by omega) (by omega)).mono ?_
  rintro e w6 ⟨A6, c6, r6, rfl, h6, hb6⟩
  have HR := Lib.hid h6
  have HP6 := Lib.hid (HP5.out.grow hb6)
  have HQ6 := Lib.hid (HQ.out.grow hb6)
  have HB6 := Lib.hid (HB5.out.trans (hb6.mono HB5.out.size))
  clear h6 hb6 HM5 HB5 HP5 HQ
  go_wp2_with fail
  refine (mul_law w6 HP6.out HQ6.out ⟨hn1, by omega⟩ (pow_sq _ _ _) (pow_sq _ _ _) (pow_bdB (by omega) HS.out.2.1 j) (pow_bdB (by omega) HS.out.2.1 k) (by omega) (by omega)).mono ?_
  rintro e w7 ⟨A7, c7, r7, rfl, h7, hb7⟩
  have HT := Lib.hid h7
  have HR7 := Lib.hid (HR.out.grow hb7)
  have HB7 := Lib.hid (HB6.out.trans (hb7.mono HB6.out.size))
  clear h7 hb7 HB6 HP6 HQ6 HR
  have HE := Lib.hid (pow_add (by omega) HS.out.2.1 HS.out.1 j k (by omega))
  go_wp2_with fail
  refine (awake_any w7).mono ?_
  rintro e w8 ⟨rfl, hb8⟩
  have HB8 := Lib.hid (HB7.out.trans (hb8.mono HB7.out.size))
  have HT8 := Lib.hid (HT.out.grow hb8)
  have HR8 := Lib.hid (HR7.out.grow hb8)
  clear hb8 HT HR7 HB7
  go_wp2_with fail
  refine (same_law w8 HR8.out HT8.out HE.out).mono ?_
  rintro e w9 ⟨rfl, hb9⟩
  have HB9 := Lib.hid (HB8.out.trans (hb9.mono HB8.out.size))
  clear hb9
  go_wp2_with fail
  go_ret
  exact ⟨rfl, HB9.out⟩
end Go.Proofs.Ythmnalaeckfaaaa
