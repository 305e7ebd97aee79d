import Derived.Test.YthmnalaeckfaaaaMx7
import Derived.Test.YthmnalaeckfaaaaMpDl
namespace Go.Proofs.Ythmnalaeckfaaaa
open Go.RowKit
attribute [local go_sem ↓] run_max_keep
theorem crit_mem {nodes : List Bool} : ∀ m (e : Int), e ∈ critL nodes m → ∃ j, j < m ∧ e = (j : Int) ∧ nodes.getD j false = true
  | 0, e, h => by simp [critL] at h
  | m + 1, e, h => by
    unfold critL at h
    split at h
    · rename_i hm
      rcases List.mem_append.1 h with h | h
      · obtain ⟨j, h1, h2⟩ := crit_mem m e h
        exact ⟨j, by omega, h2⟩
      · simp at h
        exact ⟨m, by omega, h, hm⟩
    · obtain ⟨j, h1, h2⟩ := crit_mem m e h
      exact ⟨j, by omega, h2⟩
theorem crit_in {nodes : List Bool} : ∀ m j, j < m → nodes.getD j false = true → (j : Int) ∈ critL nodes m
  | m + 1, j, h, hn => by
    unfold critL
    by_cases e : j = m
    · subst e; rw [if_pos hn]; simp
    · have := crit_in m j (by omega) hn
      split
      · exact List.mem_append_left _ this
      · exact this
theorem crit_some {n : Nat} {a : List (List Int)} (h0 : (grAll n a n).den ≠ 0) : 0 < (critL (grAll n a n).nodes n).length := by
  have hI := grAll_inv n a n
  obtain ⟨k, i, hp, hw, e1, e2⟩ := hI.at_ h0
  have h1 := (hI.nd i hp.2.2).2 ⟨h0, k, hp, hw, by rw [e1, e2]⟩
  exact List.length_pos_of_mem (crit_in n i hp.2.2 h1)
theorem late_rec {n : Nat} {a : List (List Int)} {T : Int} {x : List Int} {i : Nat} (h0 : (grAll n a n).den ≠ 0) (hgt : T * (meanG (grAll n a n)).2.1 < (meanG (grAll n a n)).1) (hi : i < n) (hnode : (grAll n a n).nodes.getD i false = true) (hn : n ≤ 4) (hT : 1 ≤ T ∧ T ≤ 25) (hc : ∀ i j, i < n → j < n → gm a i j ≠ -1125899906842624 → -10 ≤ gm a i j) (hxl : x.length = n) (hx : 400 ≤ x.getD i 0) (m : Nat) : recS n a T m 0 x = (0, false) := by
  have hI := grAll_inv n a n
  obtain ⟨g, hg, e1, e2, hp, _, _⟩ := meanG_low hI.d h0
  obtain ⟨_, k, ⟨k1, k2, _⟩, hw, he⟩ := (hI.nd i hi).1 hnode
  have h3 : T * (grAll n a n).den < (grAll n a n).num := by
    rw [e1, e2, ← Int.mul_assoc]
    exact Int.mul_lt_mul_of_pos_right hgt hg
  have hd : 0 < (grAll n a n).den := by have := hI.d; omega
  have h4 : (T * k) * (grAll n a n).den < Wk n a k i * (grAll n a n).den := by
    rw [he]
    have h5 := Int.mul_lt_mul_of_pos_right h3 (show (0 : Int) < (k : Int) by omega)
    have e : T * (grAll n a n).den * (k : Int) = (T * k) * (grAll n a n).den := by rw [Int.mul_assoc, Int.mul_comm (grAll n a n).den, ← Int.mul_assoc]
    omega
  have h6 := Int.lt_of_mul_lt_mul_right h4 (by omega)
  have h7 : (-35 : Int) * (k : Int) ≤ (-10 - T) * (k : Int) := Int.mul_le_mul_of_nonneg_right (by omega) (by omega)
  have hst := late_stays (p := T) (X := 400) (c := -10) (x := x) hi k1 hw (by omega) hc (by omega) (by omega) hx
  refine recS_false m 0 x fun s _ => ?_
  obtain ⟨j, hj, hpos⟩ := hst s
  cases hall : (dl n a T x s).all (· == 0)
  · rfl
  · have := (dl_zero hxl s).1 hall j hj
    omega
def LatL (w WB : World) (n g B5 c6 : Nat) (A6 : Option Addr) (v : Int) (l : List Int) (k : Nat) (u : Value) (wr : World) : Prop :=
  ∃ (j : Nat) (zs : List Int), u = .int .i64 j ∧ j + k = l.length ∧ (∀ e ∈ zs, 0 ≤ e ∧ e ≤ 1400) ∧ (0 < j → ∃ i : Nat, i < n ∧ (i : Int) ∈ l ∧ zs.getD i 0 = v) ∧ wr.ownsRow w.heap.size 3 1 (.slice (some ⟨g, 0, none⟩) n n) n (zs.map (Value.int .i64)) ∧ wr.ownsRow B5 3 1 (.slice A6 l.length c6) l.length (l.map (Value.int .i64)) ∧ Below w.heap.size w wr ∧ Below WB.heap.size WB wr
set_option maxRecDepth 100000 in
set_option maxHeartbeats 6400000 in
theorem late_true (a0 : Int) (A1 : Option Addr) (n1 c1 : Nat) (z1 : List Int) (a2 a3 : Int) (w : World) (_w0 : (Lit.int .i64 a0).wf = true) (h1 : Rd w w.heap.size 1 A1 n1 (z1.map (Value.int .i64))) (m1 : n1 ≤ c1 ∧ c1 ≤ maxLen ∧ c1 * 8 ≤ 140737488351232) (_w2 : (Lit.int .i64 a2).wf = true) (_w3 : (Lit.int .i64 a3).wf = true) :
    Calls Try.prog 5 #[.int .i64 a0, .slice A1 n1 c1, .int .i64 a2, .int .i64 a3] w fun e w' => e = .returned (.bool true) ∧ Below w.heap.size w w' := by
  have I1 := Lib.hid h1
  have Hm1 := Lib.hid (show n1 ≤ maxLen by omega)
  clear h1 m1
  obtain ⟨i0, a1, a2, a3, a4⟩ := info_parts infoInt
  have HI := Lib.hid (And.intro a1 (And.intro a2 (And.intro a3 a4)))
  clear a1 a2 a3 a4
  obtain ⟨r0, a1, a2, a3, a4⟩ := info_parts infoRow
  have HIr := Lib.hid (And.intro a1 (And.intro a2 (And.intro a3 a4)))
  clear a1 a2 a3 a4
  go_enter Try.func5, Try.ntmps5
  go_wp2_with fail
  refine (pick_any a0 4 w (by omega) (by omega)).mono ?_
  rintro e w1 ⟨rfl, rfl⟩
  have hp := pick_bd a0 4 (by omega) (by omega)
  obtain ⟨n, hn⟩ := Int.eq_ofNat_of_zero_le (show 0 ≤ 1 + pick a0 4 by omega)
  have hnb : 1 ≤ n ∧ n ≤ 4 := by omega
  obtain ⟨hn1, hn2⟩ := hnb
  generalize pick a0 4 = p0 at *
  obtain rfl : p0 = (n : Int) - 1 := by omega
  have hn3 : (1 + ((n : Int) - 1)) = n := by omega
  clear hp hn
  go_wp2_with fail
  try rw [hn3]
  clear hn3
  refine (matrix_any n A1 n1 c1 z1 w ⟨hn1, by omega⟩ I1.out Hm1.out).mono ?_
  rintro e w2 ⟨A, ca, ra, rfl, hl, hsm, ho, hb2⟩
  have HEn := Lib.hid (fun i j (hi : i < n) (hj : j < n) => sm_ent hsm hl hi hj)
  have HCk := Lib.hid (sm_chk hsm hl ⟨hn1, by omega⟩)
  have HOk := Lib.hid (grAll_ok (n := n) ((sm_bd hsm hl).mono (by omega)) n (by omega))
  have HA := Lib.hid ho.rdn
  have HB := Lib.hid hb2
  have HL := Lib.hid hl
  have HMf := Lib.hid (show meanF (matR ra) = meanG (grAll n (matR ra) n) by unfold meanF; rw [if_pos HCk.out, matR_len, hl])
  have HCf := Lib.hid (show critF (matR ra) = critL (grAll n (matR ra) n).nodes n by unfold critF; rw [if_pos HCk.out, matR_len, hl])
  have hrc := rmean_any A ca ra w2 HA.out
  rw [hl] at hrc
  have hcc := fun w' hb => rcritical_any A ca ra w' (HA.out.grow hb)
  rw [hl] at hcc
  have hrr := fun B cb x w' hb hB hx => recover_any A B ca cb ra x (1 + pick a2 25) 200 w' (HA.out.grow hb) hB hx
  rw [hl] at hrr
  have HRr := Lib.hid hrr
  have HCc := Lib.hid hcc
  clear hl hsm ho hb2 hcc hrr
  have hT := pick_bd a2 25 (by omega) (by omega)
  obtain ⟨hT0, hT1⟩ := hT
  have hv := pick_bd a3 1000 (by omega) (by omega)
  obtain ⟨hv0, hv1⟩ := hv
  go_wp2_with fail
  refine (pick_any a2 25 w2 (by omega) (by omega)).mono ?_
  rintro e w3 ⟨rfl, rfl⟩
  have HTe := Lib.hid (show ∃ T, T = 1 + pick a2 25 from ⟨_, rfl⟩)
  obtain ⟨T, hT⟩ := HTe.out
  have HTq := Lib.hid hT
  rw [← hT] at HRr
  have hTa : 1 ≤ T := by omega
  have hTb : T ≤ 25 := by omega
  clear HTe
  go_wp2_with fail
  try rw [← HTq.out]
  clear hT hT0 hT1 HTq
  refine hrc.mono ?_
  rintro e w4 ⟨rfl, hb4⟩
  have HB4 := Lib.hid (HB.out.trans (hb4.mono HB.out.size))
  have HB24 := Lib.hid hb4
  have HBs := Lib.hid HB.out.size
  clear hb4 hrc HB
  by_cases h0 : (grAll n (matR ra) n).den = 0
  · rw [show meanF (matR ra) = (0, 0, false) by rw [HMf.out]; unfold meanG; rw [if_pos h0]]
    clear h0
    go_wp2_with fail
    refine (awake_any w4).mono ?_
    rintro e w5 ⟨rfl, hb5⟩
    have HB5 := Lib.hid (HB4.out.trans (hb5.mono HB4.out.size))
    clear hb5
    go_wp2_with fail
    go_ret
    exact ⟨rfl, HB5.out⟩
  have H0 := Lib.hid h0
  have hmb := meanG_bd HOk.out h0
  rw [← HMf.out] at hmb
  have HLt := Lib.hid (fun (hgt : T * (meanF (matR ra)).2.1 < (meanF (matR ra)).1) (x : List Int) (i : Nat) (hi : i < n) (hin : (i : Int) ∈ critF (matR ra)) (hxl : x.length = n) (hx : 400 ≤ x.getD i 0) => by
    rw [HCf.out] at hin
    obtain ⟨j, hj, e, hnd⟩ := crit_mem n _ hin
    have : i = j := by omega
    subst this
    exact late_rec (T := T) (x := x) h0 (by rw [← HMf.out]; exact hgt) hi hnd (by omega) ⟨hTa, hTb⟩ (fun i j hi hj hne => by rcases HEn.out i j hi hj with h | h <;> omega) hxl hx 200
    : (T * (meanF (matR ra)).2.1 < (meanF (matR ra)).1) → ∀ (x : List Int) (i : Nat), i < n → (i : Int) ∈ critF (matR ra) → x.length = n → 400 ≤ x.getD i 0 → recS n (matR ra) T 200 0 x = (0, false))
  have HPos := Lib.hid (show 0 < (critF (matR ra)).length by rw [HCf.out]; exact crit_some h0)
  have HMem := Lib.hid (show ∀ e ∈ critF (matR ra), ∃ j, j < n ∧ e = (j : Int) from fun e he => by
    rw [HCf.out] at he
    obtain ⟨j, h1, h2, _⟩ := crit_mem n e he
    exact ⟨j, h1, h2⟩)
  have HLen := Lib.hid (show (critF (matR ra)).length ≤ 4 by rw [HCf.out]; exact Nat.le_trans (critL_len _ _) hn2)
  clear h0 HMf HCf HOk
  generalize meanF (matR ra) = mf at *
  obtain ⟨num, den, okb⟩ := mf
  simp only at hmb HLt
  obtain ⟨⟨hnm0, hnm1⟩, hdp, hd12, rfl⟩ := hmb
  have hq1 : T * den ≤ 25 * 12 := Int.mul_le_mul hTb hd12 (by omega) (by omega)
  have hq2 : 0 ≤ T * den := Int.mul_nonneg (by omega) (by omega)
  simp only
  by_cases hle : num ≤ T * den
  · have hle' : decide (num ≤ T * den) = true := by simpa using hle
    go_wp2_with fail
    refine (awake_any w4).mono ?_
    rintro e w5 ⟨rfl, hb5⟩
    have HB5 := Lib.hid (HB4.out.trans (hb5.mono HB4.out.size))
    clear hb5
    go_wp2_with fail
    go_ret
    exact ⟨rfl, HB5.out⟩
  have hle' : decide (num ≤ T * den) = false := by simpa using hle
  have HLt2 := Lib.hid (HLt.out (by omega))
  clear HLt
  generalize critF (matR ra) = cl at *
  go_upto_region 7 with (at_make; refine wpList_make_full _ rfl _ _ 22 rfl w4.heap.size 3 i0 _ 1 Try.underlying22 HI.out.1 HI.out.2.1 HI.out.2.2.1 .i64 .i64 _ _ n rfl rfl rfl rfl ?m1 ?m2 ?m3 ?_; rotate_right; intro w5 hown5 hg5)
  case m1 => rw [HI.out.2.2.2]; omega
  case m2 => simp only [maxLen]; omega
  have hb5 : Below w4.heap.size w4 w5 := (Below.refl _ _).grown hg5 (Nat.le_refl _) (by simp)
  have HR5 := Lib.hid (show w5.ownsRow w4.heap.size 3 1 (.slice (some ⟨w4.heap.size, 0, none⟩) n n) n ((List.replicate n (0 : Int)).map (Value.int .i64)) by
    have h := madeCells_one (Value.int .i64) 0 n
    rw [← h]
    exact hown5)
  have HB5 := Lib.hid (HB4.out.trans (hb5.mono HB4.out.size))
  have HB25 := Lib.hid (HB24.out.trans (hb5.mono HB24.out.size))
  have hz4 := HB4.out.size
  have hw2 := HB24.out.size
  clear hown5 hg5 hb5 HB4 HB24
  generalize w4.heap.size = g at *
  go_wp2_with fail
  refine (HCc.out w5 HB25.out).mono ?_
  rintro e w6 ⟨⟨A6, c6, z6⟩, rfl, hm6, ho6, hb6⟩
  simp only at hm6
  subst hm6
  have HR6 := Lib.hid (own_base (own_grow HR5.out hb6) hz4)
  have HB6 := Lib.hid (HB5.out.trans (hb6.mono HB5.out.size))
  have HB26 := Lib.hid (HB25.out.trans (hb6.mono HB25.out.size))
  have HO6 := Lib.hid ho6.1
  have hgS : g < w5.heap.size := (own_block HR5.out g rfl).2
  have HgO := Lib.hid (fun b (hb : (Row.val ⟨A6, c6, z6⟩).ownBlock = some b) => (own_block ho6.1 b hb).1)
  clear ho6 hb6 HR5 HB5 HB25 HCc
  unfold Row.val
  simp only
  have HO6' := Lib.hid (show w6.ownsRow w5.heap.size 3 1 (.slice A6 z6.length c6) z6.length (z6.map (Value.int .i64)) from HO6.out)
  clear HO6 HgO
  generalize w5.heap.size = B5 at *
  have hwg : w.heap.size ≤ g := hz4
  have hw2g : w2.heap.size ≤ g := hw2
  go_wp2_with fail
  go_loopg [16, 49] z6.length (fun k _ u wr => LatL w w2 n g B5 c6 A6 (400 + pick a3 1000) z6 k u wr)
  case atStart => exact ⟨0, _, rfl, by omega, fun e he => by rw [List.mem_replicate] at he; omega, fun h => absurd h (by omega), HR6.out, HO6'.out, HB6.out, HB26.out⟩
  case round =>
    clear HR6 HO6' HB6 HB26
    obtain ⟨j, zs, rfl, hj, hzs, hex, hor, hol, hbl, hbl2⟩ := hrel
    have Hj := Lib.hid hj
    have Hzs := Lib.hid hzs
    have Hex := Lib.hid hex
    have HOr := Lib.hid hor
    have HOl := Lib.hid hol
    have HBl := Lib.hid hbl
    have HBl2 := Lib.hid hbl2
    clear hj hzs hex hor hol hbl hbl2
    have hlen := HLen.out
    by_cases hlt : j < z6.length
    · obtain ⟨bz, oz, rfl, hbz, p0⟩ := rd1 (Rd.of_own HOl.out) j hlt
      have hmem := List.getElem_mem hlt
      obtain ⟨i, hi, ei⟩ := HMem.out _ hmem
      rw [ei] at p0 hmem
      obtain ⟨hzl, l1, l2, hgl, hgb⟩ := row_last HOr.out
      have l3 := l1 i (by omega)
      have l4 := l2 i
      have Hzl := Lib.hid hzl
      have HO9 := Lib.hid (own1_set HOr.out i (400 + pick a3 1000))
      have HL9 := Lib.hid (own_far (p := ⟨g, i, none⟩) (u := .int .i64 (400 + pick a3 1000)) HOl.out (fun e => by have := (own_block HOl.out _ e).1; simp only at this; omega))
      have HB9 := Lib.hid (HBl.out.setCell (p := ⟨g, i, none⟩) hwg (.int .i64 (400 + pick a3 1000)))
      have HB29 := Lib.hid (HBl2.out.setCell (p := ⟨g, i, none⟩) hw2g (.int .i64 (400 + pick a3 1000)))
      have Hzs9 := Lib.hid (show ∀ e ∈ zs.set i (400 + pick a3 1000), 0 ≤ e ∧ e ≤ 1400 from fun e he => by
        rcases List.mem_or_eq_of_mem_set he with h | rfl
        · exact Hzs.out e h
        · omega)
      have Hex9 := Lib.hid (show ∃ i' : Nat, i' < n ∧ (i' : Int) ∈ z6 ∧ (zs.set i (400 + pick a3 1000)).getD i' 0 = 400 + pick a3 1000 from ⟨i, hi, hmem, by simp [List.getD_eq_getElem?_getD, List.getElem?_set_self (show i < zs.length by omega)]⟩)
      generalize zs[i]'(by omega) = zi at *
      clear l1 l2 hzl hmem ei
      go_wp2_with fail
      refine (pick_any a3 1000 wr (by omega) (by omega)).mono ?_
      rintro e w7 ⟨rfl, rfl⟩
      go_wp2_with fail
      go_roundg (z6.length - j - 1)
      case measure => have := Hj.out; omega
      case rel => exact ⟨j + 1, _, by first | rfl | go_num, by omega, Hzs9.out, fun _ => Hex9.out, HO9.out, HL9.out, HB9.out, HB29.out⟩
    · obtain rfl : j = z6.length := by have := Hj.out; omega
      obtain ⟨i, hi, him, hiv⟩ := Hex.out HPos.out
      have hzl := (own1_len HOr.out).symm
      have hrs := HLt2.out zs i hi him hzl (by omega)
      have HRc := Lib.hid (show recF (matR ra) zs T 200 = (0, false) by
        unfold recF
        rw [if_pos ⟨HCk.out, by rw [matR_len, HL.out]; exact hzl, by omega, by omega, by omega, by omega, fun d hd => by have := Hzs.out d hd; omega⟩, matR_len, HL.out]
        exact hrs)
      have hcall := HRr.out (some ⟨g, 0, none⟩) n zs wr HBl2.out (by rw [hzl]; exact Rd.of_own HOr.out) (by omega)
      rw [hzl] at hcall
      go_wp2_with fail
      refine hcall.mono ?_
      rintro e w8 ⟨rfl, hb8⟩
      have HB8 := Lib.hid (HBl.out.trans (hb8.mono HBl.out.size))
      rw [HRc.out]
      clear hb8 hcall
      go_wp2_with fail
      refine (awake_any w8).mono ?_
      rintro e w9 ⟨rfl, hb9⟩
      have HB9 := Lib.hid (HB8.out.trans (hb9.mono HB8.out.size))
      clear hb9
      go_wp2_with fail
      go_ret
      exact ⟨rfl, HB9.out⟩
end Go.Proofs.Ythmnalaeckfaaaa
