import Derived.Test.YthmnalaeckfaaaaMpGr
namespace Go.Proofs.Ythmnalaeckfaaaa
open Go.RowKit
theorem meanG_bd {n : Nat} {s : Gr} (h : GrOk n s) (h0 : s.den ≠ 0) : (-824633720832 ≤ (meanG s).1 ∧ (meanG s).1 ≤ 824633720832) ∧ 0 < (meanG s).2.1 ∧ (meanG s).2.1 ≤ 12 ∧ (meanG s).2.2 = true := by
  obtain ⟨g, hg, e1, e2, hp, ht, _⟩ := meanG_low h.d0 h0
  have hn0 := h.n0
  have hn1 := h.n1
  have hd1 := h.d1
  refine ⟨?_, hp, ?_, ht⟩
  · rw [e1] at hn0 hn1
    generalize (meanG s).1 = x at *
    constructor
    · by_cases hx : 0 ≤ x
      · omega
      · have := Int.mul_le_mul_of_nonpos_left (show x ≤ 0 by omega) (show (1 : Int) ≤ g by omega)
        omega
    · by_cases hx : 0 ≤ x
      · have := Int.mul_le_mul_of_nonneg_left (show (1 : Int) ≤ g by omega) hx
        omega
      · omega
  · rw [e2] at hd1
    have := Int.mul_le_mul_of_nonneg_left (show (1 : Int) ≤ g by omega) (show 0 ≤ (meanG s).2.1 by omega)
    omega
def critO (n : Nat) (a : List (List Int)) (num den : Int) : Nat → List Int
  | 0 => []
  | j + 1 => if onB n a num den j n = true then critO n a num den j ++ [(j : Int)] else critO n a num den j
theorem critO_len (n : Nat) (a : List (List Int)) (num den : Int) : ∀ j, (critO n a num den j).length ≤ j
  | 0 => by simp [critO]
  | j + 1 => by have := critO_len n a num den j; unfold critO; split <;> simp <;> omega
theorem critO_eq {n : Nat} {a : List (List Int)} (h0 : (grAll n a n).den ≠ 0) : ∀ j, j ≤ n → critO n a (meanG (grAll n a n)).1 (meanG (grAll n a n)).2.1 j = critL (grAll n a n).nodes j
  | 0, _ => rfl
  | j + 1, h => by
    unfold critO critL
    rw [crit_same h0 (by omega), critO_eq h0 j (by omega)]
theorem critL_none {n : Nat} {a : List (List Int)} (h0 : (grAll n a n).den = 0) : ∀ j, j ≤ n → critL (grAll n a n).nodes j = []
  | 0, _ => rfl
  | j + 1, h => by
    unfold critL
    rw [if_neg (fun e => ((grAll_inv n a n).nd j (by omega)).1 e |>.1 h0), critL_none h0 j (by omega)]
def RC1 (w : World) (n : Nat) (a : List (List Int)) (num den : Int) (g : Nat) (v6 v : Value) (wr : World) : Prop :=
  ∃ i : Nat, v = .int .i64 i ∧ i + g = n ∧ wr.ownsRow w.heap.size 3 1 v6 (critO n a num den i).length ((critO n a num den i).map (Value.int .i64)) ∧ Below w.heap.size w wr
def RC2 (w : World) (n i : Nat) (a : List (List Int)) (num den : Int) (v6 : Value) (g : Nat) (v8 v9 v : Value) (wr : World) : Prop :=
  ∃ (k : Nat) (A : Option Addr) (c : Nat) (rows : List Row), v = .int .i64 ((k : Int) + 1) ∧ k + g = n ∧ v8 = .slice A n c ∧ v9 = .bool (onB n a num den i k) ∧ rows.length = n ∧ matR rows = powM n a (k + 1) ∧ MRd wr A rows ∧ wr.ownsRow w.heap.size 3 1 v6 (critO n a num den i).length ((critO n a num den i).map (Value.int .i64)) ∧ Below w.heap.size w wr
set_option maxRecDepth 100000 in
set_option maxHeartbeats 6400000 in
theorem rcritical_any (A : Option Addr) (ca : Nat) (ra : List Row) (w : World) (ha : MRd w A ra) :
    Calls Try.prog 21 #[.slice A ra.length ca] w (VecOut (critF (matR ra)) w) := by
  have HA := Lib.hid ha
  clear ha
  obtain ⟨i0, a1, a2, a3, a4⟩ := info_parts infoInt
  have HI := Lib.hid (And.intro a1 (And.intro a2 (And.intro a3 a4)))
  clear a1 a2 a3 a4
  obtain ⟨r0, a1, a2, a3, a4⟩ := info_parts infoRow
  have HIr := Lib.hid (And.intro a1 (And.intro a2 (And.intro a3 a4)))
  clear a1 a2 a3 a4
  by_cases hgood : chkM (matR ra) = true ∧ (grAll ra.length (matR ra) ra.length).den ≠ 0
  case neg =>
    have HM := Lib.hid (show meanF (matR ra) = (0, 0, false) by
      unfold meanF
      rw [matR_len]
      split
      · rename_i h
        unfold meanG
        rw [if_pos (Decidable.not_not.1 (fun e => hgood ⟨h, e⟩))]
      · rfl)
    have HF := Lib.hid (show critF (matR ra) = [] by
      unfold critF
      rw [matR_len]
      split
      · rename_i h
        exact critL_none (Decidable.not_not.1 (fun e => hgood ⟨h, e⟩)) _ (Nat.le_refl _)
      · rfl)
    clear hgood
    go_enter Try.func21, Try.ntmps21
    go_wp2_with fail
    refine (rmean_any A ca ra w HA.out).mono ?_
    rintro e w1 ⟨rfl, hb1⟩
    rw [HM.out]
    have HB1 := Lib.hid hb1
    clear hb1
    go_wp2_with fail
    go_ret
    exact ⟨⟨none, 0, []⟩, rfl, HF.out.symm, ⟨World.ownsRow_nil _ _ _ _, by simp⟩, HB1.out⟩
  obtain ⟨h1, h0⟩ := hgood
  have HF := Lib.hid (show critF (matR ra) = critO ra.length (matR ra) (meanF (matR ra)).1 (meanF (matR ra)).2.1 ra.length by
    unfold critF meanF
    rw [if_pos h1, if_pos h1, matR_len, critO_eq h0 _ (Nat.le_refl _)])
  have HMb := Lib.hid (show (-824633720832 ≤ (meanF (matR ra)).1 ∧ (meanF (matR ra)).1 ≤ 824633720832) ∧ 0 < (meanF (matR ra)).2.1 ∧ (meanF (matR ra)).2.1 ≤ 12 ∧ (meanF (matR ra)).2.2 = true by
    unfold meanF
    rw [if_pos h1, matR_len]
    exact meanG_bd (grAll_ok (Go.Proofs.Ythmnalaeckfaaaa.chk_bd h1) ra.length (chk_n h1).2) h0)
  have HSq := Lib.hid (chk_sq h1)
  have HBd := Lib.hid (Go.Proofs.Ythmnalaeckfaaaa.chk_bd h1)
  obtain ⟨hn1, hn2⟩ := chk_n h1
  have HP1 := Lib.hid (pow_one HSq.out HBd.out)
  obtain ⟨n, hn⟩ : ∃ n, n = ra.length := ⟨_, rfl⟩
  have HRn := Lib.hid hn.symm
  rw [← hn] at HF HSq HBd hn1 hn2 HP1
  rw [← hn]
  have hmc := rmean_any A ca ra w HA.out
  rw [← hn] at hmc
  have HMc := Lib.hid hmc
  clear hn h1 h0 hmc
  generalize meanF (matR ra) = mf at *
  obtain ⟨num, den, okb⟩ := mf
  simp only at HF HMb
  obtain ⟨⟨hnm0, hnm1⟩, hdp, hd12, rfl⟩ := HMb.out
  go_enter Try.func21, Try.ntmps21
  go_wp2_with fail
  refine HMc.out.mono ?_
  rintro e w1 ⟨rfl, hb1⟩
  have HB1 := Lib.hid hb1
  clear hb1 HMc
  go_wp2_with fail
  go_loopg [6, 7, 8, 9, 10, 21] n (fun g v6 _ _ _ _ v wr => RC1 w n (matR ra) num den g v6 v wr)
  case atStart => exact ⟨0, rfl, by omega, World.ownsRow_nil _ _ _ _, HB1.out⟩
  case round =>
    clear HB1
    obtain ⟨i, rfl, hi, ho, hbl⟩ := hrel
    have Hi := Lib.hid hi
    have HO := Lib.hid ho
    have HBl := Lib.hid hbl
    clear hi ho hbl
    obtain ⟨A6, c6, rfl, _, _⟩ := own_slice HO.out
    have hcl := critO_len n (matR ra) num den i
    by_cases hil : i < n
    · go_wp2_with fail
      go_loopg [8, 9, 10] n (fun g v8 v9 v wx => RC2 w n i (matR ra) num den (.slice A6 (critO n (matR ra) num den i).length c6) g v8 v9 v wx)
      case atStart => exact ⟨0, A, ca, ra, rfl, by omega, rfl, rfl, HRn.out, HP1.out.symm, HA.out.grow HBl.out, HO.out, HBl.out⟩
      case round =>
        clear HO HBl
        obtain ⟨k, A8, c8, rows, rfl, hk, rfl, rfl, hr, hmt, hmo, ho, hbl⟩ := hrel
        have Hk := Lib.hid hk
        have HR := Lib.hid hr
        have HMt := Lib.hid hmt
        have HMo := Lib.hid hmo
        have HO := Lib.hid ho
        have HBl := Lib.hid hbl
        clear hk hr hmt hmo ho hbl
        by_cases hlt : k < n
        · have hle : (k : Int) + 1 ≤ (n : Int) := by omega
          have HBq := Lib.hid (pow_bd12 HBd.out (k + 1) (by omega))
          have hi6 : i < rows.length := by rw [HR.out]; exact hil
          have hz6 : rows[i].zs.length = n := (show Sq n (matR rows) by rw [HMt.out]; exact pow_sq _ _ _).2 _ (List.mem_map.2 ⟨rows[i], List.getElem_mem hi6, rfl⟩)
          have ga := gm_row hi6 (k := i) (by rw [hz6]; exact hil)
          rw [HMt.out] at ga
          obtain ⟨bx, ox, ex, hbx, p0⟩ := rd1 HMo.out.r i hi6
          obtain ⟨bu, ou, eu, hbu, p1⟩ := rd1 (HMo.out.c rows[i] (List.getElem_mem hi6)).r i (by rw [hz6]; exact hil)
          subst ex
          rw [← ga] at p1
          unfold Row.val at p0
          rw [eu, hz6] at p0
          have hwt := HBq.out i i hil hil
          have HOn := Lib.hid (show onB n (matR ra) num den i (k + 1) = (onB n (matR ra) num den i k || (gm (powM n (matR ra) (k + 1)) i i != -1125899906842624 && gm (powM n (matR ra) (k + 1)) i i * den == num * ((k : Int) + 1))) from rfl)
          generalize rows[i].c = cu at *
          clear ga eu hz6 hi6
          generalize gm (powM n (matR ra) (k + 1)) i i = wt at *
          generalize onB n (matR ra) num den i k = on at *
          have hk12 : (0 : Int) ≤ (k : Int) + 1 ∧ (k : Int) + 1 ≤ 12 := by omega
          obtain ⟨hq2a, hq2b⟩ := mulb num ((k : Int) + 1) ⟨hnm0, hnm1⟩ hk12
          cases on
          · by_cases hw : wt = -1125899906842624
            · subst hw
              rw [show (false || ((-1125899906842624 : Int) != -1125899906842624 && (-1125899906842624 : Int) * den == num * ((k : Int) + 1))) = false by simp] at HOn
              go_wp2_with fail
              refine (raw_any _ A n c8 ca rows ra _ HMo.out (HA.out.grow HBl.out) ⟨hn1, hn2⟩ (by rw [HMt.out]; exact pow_sq _ _ _) HSq.out (by rw [HMt.out]; exact HBq.out.mono (by omega)) (HBd.out.mono (by omega))).mono ?_
              rintro e w6 ⟨A9, c9, rows9, rfl, hm6, ho6, hb6⟩
              have HR6 := Lib.hid (show rows9.length = n by rw [← matR_len, hm6, prod_len])
              have HM6 := Lib.hid (show matR rows9 = powM n (matR ra) (k + 1 + 1) by rw [hm6, HMt.out]; rfl)
              have HR9 := Lib.hid ho6.rd
              have HO9 := Lib.hid (own_grow HO.out hb6)
              have HB9 := Lib.hid (HBl.out.trans (hb6.mono HBl.out.size))
              rw [HR6.out]
              clear hm6 ho6 hb6 HMo HBl HO
              go_wp2_with fail
              go_roundg (n - k - 1)
              case measure => have := Hk.out; omega
              case rel => exact ⟨k + 1, A9, c9, rows9, by first | rfl | go_num, by omega, rfl, by rw [HOn.out], HR6.out, HM6.out, HR9.out, HO9.out, HB9.out⟩
            · have hw' : (wt != -1125899906842624) = true := by simpa using hw
              have hw2 : (wt == -1125899906842624) = false := by simpa using hw
              obtain ⟨hq1a, hq1b⟩ := mulb wt den (hwt.resolve_left hw) ⟨by omega, hd12⟩
              rw [hw', Bool.false_or, Bool.true_and] at HOn
              cases heq : (wt * den == num * ((k : Int) + 1))
              all_goals
                rw [heq] at HOn
                go_wp2_with fail
                refine (raw_any _ A n c8 ca rows ra _ HMo.out (HA.out.grow HBl.out) ⟨hn1, hn2⟩ (by rw [HMt.out]; exact pow_sq _ _ _) HSq.out (by rw [HMt.out]; exact HBq.out.mono (by omega)) (HBd.out.mono (by omega))).mono ?_
                rintro e w6 ⟨A9, c9, rows9, rfl, hm6, ho6, hb6⟩
                have HR6 := Lib.hid (show rows9.length = n by rw [← matR_len, hm6, prod_len])
                have HM6 := Lib.hid (show matR rows9 = powM n (matR ra) (k + 1 + 1) by rw [hm6, HMt.out]; rfl)
                have HR9 := Lib.hid ho6.rd
                have HO9 := Lib.hid (own_grow HO.out hb6)
                have HB9 := Lib.hid (HBl.out.trans (hb6.mono HBl.out.size))
                rw [HR6.out]
                clear hm6 ho6 hb6 HMo HBl HO
                go_wp2_with fail
                go_roundg (n - k - 1)
                case measure => have := Hk.out; omega
                case rel => exact ⟨k + 1, A9, c9, rows9, by first | rfl | go_num, by omega, rfl, by rw [HOn.out], HR6.out, HM6.out, HR9.out, HO9.out, HB9.out⟩
          · rw [Bool.true_or] at HOn
            go_wp2_with fail
            refine (raw_any _ A n c8 ca rows ra _ HMo.out (HA.out.grow HBl.out) ⟨hn1, hn2⟩ (by rw [HMt.out]; exact pow_sq _ _ _) HSq.out (by rw [HMt.out]; exact HBq.out.mono (by omega)) (HBd.out.mono (by omega))).mono ?_
            rintro e w6 ⟨A9, c9, rows9, rfl, hm6, ho6, hb6⟩
            have HR6 := Lib.hid (show rows9.length = n by rw [← matR_len, hm6, prod_len])
            have HM6 := Lib.hid (show matR rows9 = powM n (matR ra) (k + 1 + 1) by rw [hm6, HMt.out]; rfl)
            have HR9 := Lib.hid ho6.rd
            have HO9 := Lib.hid (own_grow HO.out hb6)
            have HB9 := Lib.hid (HBl.out.trans (hb6.mono HBl.out.size))
            rw [HR6.out]
            clear hm6 ho6 hb6 HMo HBl HO
            go_wp2_with fail
            go_roundg (n - k - 1)
            case measure => have := Hk.out; omega
            case rel => exact ⟨k + 1, A9, c9, rows9, by first | rfl | go_num, by omega, rfl, by rw [HOn.out], HR6.out, HM6.out, HR9.out, HO9.out, HB9.out⟩
        · obtain rfl : k = n := by have := Hk.out; omega
          have hle : ¬ (k : Int) + 1 ≤ (k : Int) := by omega
          have hsz := HBl.out.size
          have HC := Lib.hid (show critO k (matR ra) num den (i + 1) = if onB k (matR ra) num den i k = true then critO k (matR ra) num den i ++ [(i : Int)] else critO k (matR ra) num den i from rfl)
          generalize critO k (matR ra) num den i = l at *
          generalize onB k (matR ra) num den i k = on at *
          cases on
          · have HC2 := Lib.hid (show critO k (matR ra) num den (i + 1) = l from HC.out)
            go_wp2_with fail
            go_roundg (k - i - 1)
            case measure => have := Hi.out; omega
            case rel => exact ⟨i + 1, by first | rfl | go_num, by omega, by rw [HC2.out]; exact HO.out, HBl.out⟩
          · have HC2 := Lib.hid (show critO k (matR ra) num den (i + 1) = l ++ [(i : Int)] from HC.out)
            have hl12 : l.length ≤ 12 := by omega
            go_wp2_with (at_builtin; refine wpList_append_own_at _ rfl _ _ 22 rfl w.heap.size 3 i0 _ 1 8 Try.underlying22 HI.out.1 HI.out.2.1 HI.out.2.2.1 HI.out.2.2.2 rfl (by omega) _ l.length _ rfl (World.ownsRow.alloc HO.out _) ⟨wr.heap.size, 0, none⟩ 1 1 [.int .i64 (i : Int)] rfl rfl (news_new _ _ _) ?c1 ?c2 ?c3 ?c4 ?_; rotate_right; intro v' w' hown' hg' _ hat')
            case c1 => first | rfl | (intro u hu; simp at hu; subst hu; rfl)
            case c2 => simp only [maxLen]; omega
            case c3 => omega
            case c4 => first | omega | (simp; omega)
            have HO9 := Lib.hid (show w'.ownsRow w.heap.size 3 1 v' (critO k (matR ra) num den (i + 1)).length ((critO k (matR ra) num den (i + 1)).map (Value.int .i64)) by
              rw [HC2.out, List.length_append, List.map_append]
              exact hown')
            have HB9 := Lib.hid (below_app (HBl.out.alloc hsz _) (World.ownsRow.alloc HO.out _) (Nat.le_refl _) (by simp; omega) hg')
            clear hown' hg' hat' HO HBl
            go_wp2_with fail
            go_roundg (k - i - 1)
            case measure => have := Hi.out; omega
            case rel => exact ⟨i + 1, by first | rfl | go_num, by omega, HO9.out, HB9.out⟩
    · obtain rfl : i = n := by have := Hi.out; omega
      go_wp2_with fail
      go_ret
      exact ⟨⟨A6, c6, critO i (matR ra) num den i⟩, rfl, HF.out.symm, ⟨HO.out, by simp only; omega⟩, HBl.out⟩
end Go.Proofs.Ythmnalaeckfaaaa
