import Derived.Test.YthmnalaeckfaaaaMp27
namespace Go.Proofs.Ythmnalaeckfaaaa
open Go.RowKit
attribute [local go_sem ↓] run_max_keep
theorem stE_bd {n : Nat} {a : List (List Int)} (hb : Go.Proofs.Ythmnalaeckfaaaa.Bd 68719476736 a n) {i j : Nat} (hi : i < n) (hj : j < n) : ∀ k, k ≤ 12 → -1125899906842624 ≤ stE n a i j k ∧ stE n a i j k ≤ 824633720832
  | 0, _ => by have h := id_bd (B := 0) (by omega) n i j hi hj; unfold stE; omega
  | k + 1, h => by
    have h1 := stE_bd hb hi hj k (by omega)
    have h2 := pow_bd12 hb (k + 1) h i j hi hj
    unfold stE; omega
theorem MOwn.lt {w : World} {base : Nat} {A : Option Addr} {n c : Nat} {rows : List Row} (h : MOwn w base (.slice A n c) rows) (hr : 0 < rows.length) : base ≤ w.heap.size := by
  obtain ⟨b, c', e, _, _⟩ := h.o.form (by omega)
  injection e with e
  subst e
  have := own_block h.o b rfl
  omega
set_option maxRecDepth 100000 in
set_option maxHeartbeats 6400000 in
theorem star_any (A : Option Addr) (ca : Nat) (ra : List Row) (w : World) (ha : MRd w A ra) :
    Calls Try.prog 37 #[.slice A ra.length ca] w (MatE (starV (matR ra)) (starE (matR ra)) w) := by
  have HA := Lib.hid ha
  clear ha
  obtain ⟨i0, a1, a2, a3, a4⟩ := info_parts infoInt
  have HI := Lib.hid (And.intro a1 (And.intro a2 (And.intro a3 a4)))
  clear a1 a2 a3 a4
  obtain ⟨r0, a1, a2, a3, a4⟩ := info_parts infoRow
  have HIr := Lib.hid (And.intro a1 (And.intro a2 (And.intro a3 a4)))
  clear a1 a2 a3 a4
  cases h1 : chkM (matR ra)
  · have HE := Lib.hid (show starE (matR ra) = 1 by unfold starE; rw [if_neg (by simp [h1])])
    have HV := Lib.hid (show starV (matR ra) = [] by unfold starV; rw [HE.out]; rfl)
    go_enter Try.func37, Try.ntmps37
    go_wp2_with fail
    refine (check_any A ca ra w HA.out).mono ?_
    rintro e w1 ⟨rfl, rfl⟩
    rw [h1]
    clear h1
    go_wp2_with fail
    go_ret2
    exact MatE.err HV.out HE.out.symm (Below.refl _ _)
  have H1 := Lib.hid h1
  have HSq := Lib.hid (chk_sq h1)
  have HBd := Lib.hid (Go.Proofs.Ythmnalaeckfaaaa.chk_bd h1)
  obtain ⟨hn1, hn2⟩ := chk_n h1
  have HEq := Lib.hid (show starE (matR ra) = if posB (meanF (matR ra)) = true then 14 else if powOk ra.length (matR ra) (ra.length - 1) = true then 0 else 8 by unfold starE; rw [if_pos h1, matR_len])
  have HVq := Lib.hid (show starV (matR ra) = if starE (matR ra) = 0 then stM ra.length (matR ra) (ra.length - 1) else [] by unfold starV; rw [matR_len])
  have hck := check_any A ca ra w HA.out
  rw [h1] at hck
  have hmn := fun w' hb => mean_any A ca ra w' (HA.out.grow hb)
  obtain ⟨n, hn⟩ : ∃ n, n = ra.length := ⟨_, rfl⟩
  have HRn := Lib.hid hn.symm
  rw [← hn] at HSq HBd hn1 hn2 HEq HVq hck hmn
  rw [← hn]
  have HCk := Lib.hid hck
  have HMn := Lib.hid hmn
  clear hn h1 hck hmn
  generalize starE (matR ra) = se at *
  generalize starV (matR ra) = sv at *
  go_enter Try.func37, Try.ntmps37
  go_wp2_with fail
  refine HCk.out.mono ?_
  rintro e w1 ⟨rfl, rfl⟩
  go_wp2_with fail
  refine (HMn.out w (Below.refl _ _)).mono ?_
  rintro e w2 ⟨rfl, hb2⟩
  have HB2 := Lib.hid hb2
  clear hb2 HMn HCk
  generalize meanF (matR ra) = mf at *
  obtain ⟨num, den, okb⟩ := mf
  simp only
  by_cases hps : posB (num, den, okb) = true
  · have HE : Hid (se = 14) := by show se = 14; rw [HEq.out, if_pos hps]
    have HV : Hid (sv = []) := by show sv = []; rw [HVq.out, HE.out]; rfl
    unfold posB at hps
    simp only [Bool.and_eq_true, decide_eq_true_eq] at hps
    obtain ⟨rfl, hp0⟩ := hps
    go_wp2_with fail
    go_ret2
    exact MatE.err HV.out HE.out.symm HB2.out
  rw [if_neg hps] at HEq
  have hps2 : okb = false ∨ (okb = true ∧ ¬ 0 < num) := by
    unfold posB at hps
    cases okb
    · exact .inl rfl
    · right; simpa using hps
  clear hps
  have hnn : n - 1 < n := by omega
  rcases hps2 with rfl | ⟨rfl, hp0⟩
  all_goals
    go_wp2_with fail
    refine (identity_any n w2 ⟨hn1, hn2⟩).mono ?_
    rintro e w3 ⟨A3, c3, r3, rfl, hm3, ho3, hb3⟩
    have hl3 : r3.length = n := by rw [← matR_len, hm3, id_len]
    rw [hl3] at ho3 ⊢
    obtain ⟨G, g, cp, rfl, hst⟩ := StS.of_id (ho3.base HB2.out.size) hm3 (HB2.out.trans (hb3.mono HB2.out.size)) ⟨hn1, hn2⟩
    have HS := Lib.hid hst
    clear hm3 ho3 hb3 hl3 hst
    go_wp2_with fail
    refine (identity_any n w3 ⟨hn1, hn2⟩).mono ?_
    rintro e w4 ⟨A4, c4, r4, rfl, hm4, ho4, hb4⟩
    have hl4 : r4.length = n := by rw [← matR_len, hm4, id_len]
    rw [hl4] at ho4 ⊢
    have HS4 := Lib.hid (HS.out.grow hb4)
    have HR4 := Lib.hid ho4
    have HgB := Lib.hid (show ∀ i, i < n → g i < w3.heap.size from fun i hi => (HS.out.at hi hn1).2.2.2.1)
    have hz4 := hb4.size
    have HL4 := Lib.hid hl4
    have HM4 := Lib.hid hm4
    clear hm4 ho4 hb4 hl4 HS
    generalize w3.heap.size = Bp at *
    have hn1i : ((n : Int) - 1) = ((n - 1 : Nat) : Int) := by omega
    go_wp2_with fail
    go_loopg [8, 9, 10, 11, 12, 36] (n - 1) (fun u v8 _ _ _ _ v wr => ST1 w Bp G c3 n g cp (matR ra) u v8 v wr)
    case atStart => exact ⟨0, A4, c4, r4, rfl, by omega, rfl, HL4.out, HM4.out, rfl, HR4.out, hz4, HS4.out⟩
    case round =>
      clear HS4 HR4 HM4 HL4
      obtain ⟨k, A8, c8, rows, rfl, hk, rfl, hr, hmt, hok, hmo, hbp, hst⟩ := hrel
      have Hk := Lib.hid hk
      have HR := Lib.hid hr
      have HMt := Lib.hid hmt
      have HOk := Lib.hid hok
      have HMo := Lib.hid hmo
      have HS := Lib.hid hst
      clear hk hr hmt hok hmo hst
      by_cases hlt : k + 1 < n
      · have HBp := Lib.hid (pow_bd12 HBd.out k (by omega))
        have hlt1 : decide ((k : Int) < (n : Int) - 1) = true := by simp; omega
        have hlt2 : (k : Int) < (n : Int) - 1 := by omega
        go_wp2_with fail
        refine (product_any _ A n c8 ca rows ra wr HMo.out.rd (HA.out.grow HS.out.bel) ⟨hn1, hn2⟩ (by rw [HMt.out]; exact pow_sq _ _ _) HSq.out (by rw [HMt.out]; exact HBp.out.mono (by omega)) (HBd.out.mono (by omega))).mono ?_
        rintro e w6 ⟨A6, c6, rows6, rfl, hm6, ho6, hb6⟩
        have HR6 := Lib.hid (show rows6.length = n by rw [← matR_len, hm6, prod_len])
        have HM6 := Lib.hid (show matR rows6 = powM n (matR ra) (k + 1) by rw [hm6, HMt.out]; rfl)
        have HO6 := Lib.hid (show MOwn w6 Bp (.slice A6 n c6) rows6 by have h := ho6.base hbp; rwa [HR6.out] at h)
        have hbp6 := Nat.le_trans hbp hb6.size
        have HS6 := Lib.hid (HS.out.grow hb6)
        have hcc := check_any A6 c6 rows6 w6 HO6.out.rd
        rw [HR6.out] at hcc ⊢
        clear hm6 ho6 hb6 HMo HS
        go_wp2_with fail
        refine hcc.mono ?_
        rintro e w7 ⟨rfl, rfl⟩
        clear hcc
        rw [HM6.out]
        cases h2 : chkM (powM n (matR ra) (k + 1))
        · have hno := powOk_no h2 (k := n - 1) (by omega)
          have HE : Hid (se = 8) := by show se = 8; rw [HEq.out, if_neg (by simp [hno])]
          have HV : Hid (sv = []) := by show sv = []; rw [HVq.out, HE.out]; rfl
          clear h2 hno
          go_wp2_with fail
          go_ret2
          exact MatE.err HV.out HE.out.symm HS6.out.bel
        have HOk6 := Lib.hid (powOk_succ HOk.out h2)
        clear h2
        go_wp2_with fail
        go_loopg [9, 10, 11, 12, 46] n (fun u _ _ _ _ v wx => ST2 w Bp G c3 n k c6 g cp (matR ra) A6 rows6 u v wx)
        case atStart => exact ⟨0, rfl, by omega, HO6.out, HS6.out.congr fun i j hi hj => by unfold midF; rw [if_neg (by omega)]⟩
        case round =>
          clear HO6 HS6
          obtain ⟨i, rfl, hi, hmo, hst⟩ := hrel
          have Hi := Lib.hid hi
          have HMo := Lib.hid hmo
          have HS := Lib.hid hst
          clear hi hmo hst
          by_cases hil : i < n
          · have hi6 : i < rows6.length := by rw [HR6.out]; exact hil
            have hz6 : rows6[i].zs.length = n := (show Sq n (matR rows6) by rw [HM6.out]; exact pow_sq _ _ _).2 _ (List.mem_map.2 ⟨rows6[i], List.getElem_mem hi6, rfl⟩)
            have HGa := Lib.hid (fun j (hj : j < n) => by
              have := gm_row hi6 (k := j) (by rw [hz6]; exact hj)
              rw [HM6.out] at this
              exact this.symm : ∀ j (hj : j < n), rows6[i].zs[j]'(by rw [hz6]; exact hj) = gm (powM n (matR ra) (k + 1)) i j)
            have HZ6 := Lib.hid hz6
            obtain ⟨bx, ox, ex, hbx, p0⟩ := rd1 HMo.out.rd.r i hi6
            subst ex
            unfold Row.val at p0
            rw [hz6] at p0
            have HCr := Lib.hid (fun wy (hm : MOwn wy Bp (.slice (some ⟨bx, ox, none⟩) n c6) rows6) => (hm.rd.c rows6[i] (List.getElem_mem hi6)).r)
            generalize rows6[i].c = cu at *
            generalize rows6[i].zs = zu at *
            generalize rows6[i].A = Au at *
            clear hi6
            go_wp2_with fail
            clear p0
            go_loopg [11, 12, 53] n (fun u _ _ v wx => ST3 w Bp G c3 n k i c6 g cp (matR ra) (some ⟨bx, ox, none⟩) rows6 u v wx)
            case atStart => exact ⟨0, rfl, by omega, HMo.out, HS.out⟩
            case round =>
              clear HMo HS
              obtain ⟨j, rfl, hj, hmo, hst⟩ := hrel
              have Hj := Lib.hid hj
              have HMo := Lib.hid hmo
              have HS := Lib.hid hst
              clear hj hmo hst
              by_cases hjl : j < n
              · obtain ⟨bu, ou, rfl, hbu, p1⟩ := rd1 (HCr.out wr HMo.out) j (by rw [HZ6.out]; exact hjl)
                rw [HGa.out j hjl] at p1
                obtain ⟨q0, q1, q2, hgi, hGs, hgw⟩ := HS.out.at hil hjl
                rw [midF_at] at q1
                have hbs := stE_bd HBd.out hil hjl k (by omega)
                have hbe := pow_bd12 HBd.out (k + 1) (by omega) i j hil hjl
                have HV9 := Lib.hid (show (fun i j => stE n (matR ra) i j (k + 1)) i j = max (stE n (matR ra) i j k) (gm (powM n (matR ra) (k + 1)) i j) from rfl)
                generalize stE n (matR ra) i j k = es at *
                generalize gm (powM n (matR ra) (k + 1)) i j = ep at *
                go_upto_region 19 with fail
                refine wp_region_overT 14 (by kernel_rfl) (by kernel_rfl) ?_
                simp only [List.take_succ_cons, List.take_zero, List.drop_succ_cons, List.drop_zero]
                repeat (go_big_quiet_step ((fail)))
                refine wpQuiet_nil ?_
                intro w9 hb9
                have HS9 := Lib.hid (HS.out.grow hb9)
                have HM9 := Lib.hid (HMo.out.grow hb9)
                clear hb9 HS HMo q0 q1 q2 hgi hGs p1
                obtain ⟨q0, q1, q2, hgi, hGs, _⟩ := HS9.out.at hil hjl
                have hs := HS9.out.set hil hjl (max es ep)
                rw [midF_set (f := fun i j => stE n (matR ra) i j k) (f' := fun i j => stE n (matR ra) i j (k + 1)) (i := i) (j := j) HV9.out] at hs
                have HS10 := Lib.hid hs
                have HM10 := Lib.hid (HM9.out.far (p := ⟨g i, j, none⟩) (u := .int .i64 (max es ep)) (fun e => by have h1 := (own_block HM9.out.o _ e).1; have h2 := HgB.out i hil; simp only at h1; omega) (fun x hx e => by have h1 := (own_block (HM9.out.c x hx).1 _ e).1; have h2 := HgB.out i hil; simp only at h1; omega))
                clear hs
                go_wp2_with fail
                go_roundg (n - j - 1)
                case measure => have := Hj.out; omega
                case rel => exact ⟨j + 1, by first | rfl | go_num, by omega, HM10.out, HS10.out⟩
              · obtain rfl : j = n := by have := Hj.out; omega
                go_wp2_with fail
                go_roundg (j - i - 1)
                case measure => have := Hi.out; omega
                case rel => exact ⟨i + 1, by first | rfl | go_num, by omega, HMo.out, HS.out.congr fun i' j' hi' hj' => by
                  unfold midF
                  by_cases e : i' < i ∨ (i' = i ∧ j' < j)
                  · rw [if_pos e, if_pos (by omega)]
                  · rw [if_neg e, if_neg (by omega)]⟩
          · obtain rfl : i = n := by have := Hi.out; omega
            go_wp2_with fail
            go_roundg (i - 1 - k - 1)
            case measure => have := Hk.out; omega
            case rel => exact ⟨k + 1, A6, c6, rows6, by first | rfl | go_num, by omega, rfl, HR6.out, HM6.out, HOk6.out, HMo.out, HMo.out.lt (by rw [HR6.out]; omega), HS.out.congr fun i' j' hi' hj' => by unfold midF; rw [if_pos (.inl hi')]⟩
      · obtain rfl : k = n - 1 := by have := Hk.out; omega
        have HE : Hid (se = 0) := by show se = 0; rw [HEq.out, if_pos HOk.out]
        have HV : Hid (sv = stM n (matR ra) (n - 1)) := by show _ = _; rw [HVq.out, HE.out]; rfl
        have HOw := Lib.hid (HS.out.own hn2)
        have hcast : ((n - 1 : Nat) : Int) = (n : Int) - 1 := by omega
        rw [hcast]
        clear hcast
        go_wp2_with fail
        go_ret2
        exact ⟨some ⟨G, 0, none⟩, c3, stRows n g cp (fun i j => stE n (matR ra) i j (n - 1)), by rw [stRows_len, HE.out]; rfl, by rw [stRows_mat, HV.out]; rfl, by rw [stRows_len]; exact HOw.out, HS.out.bel⟩
end Go.Proofs.Ythmnalaeckfaaaa
