import Derived.Test.YthmnalaeckfaaaaMx3
import Derived.Test.YthmnalaeckfaaaaMp29
import Derived.Test.YthmnalaeckfaaaaMpSt
namespace Go.Proofs.Ythmnalaeckfaaaa
open Go.RowKit
attribute [local go_sem ↓] run_max_keep
theorem MxI.at {n : Nat} {A : Option Addr} {c : Nat} {rows : List Row} {p : List (List Int)} {w : World} (h : MxI n A c rows p w) (hs : Sq n p) {i : Nat} (hi : i < n) : ∃ b o b' o' c', A = some ⟨b, o, none⟩ ∧ b < w.heap.size ∧ w.cell? ⟨b, o + i, none⟩ = some (.slice (some ⟨b', o', none⟩) n c') ∧ b' < w.heap.size ∧ ∀ j, j < n → w.cell? ⟨b', o' + j, none⟩ = some (.int .i64 (gm p i j)) := by
  obtain ⟨rfl, rfl, hr⟩ := h
  have hz := hs.2 rows[i].zs (List.mem_map.2 ⟨rows[i], List.getElem_mem hi, rfl⟩)
  obtain ⟨b, o, rfl, hb, p0⟩ := rd1 hr.r i hi
  obtain ⟨b', o', e', hb', _⟩ := rd1 (hr.c rows[i] (List.getElem_mem hi)).r 0 (by rw [hz]; omega)
  unfold Row.val at p0
  rw [e', hz] at p0
  refine ⟨b, o, b', o', _, rfl, hb, p0, hb', fun j hj => ?_⟩
  obtain ⟨b2, o2, e2, _, h2⟩ := rd1 (hr.c rows[i] (List.getElem_mem hi)).r j (by rw [hz]; exact hj)
  rw [e'] at e2
  injection e2 with e2
  injection e2 with e3 e4
  subst e3 e4
  rw [h2, gm_row hi (by rw [hz]; exact hj)]
def SL1 (w9 : World) (n : Nat) (k : Nat) (v : Value) (wr : World) : Prop := ∃ i : Nat, v = .int .i64 i ∧ i + k = n ∧ wr = w9
set_option maxRecDepth 100000 in
set_option maxHeartbeats 6400000 in
theorem starlaw_true (a0 : Int) (A1 : Option Addr) (n1 c1 : Nat) (z1 : List Int) (w : World) (_w0 : (Lit.int .i64 a0).wf = true) (h1 : Rd w w.heap.size 1 A1 n1 (z1.map (Value.int .i64))) (m1 : n1 ≤ c1 ∧ c1 ≤ maxLen ∧ c1 * 8 ≤ 140737488351232) :
    Calls Try.prog 10 #[.int .i64 a0, .slice A1 n1 c1] w fun e w' => e = .returned (.bool true) ∧ Below w.heap.size w w' := by
  have I1 := Lib.hid h1
  have Hm1 := Lib.hid (show n1 ≤ maxLen by omega)
  clear h1 m1
  go_enter Try.func10, Try.ntmps10
  go_wp2_with fail
  refine (pick_any a0 4 w (by omega) (by omega)).mono ?_
  rintro e w1 ⟨rfl, rfl⟩
  have hp := pick_bd a0 4 (by omega) (by omega)
  obtain ⟨n, hn⟩ := Int.eq_ofNat_of_zero_le (show 0 ≤ 1 + pick a0 4 by omega)
  have hnb : 1 ≤ n ∧ n ≤ 4 := by omega
  obtain ⟨hn1, hn2⟩ := hnb
  generalize pick a0 4 = p0 at *
  obtain rfl : p0 = (n : Int) - 1 := by omega
  have hn3 : (1 + ((n : Int) - 1)) = n := by omega
  clear hp hn
  go_wp2_with fail
  try rw [hn3]
  clear hn3
  refine (matrix_any n A1 n1 c1 z1 w ⟨hn1, by omega⟩ I1.out Hm1.out).mono ?_
  rintro e w2 ⟨A, ca, ra, rfl, hl, hsm, ho, hb2⟩
  have HSq := Lib.hid (sm_sq hsm hl)
  have HBd := Lib.hid (sm_bd hsm hl)
  have HCk := Lib.hid (sm_chk hsm hl ⟨hn1, by omega⟩)
  have HA := Lib.hid ho.rdn
  have HB := Lib.hid hb2
  have HL := Lib.hid hl
  have HMf := Lib.hid (show meanF (matR ra) = meanG (grAll n (matR ra) n) by unfold meanF; rw [if_pos HCk.out, matR_len, hl])
  have HEq := Lib.hid (show starE (matR ra) = if posB (meanF (matR ra)) = true then 14 else 0 by
    unfold starE
    rw [if_pos HCk.out, matR_len, hl, if_pos (pow_ok (B := 29) (by omega) ⟨hn1, by omega⟩ HBd.out (n - 1) (by omega))])
  have HVq := Lib.hid (show starV (matR ra) = if starE (matR ra) = 0 then stM n (matR ra) (n - 1) else [] by unfold starV; rw [matR_len, hl])
  clear hl hsm ho hb2
  have hsc := fun w' hb => star_any A ca ra w' (HA.out.grow hb)
  have hrc := fun w' hb => rmean_any A ca ra w' (HA.out.grow hb)
  rw [HL.out] at hsc hrc
  have HSc := Lib.hid hsc
  have HRc := Lib.hid hrc
  clear hsc hrc
  go_wp2_with fail
  refine (HSc.out w2 (Below.refl _ _)).mono ?_
  rintro e w3 ⟨A3, c3, r3, rfl, hm3, ho3, hb3⟩
  have HM3 := Lib.hid hm3
  have HO3 := Lib.hid ho3
  have HB3 := Lib.hid hb3
  clear hm3 ho3 hb3
  generalize starE (matR ra) = se at *
  generalize starV (matR ra) = sv at *
  go_wp2_with fail
  refine (HRc.out w3 HB3.out).mono ?_
  rintro e w4 ⟨rfl, hb4⟩
  have HO4 := Lib.hid (HO3.out.grow hb4)
  have HA4 := Lib.hid (HA.out.grow (HB3.out.trans (hb4.mono HB3.out.size)))
  have HB4 := Lib.hid (HB.out.trans ((HB3.out.trans (hb4.mono HB3.out.size)).mono HB.out.size))
  have HB3s := Lib.hid (HB.out.size)
  clear hb4 HSc HRc HO3 HA HB HB3
  generalize hmf : meanF (matR ra) = mf at *
  have Hmf := Lib.hid hmf
  clear hmf
  obtain ⟨num, den, okb⟩ := mf
  simp only
  by_cases hps : posB (num, den, okb) = true
  · have HE : Hid (se = 14) := by show se = 14; rw [HEq.out, if_pos hps]
    unfold posB at hps
    simp only [Bool.and_eq_true, decide_eq_true_eq] at hps
    obtain ⟨rfl, hp0⟩ := hps
    rw [HE.out]
    go_wp2_with fail
    refine (awake_any w4).mono ?_
    rintro e w5 ⟨rfl, hb5⟩
    have HB5 := Lib.hid (HB4.out.trans (hb5.mono HB4.out.size))
    clear hb5
    go_wp2_with fail
    go_ret
    exact ⟨rfl, HB5.out⟩
  have HE : Hid (se = 0) := by show se = 0; rw [HEq.out, if_neg hps]
  have HV : Hid (sv = stM n (matR ra) (n - 1)) := by show _ = _; rw [HVq.out, HE.out]; rfl
  have HW := Lib.hid (show ∀ k i, 1 ≤ k → k ≤ n → i < n → Wk n (matR ra) k i ≠ -1125899906842624 → Wk n (matR ra) k i ≤ 0 from fun k i h1 h2 h3 h4 => by
    have := mean_le (T := 0) (fun h0 => by
      have e1 : (meanG (grAll n (matR ra) n)) = (num, den, okb) := by rw [← HMf.out]
      have hI := grAll_inv n (matR ra) n
      obtain ⟨_, _, _, _, _, ht, _⟩ := meanG_low hI.d h0
      rw [e1] at ht ⊢
      simp only at ht ⊢
      subst ht
      have : ¬ 0 < num := fun h => hps (by unfold posB; simp [h])
      omega) h1 h2 h3 h4
    omega)
  have hps2 : okb = false ∨ (okb = true ∧ ¬ 0 < num) := by
    unfold posB at hps
    cases okb
    · exact .inl rfl
    · right; simpa using hps
  have HSt := Lib.hid (fun i j (hi : i < n) (hj : j < n) => star_law (B := 29) (by omega) hn1 HBd.out (by omega) HW.out hi hj)
  have hl3 : r3.length = n := by rw [← matR_len, HM3.out, HV.out]; exact (sq_of_tab n _).1
  have HS3 := Lib.hid (show MxI n A3 c3 r3 (stM n (matR ra) (n - 1)) w4 from ⟨hl3, by rw [HM3.out, HV.out], HO4.out.rd⟩)
  have HA4' := Lib.hid (show MxI n A ca ra (matR ra) w4 from ⟨HL.out, rfl, HA4.out⟩)
  have HSB := Lib.hid (show Go.Proofs.Ythmnalaeckfaaaa.Bd (29 * ((n - 1 : Nat) : Int)) (stM n (matR ra) (n - 1)) n from fun i j hi hj => by
    rw [show gm (stM n (matR ra) (n - 1)) i j = stE n (matR ra) i j (n - 1) from gm_tab hi hj]
    rcases st_ent (B := 29) (by omega) HBd.out hi hj (n - 1) with ⟨h, _⟩ | h
    · exact h
    · omega)
  clear hps HM3 HO4 HA4 Hmf HMf HEq HVq HV
  rw [HE.out, hl3]
  clear hl3
  have hmm : 29 * ((n - 1 : Nat) : Int) ≤ 116 := by omega
  have hmm0 : 0 ≤ 29 * ((n - 1 : Nat) : Int) := by omega
  have HSB := Lib.hid (HSB.out.mono hmm)
  clear hmm hmm0
  have hok : okb = false ∨ (okb = true ∧ decide (0 < num) = false) := by
    rcases hps2 with h | ⟨h, h2⟩
    · exact .inl h
    · right; exact ⟨h, by simpa using h2⟩
  clear hps2
  have hnn : ((n : Int) != (n : Int)) = false := by simp
  have hnn2 : (n != n) = false := by simp
  rcases hok with rfl | ⟨rfl, hp0⟩
  all_goals
    go_wp2_with fail
    refine (mul_law w4 HS3.out HA4'.out ⟨hn1, by omega⟩ (sq_of_tab n _) HSq.out HSB.out HBd.out (by omega) (by omega)).mono ?_
    rintro e w5 ⟨A5, c5, r5, rfl, h5, hb5⟩
    have H5 := Lib.hid h5
    have HS5 := Lib.hid (HS3.out.grow hb5)
    have HB5 := Lib.hid (HB4.out.trans (hb5.mono HB4.out.size))
    have Hq1 := Lib.hid (show Sq n (stM n (matR ra) (n - 1)) from sq_of_tab n _)
    have Hq2 := Lib.hid (show Sq n (prodM n (stM n (matR ra) (n - 1)) (matR ra)) from prod_sq n _ _)
    clear h5 hb5 HS3 HA4' HB4
    generalize stM n (matR ra) (n - 1) = S at *
    generalize prodM n S (matR ra) = Pr at *
    go_wp2_with fail
    go_loopg [13, 14, 15, 68] n (fun k _ _ _ v wr => SL1 w5 n k v wr)
    case atStart => exact ⟨0, rfl, by omega, rfl⟩
    case round =>
      obtain ⟨i, rfl, hi, rfl⟩ := hrel
      have Hi := Lib.hid hi
      clear hi
      by_cases hil : i < n
      · obtain ⟨b3, o3, b3', o3', c3', rfl, hb3, p0, hb3', p1⟩ := HS5.out.at Hq1.out hil
        obtain ⟨b5, o5, b5', o5', c5', rfl, hb5, q0, hb5', q1⟩ := H5.out.at Hq2.out hil
        have P1 := Lib.hid p1
        have Q1 := Lib.hid q1
        clear p1 q1
        have HLi := Lib.hid (fun j (hj : j < n) => HSt.out i j hil hj)
        go_wp2_with fail
        obtain ⟨wz, hwz⟩ : ∃ wz, wz = wr := ⟨_, rfl⟩
        subst hwz
        go_loopg [14, 15, 91] n (fun k _ _ v wx => SL1 wz n k v wx)
        case atStart => exact ⟨0, rfl, by omega, rfl⟩
        case round =>
          obtain ⟨j, rfl, hj, rfl⟩ := hrel
          have Hj := Lib.hid hj
          clear hj
          by_cases hjl : j < n
          · have p2 := P1.out j hjl
            have q2 := Q1.out j hjl
            have hlw := HLi.out j hjl
            generalize gm S i j = s0 at *
            generalize gm Pr i j = t0 at *
            by_cases hij : i = j
            · subst hij
              rw [if_pos rfl] at hlw
              subst hlw
              have hij' : ((i : Int) == (i : Int)) = true := by simp
              have hij2 : (i == i) = true := by simp
              have hne : (max t0 0 != max t0 0) = false := by simp
              go_wp2_with fail
              go_roundg (n - i - 1)
              case measure => have := Hj.out; omega
              case rel => exact ⟨i + 1, by first | rfl | go_num, by omega, rfl⟩
            · rw [if_neg hij] at hlw
              subst hlw
              have hij' : ((i : Int) == (j : Int)) = false := by simp; omega
              have hij2 : (i == j) = false := by simp; omega
              have hne : (s0 != s0) = false := by simp
              go_wp2_with fail
              go_roundg (n - j - 1)
              case measure => have := Hj.out; omega
              case rel => exact ⟨j + 1, by first | rfl | go_num, by omega, rfl⟩
          · obtain rfl : j = n := by have := Hj.out; omega
            go_wp2_with fail
            go_roundg (j - i - 1)
            case measure => have := Hi.out; omega
            case rel => exact ⟨i + 1, by first | rfl | go_num, by omega, rfl⟩
      · obtain rfl : i = n := by have := Hi.out; omega
        go_wp2_with fail
        refine (awake_any _).mono ?_
        rintro e w6 ⟨rfl, hb6⟩
        have HB6 := Lib.hid (HB5.out.trans (hb6.mono HB5.out.size))
        clear hb6
        go_wp2_with fail
        go_ret
        exact ⟨rfl, HB6.out⟩
end Go.Proofs.Ythmnalaeckfaaaa
