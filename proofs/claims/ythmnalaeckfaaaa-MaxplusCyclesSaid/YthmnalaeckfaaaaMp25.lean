import Derived.Test.YthmnalaeckfaaaaMpLaw2
namespace Go.Proofs.Ythmnalaeckfaaaa
open Go.RowKit
attribute [local go_sem ↓] run_max_keep
/-- the step of the mean, without the nodes -/
theorem grStep_nd {n k i : Nat} {wt : Int} {s : Gr} : (grStep n k i wt s).num = (if wt ≠ -1125899906842624 ∧ (s.den = 0 ∨ s.num * k < wt * s.den) then wt else s.num) ∧ (grStep n k i wt s).den = (if wt ≠ -1125899906842624 ∧ (s.den = 0 ∨ s.num * k < wt * s.den) then (k : Int) else s.den) := by
  unfold grStep
  by_cases h1 : wt = -1125899906842624
  · rw [if_pos h1, if_neg (fun h => h.1 h1), if_neg (fun h => h.1 h1)]; exact ⟨rfl, rfl⟩
  · rw [if_neg h1]
    have hm : ∀ s : Gr, (grMk k i wt s).num = s.num ∧ (grMk k i wt s).den = s.den := fun s => by unfold grMk; split <;> exact ⟨rfl, rfl⟩
    rw [(hm _).1, (hm _).2]
    unfold grUp
    by_cases h2 : s.den = 0 ∨ s.num * k < wt * s.den
    · rw [if_pos h2, if_pos ⟨h1, h2⟩, if_pos ⟨h1, h2⟩]; exact ⟨rfl, rfl⟩
    · rw [if_neg h2, if_neg (fun h => h2 h.2), if_neg (fun h => h2 h.2)]; exact ⟨rfl, rfl⟩
def RM1 (w : World) (n : Nat) (a : List (List Int)) (g : Nat) (v5 v6 v7 v : Value) (wr : World) : Prop :=
  ∃ (k : Nat) (A : Option Addr) (c : Nat) (rows : List Row), v = .int .i64 ((k : Int) + 1) ∧ k + g = n ∧ v5 = .int .i64 (grAll n a k).num ∧ v6 = .int .i64 (grAll n a k).den ∧ v7 = .slice A n c ∧ rows.length = n ∧ matR rows = powM n a (k + 1) ∧ MRd wr A rows ∧ Below w.heap.size w wr
def RM2 (w : World) (n k : Nat) (a : List (List Int)) (A : Option Addr) (rows : List Row) (g : Nat) (v5 v6 v : Value) (wr : World) : Prop :=
  ∃ i : Nat, v = .int .i64 i ∧ i + g = n ∧ v5 = .int .i64 (grRow n (k + 1) (powM n a (k + 1)) (grAll n a k) i).num ∧ v6 = .int .i64 (grRow n (k + 1) (powM n a (k + 1)) (grAll n a k) i).den ∧ MRd wr A rows ∧ Below w.heap.size w wr
theorem pow_one {n : Nat} {a : List (List Int)} (hs : Sq n a) (hb : Go.Proofs.Ythmnalaeckfaaaa.Bd 68719476736 a n) : powM n a 1 = a := prod_idl hs hb (by omega)
set_option maxRecDepth 100000 in
set_option maxHeartbeats 6400000 in
theorem rmean_any (A : Option Addr) (ca : Nat) (ra : List Row) (w : World) (ha : MRd w A ra) :
    Calls Try.prog 20 #[.slice A ra.length ca] w (MeanOut (meanF (matR ra)) w) := by
  have HA := Lib.hid ha
  clear ha
  cases h1 : chkM (matR ra)
  · have HF := Lib.hid (show meanF (matR ra) = (0, 0, false) by unfold meanF; rw [if_neg (by simp [h1])])
    go_enter Try.func20, Try.ntmps20
    go_wp2_with fail
    refine (rcheck_any A ca ra w HA.out).mono ?_
    rintro e w1 ⟨rfl, rfl⟩
    rw [h1]
    clear h1
    go_wp2_with fail
    go_ret3
    exact ⟨by rw [HF.out]; rfl, Below.refl _ _⟩
  have H1 := Lib.hid h1
  have HF := Lib.hid (show meanF (matR ra) = meanG (grAll ra.length (matR ra) ra.length) by unfold meanF; rw [if_pos h1, matR_len])
  have HSq := Lib.hid (chk_sq h1)
  have HBd := Lib.hid (Go.Proofs.Ythmnalaeckfaaaa.chk_bd h1)
  obtain ⟨hn1, hn2⟩ := chk_n h1
  have HP1 := Lib.hid (pow_one HSq.out HBd.out)
  obtain ⟨n, hn⟩ : ∃ n, n = ra.length := ⟨_, rfl⟩
  have HRn := Lib.hid hn.symm
  rw [← hn] at HF HSq HBd hn1 hn2 HP1
  rw [← hn]
  clear hn h1
  go_enter Try.func20, Try.ntmps20
  go_wp2_with fail
  have hck := rcheck_any A ca ra w HA.out
  rw [HRn.out, H1.out] at hck
  refine hck.mono ?_
  rintro e w1 ⟨rfl, rfl⟩
  clear hck
  go_wp2_with fail
  go_loopg [5, 6, 7, 8, 9, 10] n (fun g v5 v6 v7 v _ _ wr => RM1 w n (matR ra) g v5 v6 v7 v wr)
  case atStart => exact ⟨0, A, ca, ra, rfl, by omega, rfl, rfl, rfl, HRn.out, HP1.out.symm, HA.out, Below.refl _ _⟩
  case round =>
    obtain ⟨k, A7, c7, rows, rfl, hk, rfl, rfl, rfl, hr, hmt, hmo, hbl⟩ := hrel
    have Hk := Lib.hid hk
    have HR := Lib.hid hr
    have HMt := Lib.hid hmt
    have HMo := Lib.hid hmo
    have HBl := Lib.hid hbl
    have hws := hbl.size
    clear hk hr hmt hmo hbl
    by_cases hlt : k < n
    · have hle : (k : Int) + 1 ≤ (n : Int) := by omega
      have HOk := Lib.hid (grAll_ok HBd.out k (by omega))
      have HBq := Lib.hid (pow_bd12 HBd.out (k + 1) (by omega))
      have Hst := Lib.hid (show grRow n (k + 1) (powM n (matR ra) (k + 1)) (grAll n (matR ra) k) 0 = grAll n (matR ra) k from rfl)
      go_wp2_with fail
      go_loopg [5, 6, 9, 10, 25] n (fun g v5 v6 _ _ v wx => RM2 w n k (matR ra) A7 rows g v5 v6 v wx)
      case atStart => exact ⟨0, rfl, by omega, by rw [Hst.out], by rw [Hst.out], HMo.out, HBl.out⟩
      case round =>
        clear HMo HBl
        obtain ⟨i, rfl, hi, rfl, rfl, hmo, hbl⟩ := hrel
        have Hi := Lib.hid hi
        have HMo := Lib.hid hmo
        have HBl := Lib.hid hbl
        clear hi hmo hbl
        by_cases hil : i < n
        · have hi6 : i < rows.length := by rw [HR.out]; exact hil
          have hz6 : rows[i].zs.length = n := (show Sq n (matR rows) by rw [HMt.out]; exact pow_sq _ _ _).2 _ (List.mem_map.2 ⟨rows[i], List.getElem_mem hi6, rfl⟩)
          have ga := gm_row hi6 (k := i) (by rw [hz6]; exact hil)
          rw [HMt.out] at ga
          obtain ⟨bx, ox, ex, hbx, p0⟩ := rd1 HMo.out.r i hi6
          obtain ⟨bu, ou, eu, hbu, p1⟩ := rd1 (HMo.out.c rows[i] (List.getElem_mem hi6)).r i (by rw [hz6]; exact hil)
          subst ex
          rw [← ga] at p1
          unfold Row.val at p0
          rw [eu, hz6] at p0
          have hwt := HBq.out i i hil hil
          have hok := grRow_ok HOk.out (by omega : k + 1 ≤ 12) HBq.out i (by omega)
          have HSt := Lib.hid (show grRow n (k + 1) (powM n (matR ra) (k + 1)) (grAll n (matR ra) k) (i + 1) = grStep n (k + 1) i (gm (powM n (matR ra) (k + 1)) i i) (grRow n (k + 1) (powM n (matR ra) (k + 1)) (grAll n (matR ra) k) i) from rfl)
          have HNd := Lib.hid (grStep_nd (n := n) (k := k + 1) (i := i) (wt := gm (powM n (matR ra) (k + 1)) i i) (s := grRow n (k + 1) (powM n (matR ra) (k + 1)) (grAll n (matR ra) k) i))
          rw [← HSt.out] at HNd
          generalize rows[i].c = cu at *
          clear ga eu hz6 hi6
          obtain ⟨s', hs'⟩ : ∃ s', s' = grRow n (k + 1) (powM n (matR ra) (k + 1)) (grAll n (matR ra) k) (i + 1) := ⟨_, rfl⟩
          have Hs := Lib.hid hs'
          rw [← hs'] at HSt HNd
          clear hs' HSt
          generalize gm (powM n (matR ra) (k + 1)) i i = wt at *
          generalize grRow n (k + 1) (powM n (matR ra) (k + 1)) (grAll n (matR ra) k) i = s at *
          obtain ⟨num, den, nodes⟩ := s
          obtain ⟨hn0, hn1', hd0, hd1, _⟩ := hok
          simp only at hn0 hn1' hd0 hd1 HNd
          by_cases hw : wt = -1125899906842624
          · subst hw
            have HS2 := Lib.hid (show s'.num = num ∧ s'.den = den by have h := HNd.out; simpa using h)
            go_wp2_with fail
            go_roundg (n - i - 1)
            case measure => have := Hi.out; omega
            case rel => exact ⟨i + 1, by first | rfl | go_num, by omega, by rw [← Hs.out, HS2.out.1], by rw [← Hs.out, HS2.out.2], HMo.out, HBl.out⟩
          · have hw' : (wt != -1125899906842624) = true := by simpa using hw
            have hw2 : (wt == -1125899906842624) = false := by simpa using hw
            have hwb := hwt.resolve_left hw
            have hk12 : (0 : Int) ≤ (k : Int) + 1 ∧ (k : Int) + 1 ≤ 12 := by omega
            obtain ⟨hq1a, hq1b⟩ := mulb wt den hwb ⟨hd0, hd1⟩
            obtain ⟨hq2a, hq2b⟩ := mulb num ((k : Int) + 1) ⟨hn0, hn1'⟩ hk12
            have ek : ((k + 1 : Nat) : Int) = (k : Int) + 1 := by omega
            rw [ek] at HNd
            clear hwt ek
            by_cases hd : den = 0
            · subst hd
              have HS2 := Lib.hid (show s'.num = wt ∧ s'.den = (k : Int) + 1 by
                have h := HNd.out
                rw [if_pos ⟨hw, .inl rfl⟩, if_pos ⟨hw, .inl rfl⟩] at h
                exact h)
              go_wp2_with fail
              go_roundg (n - i - 1)
              case measure => have := Hi.out; omega
              case rel => exact ⟨i + 1, by first | rfl | go_num, by omega, by rw [← Hs.out, HS2.out.1], by rw [← Hs.out, HS2.out.2], HMo.out, HBl.out⟩
            · have hd' : (den == 0) = false := by simpa using hd
              by_cases hgt : num * ((k : Int) + 1) < wt * den
              · have hgt' : decide (num * ((k : Int) + 1) < wt * den) = true := by simpa using hgt
                have HS2 := Lib.hid (show s'.num = wt ∧ s'.den = (k : Int) + 1 by
                  have h := HNd.out
                  rw [if_pos ⟨hw, .inr hgt⟩, if_pos ⟨hw, .inr hgt⟩] at h
                  exact h)
                go_wp2_with fail
                go_roundg (n - i - 1)
                case measure => have := Hi.out; omega
                case rel => exact ⟨i + 1, by first | rfl | go_num, by omega, by rw [← Hs.out, HS2.out.1], by rw [← Hs.out, HS2.out.2], HMo.out, HBl.out⟩
              · have hgt' : decide (num * ((k : Int) + 1) < wt * den) = false := by simpa using hgt
                have HS2 := Lib.hid (show s'.num = num ∧ s'.den = den by
                  have h := HNd.out
                  rw [if_neg (fun h => h.2.elim hd hgt), if_neg (fun h => h.2.elim hd hgt)] at h
                  exact h)
                go_wp2_with fail
                go_roundg (n - i - 1)
                case measure => have := Hi.out; omega
                case rel => exact ⟨i + 1, by first | rfl | go_num, by omega, by rw [← Hs.out, HS2.out.1], by rw [← Hs.out, HS2.out.2], HMo.out, HBl.out⟩
        · obtain rfl : i = n := by have := Hi.out; omega
          have Hall := Lib.hid (show grRow i (k + 1) (powM i (matR ra) (k + 1)) (grAll i (matR ra) k) i = grAll i (matR ra) (k + 1) from rfl)
          rw [Hall.out]
          go_wp2_with fail
          refine (raw_any A7 A i c7 ca rows ra _ HMo.out (HA.out.grow HBl.out) ⟨hn1, hn2⟩ (by rw [HMt.out]; exact pow_sq _ _ _) HSq.out (by rw [HMt.out]; exact HBq.out.mono (by omega)) (HBd.out.mono (by omega))).mono ?_
          rintro e w6 ⟨A6, c6, rows6, rfl, hm6, ho6, hb6⟩
          have HR6 := Lib.hid (show rows6.length = i by rw [← matR_len, hm6, prod_len])
          have HM6 := Lib.hid (show matR rows6 = powM i (matR ra) (k + 1 + 1) by rw [hm6, HMt.out]; rfl)
          have HO6 := Lib.hid ho6.rd
          have HB6 := Lib.hid (HBl.out.trans (hb6.mono HBl.out.size))
          rw [HR6.out]
          clear hm6 ho6 hb6 HMo HBl
          go_wp2_with fail
          go_roundg (i - k - 1)
          case measure => have := Hk.out; omega
          case rel => exact ⟨k + 1, A6, c6, rows6, by first | rfl | go_num, by omega, rfl, rfl, rfl, HR6.out, HM6.out, HO6.out, HB6.out⟩
    · obtain rfl : k = n := by have := Hk.out; omega
      have hle : ¬ (k : Int) + 1 ≤ (k : Int) := by omega
      have HOk := Lib.hid (grAll_ok HBd.out k (by omega))
      generalize grAll k (matR ra) k = s at *
      obtain ⟨num, den, nodes⟩ := s
      obtain ⟨hn0, hn1', hd0, hd1, _⟩ := HOk.out
      simp only at hn0 hn1' hd0 hd1
      obtain ⟨d, rfl⟩ := Int.eq_ofNat_of_zero_le hd0
      by_cases hd : d = 0
      · subst hd
        have HR := Lib.hid (show meanF (matR ra) = (0, 0, false) by rw [HF.out]; unfold meanG; rw [if_pos (show (⟨num, ((0 : Nat) : Int), nodes⟩ : Gr).den = 0 from rfl)])
        go_wp2_with fail
        go_ret3
        exact ⟨by rw [HR.out]; rfl, HBl.out⟩
      have hdi : ((d : Int) == 0) = false := by simp; omega
      have hdn : (d == 0) = false := by simpa using hd
      have HR := Lib.hid (show meanF (matR ra) = (num.tdiv (Nat.gcd num.natAbs d), (d : Int).tdiv (Nat.gcd num.natAbs d), true) by rw [HF.out]; unfold meanG; rw [if_neg (by simp only; omega)]; simp)
      have hgp : 0 < Nat.gcd num.natAbs d := Nat.gcd_pos_of_pos_right _ (by omega)
      have hna : num.natAbs ≤ 824633720832 := by omega
      have hgl : Nat.gcd num.natAbs d ≤ d := Nat.gcd_le_right _ (by omega)
      go_wp2_with fail
      rw [abs_max]
      refine (rgcd_any num.natAbs d _ (by omega) (by omega)).mono ?_
      rintro e w4 ⟨rfl, hb4⟩
      have HB4 := Lib.hid (HBl.out.trans (hb4.mono HBl.out.size))
      clear hb4
      generalize Nat.gcd num.natAbs d = g at *
      have hg0 : ¬ (g : Int) = 0 := by omega
      have Hwr := Lib.hid (show wrap64 ((d : Int) / (g : Int)) = (d : Int).tdiv g by
        have h1 : (d : Int).tdiv g = (d : Int) / g := Int.tdiv_eq_ediv_of_nonneg (by omega)
        have h2 : ((d : Int) / (g : Int)) = ((d / g : Nat) : Int) := by simp
        have h3 := Nat.div_le_self d g
        rw [h1, h2]
        clear h1 h2
        generalize d / g = q at h3 ⊢
        exact IntWalk.wrap64_in _ ⟨by omega, by omega⟩)
      have hg1 : ((g : Int) == 0) = false := by simp; omega
      go_upto_region 19 with fail
      go_quiet (fail)
      go_wp2_with fail
      go_ret3
      exact ⟨by rw [HR.out, ← Hwr.out]; rfl, by first | exact below_drewN HB4.out _ | exact HB4.out⟩
end Go.Proofs.Ythmnalaeckfaaaa
