import Derived.Test.YthmnalaeckfaaaaMx7
import Derived.Test.YthmnalaeckfaaaaMp30
import Derived.Test.YthmnalaeckfaaaaMpDl
namespace Go.Proofs.Ythmnalaeckfaaaa
open Go.RowKit
attribute [local go_sem ↓] run_min_keep
/-- the entries, at most T -/
def lowF (low : Bool) (T : Int) (f : Nat → Nat → Int) (i j : Nat) : Int := if low = true then min (f i j) T else f i j
theorem rec_gone {n : Nat} {a : List (List Int)} {T : Int} {x : List Int} (_hT : 1 ≤ T) (hn : 1 ≤ n ∧ n ≤ 4) (hs : ∀ i j, i < n → j < n → SmE (gm a i j) ∧ gm a i j ≤ T) (hm : (grAll n a n).den ≠ 0 → (meanG (grAll n a n)).1 < T * (meanG (grAll n a n)).2.1) (hxl : x.length = n) (hx : ∀ e ∈ x, 0 ≤ e ∧ e ≤ 199) : (recS n a T 3600 0 x).2 = true := by
  have hb : Go.Proofs.Ythmnalaeckfaaaa.Bd 29 a n := fun i j hi hj => by rcases (hs i j hi hj).1 with h | h; exact .inl h; right; omega
  have hxg : ∀ i, i < n → 0 ≤ x.getD i 0 ∧ x.getD i 0 ≤ 199 := fun i hi => by
    have hi' : i < x.length := by omega
    simp only [List.getD_eq_getElem?_getD, List.getElem?_eq_getElem hi', Option.getD_some]
    exact hx _ (List.getElem_mem hi')
  refine recS_true 3600 0 x (n * 199) (by omega) ((dl_zero hxl _).2 fun i hi => ?_)
  have h1 := dv_down (B := 29) (by omega) hb (by omega) (p := T) (M := 199) (x := x) (fun i j hi hj _ => (hs i j hi hj).2) (fun k i h1 h2 h3 h4 => mean_lt hm h1 h2 h3 h4) (fun i hi => (hxg i hi).2) 199 i hi
  have h2 := dv_nn (a := a) (p := T) (fun i hi => (hxg i hi).1) (n * 199) i hi
  omega
def Rv1 (w : World) (G c n gx w2 : Nat) (g cp : Nat → Nat) (f : Nat → Nat → Int) (k : Nat) (u : Value) (wr : World) : Prop :=
  ∃ (j : Nat) (zs : List Int), u = .int .i64 j ∧ j + k = n ∧ (∀ e ∈ zs, 0 ≤ e ∧ e ≤ 199) ∧ wr.ownsRow w2 3 1 (.slice (some ⟨gx, 0, none⟩) n n) n (zs.map (Value.int .i64)) ∧ StS w wr G c n g cp f
def Rv2 (w : World) (G c n gx w2 : Nat) (zs : List Int) (g cp : Nat → Nat) (low : Bool) (T : Int) (f : Nat → Nat → Int) (k : Nat) (u : Value) (wr : World) : Prop :=
  ∃ i : Nat, u = .int .i64 i ∧ i + k = n ∧ wr.ownsRow w2 3 1 (.slice (some ⟨gx, 0, none⟩) n n) n (zs.map (Value.int .i64)) ∧ StS w wr G c n g cp (midF f (lowF low T f) i 0)
def Rv3 (w : World) (G c n gx w2 i : Nat) (zs : List Int) (g cp : Nat → Nat) (low : Bool) (T : Int) (f : Nat → Nat → Int) (k : Nat) (u : Value) (wr : World) : Prop :=
  ∃ j : Nat, u = .int .i64 j ∧ j + k = n ∧ wr.ownsRow w2 3 1 (.slice (some ⟨gx, 0, none⟩) n n) n (zs.map (Value.int .i64)) ∧ StS w wr G c n g cp (midF f (lowF low T f) i j)
set_option maxRecDepth 100000 in
set_option maxHeartbeats 6400000 in
theorem recoverlaw_true (a0 : Int) (A1 : Option Addr) (n1 c1 : Nat) (z1 : List Int) (A2 : Option Addr) (n2 c2 : Nat) (z2 : List Int) (a3 a4 : Int) (w : World) (_w0 : (Lit.int .i64 a0).wf = true) (h1 : Rd w w.heap.size 1 A1 n1 (z1.map (Value.int .i64))) (m1 : n1 ≤ c1 ∧ c1 ≤ maxLen ∧ c1 * 8 ≤ 140737488351232) (h2 : Rd w w.heap.size 1 A2 n2 (z2.map (Value.int .i64))) (m2 : n2 ≤ c2 ∧ c2 ≤ maxLen ∧ c2 * 8 ≤ 140737488351232) (_w3 : (Lit.int .i64 a3).wf = true) (_w4 : (Lit.int .i64 a4).wf = true) :
    Calls Try.prog 4 #[.int .i64 a0, .slice A1 n1 c1, .slice A2 n2 c2, .int .i64 a3, .int .i64 a4] w fun e w' => e = .returned (.bool true) ∧ Below w.heap.size w w' := by
  have I1 := Lib.hid h1
  have I2 := Lib.hid h2
  have hz2l : z2.length = n2 := by have := h2.1; simpa using this
  have Hz2 := Lib.hid hz2l
  have Hm1 := Lib.hid (show n1 ≤ maxLen ∧ n2 ≤ maxLen by omega)
  clear h1 m1 h2 hz2l
  obtain ⟨i0, a1, a2, a3, a4⟩ := info_parts infoInt
  have HI := Lib.hid (And.intro a1 (And.intro a2 (And.intro a3 a4)))
  clear a1 a2 a3 a4
  obtain ⟨r0, a1, a2, a3, a4⟩ := info_parts infoRow
  have HIr := Lib.hid (And.intro a1 (And.intro a2 (And.intro a3 a4)))
  clear a1 a2 a3 a4
  go_enter Try.func4, Try.ntmps4
  go_wp2_with fail
  refine (pick_any a0 4 w (by omega) (by omega)).mono ?_
  rintro e w1 ⟨rfl, rfl⟩
  have hp := pick_bd a0 4 (by omega) (by omega)
  obtain ⟨n, hn⟩ := Int.eq_ofNat_of_zero_le (show 0 ≤ 1 + pick a0 4 by omega)
  have hnb : 1 ≤ n ∧ n ≤ 4 := by omega
  obtain ⟨hn1, hn2⟩ := hnb
  generalize pick a0 4 = p0 at *
  obtain rfl : p0 = (n : Int) - 1 := by omega
  have hn3 : (1 + ((n : Int) - 1)) = n := by omega
  clear hp hn
  go_wp2_with fail
  try rw [hn3]
  clear hn3
  refine (matrix_apart n A1 n1 c1 z1 w ⟨hn1, by omega⟩ I1.out Hm1.out.1).mono ?_
  rintro e w2 ⟨A, ca, ra, rfl, hl, hsm, hap, ho, hb2⟩
  have HEn := Lib.hid (fun i j (hi : i < n) (hj : j < n) => sm_ent hsm hl hi hj)
  obtain ⟨G, g, cp, rfl, hst⟩ := StS.of_apart ho hl (fun x hx => (hsm x hx).1) hap hb2 hn1
  have HS := Lib.hid hst
  have hw2 := hb2.size
  clear hl hsm ho hap hb2 hst
  generalize gm (matR ra) = f at *
  go_upto_region 3 with (at_make; refine wpList_make_full _ rfl _ _ 22 rfl w2.heap.size 3 i0 _ 1 Try.underlying22 HI.out.1 HI.out.2.1 HI.out.2.2.1 .i64 .i64 _ _ n rfl rfl rfl rfl ?m1 ?m2 ?m3 ?_; rotate_right; intro w5 hown5 hg5)
  case m1 => rw [HI.out.2.2.2]; omega
  case m2 => simp only [maxLen]; omega
  case m3 => omega
  have hb5 : Below w2.heap.size w2 w5 := (Below.refl _ _).grown hg5 (Nat.le_refl _) (by simp)
  have HR5 := Lib.hid (show w5.ownsRow w2.heap.size 3 1 (.slice (some ⟨w2.heap.size, 0, none⟩) n n) n ((List.replicate n (0 : Int)).map (Value.int .i64)) by
    have h := madeCells_one (Value.int .i64) 0 n
    rw [← h]
    exact hown5)
  have HgB := Lib.hid (show ∀ i, i < n → g i < w2.heap.size from fun i hi => (HS.out.at hi hn1).2.2.2.1)
  have HS5 := Lib.hid (HS.out.grow hb5)
  clear hown5 hg5 hb5 HS
  generalize w2.heap.size = s2 at *
  go_wp2_with fail
  obtain ⟨gx, hgx⟩ : ∃ gx, gx = s2 := ⟨_, rfl⟩
  have HR6 := Lib.hid (show w5.ownsRow s2 3 1 (.slice (some ⟨gx, 0, none⟩) n n) n ((List.replicate n (0 : Int)).map (Value.int .i64)) by rw [hgx]; exact HR5.out)
  rw [← hgx]
  have hgx2 : s2 ≤ gx := by omega
  clear HR5 hgx
  go_loopg [13, 35] n (fun k _ u wr => Rv1 w G ca n gx s2 g cp f k u wr)
  case atStart => exact ⟨0, _, rfl, by omega, fun e he => by rw [List.mem_replicate] at he; omega, HR6.out, HS5.out⟩
  case round =>
    clear HR6 HS5
    obtain ⟨j, zs, rfl, hj, hzs, hor, hst⟩ := hrel
    have Hj := Lib.hid hj
    have Hzs := Lib.hid hzs
    have HOr := Lib.hid hor
    have HS := Lib.hid hst
    clear hj hzs hor hst
    by_cases hlt : j < n
    · obtain ⟨hzl, l1, l2, hgl, hgb⟩ := row_last HOr.out
      have l3 := l1 j (by omega)
      have l4 := l2 j
      have Hzl := Lib.hid hzl
      by_cases hjx : j < n2
      · have hjx' : decide ((j : Int) < (n2 : Int)) = true := by simp; omega
        obtain ⟨bz, oz, rfl, hbz, p0⟩ := rd1 (I2.out.grow HS.out.bel) j (by rw [Hz2.out]; exact hjx)
        generalize z2[j]'(by rw [Hz2.out]; exact hjx) = y at *
        have hq := pick_bd y 200 (by omega) (by omega)
        have HO9 := Lib.hid (own1_set HOr.out j (pick y 200))
        have Hzs9 := Lib.hid (show ∀ e ∈ zs.set j (pick y 200), 0 ≤ e ∧ e ≤ 199 from fun e he => by
          rcases List.mem_or_eq_of_mem_set he with h | rfl
          · exact Hzs.out e h
          · omega)
        have HS9 := Lib.hid (show StS w (wr.setCell ⟨gx, j, none⟩ (.int .i64 (pick y 200))) G ca n g cp f from ⟨HS.out.bel.setCell (by simp only; omega) _, own_far HS.out.o (own_ne2 HS.out.o HOr.out (by decide) rfl), fun i hi => own_far (HS.out.r i hi) (fun e => by simp [Value.ownBlock] at e; have := HgB.out i hi; omega), HS.out.d⟩)
        generalize zs[j]'(by omega) = zi at *
        clear l1 l2 hzl
        go_wp2_with fail
        refine (pick_any y 200 wr (by omega) (by omega)).mono ?_
        rintro e w7 ⟨rfl, rfl⟩
        go_wp2_with fail
        go_roundg (n - j - 1)
        case measure => have := Hj.out; omega
        case rel => exact ⟨j + 1, _, by first | rfl | go_num, by omega, Hzs9.out, HO9.out, HS9.out⟩
      · have hjx' : decide ((j : Int) < (n2 : Int)) = false := by simp; omega
        clear l1 l2 l3 l4 hzl
        go_wp2_with fail
        go_roundg (n - j - 1)
        case measure => have := Hj.out; omega
        case rel => exact ⟨j + 1, _, by first | rfl | go_num, by omega, Hzs.out, HOr.out, HS.out⟩
    · obtain rfl : n = j := by have := Hj.out; omega
      have hT := pick_bd a3 40 (by omega) (by omega)
      have hlo := pick_bd a4 3 (by omega) (by omega)
      go_wp2_with fail
      refine (pick_any a3 40 wr (by omega) (by omega)).mono ?_
      rintro e w7 ⟨rfl, rfl⟩
      obtain ⟨T, hTT⟩ : ∃ T, T = 1 + pick a3 40 := ⟨_, rfl⟩
      have HTq := Lib.hid hTT
      have hTa : 1 ≤ T := by omega
      have hTb : T ≤ 40 := by omega
      go_wp2_with fail
      try rw [← HTq.out]
      clear hTT HTq hT
      refine (pick_any a4 3 wr (by omega) (by omega)).mono ?_
      rintro e w7 ⟨rfl, rfl⟩
      generalize pick a4 3 = p4 at *
      cases hlw : decide (0 < p4)
      · have HLF := Lib.hid (show ∀ i j, lowF false T f i j = f i j from fun i j => by simp [lowF])
        go_wp2_with fail
        obtain ⟨wz, hwz⟩ : ∃ wz, wz = wr := ⟨_, rfl⟩
        subst hwz
        go_loopg [16, 17, 59] n (fun k _ _ u wr => Rv2 w G ca n gx s2 zs g cp false T f k u wr)
        case atStart => exact ⟨0, rfl, by omega, HOr.out, HS.out.congr fun i j hi hj => by unfold midF; rw [if_neg (by omega)]⟩
        case round =>
          clear HOr HS
          obtain ⟨i, rfl, hi, hor, hst⟩ := hrel
          have Hi := Lib.hid hi
          have HOr := Lib.hid hor
          have HS := Lib.hid hst
          clear hi hor hst
          by_cases hil : i < n
          · obtain ⟨q0, _, _, hgi, hGs, _⟩ := HS.out.at hil hn1
            go_wp2_with fail
            clear q0 hgi hGs
            go_loopg [17, 67] n (fun k _ u wx => Rv3 w G ca n gx s2 i zs g cp false T f k u wx)
            case atStart => exact ⟨0, rfl, by omega, HOr.out, HS.out⟩
            case round =>
              clear HOr HS
              obtain ⟨j, rfl, hj, hor, hst⟩ := hrel
              have Hj := Lib.hid hj
              have HOr := Lib.hid hor
              have HS := Lib.hid hst
              clear hj hor hst
              by_cases hjl : j < n
              · go_wp2_with fail
                go_roundg (n - j - 1)
                case measure => have := Hj.out; omega
                case rel => exact ⟨j + 1, by first | rfl | go_num, by omega, HOr.out, HS.out.congr fun i' j' hi' hj' => by unfold midF; rw [HLF.out]; split <;> split <;> rfl⟩
              · obtain rfl : j = n := by have := Hj.out; omega
                go_wp2_with fail
                go_roundg (j - i - 1)
                case measure => have := Hi.out; omega
                case rel => exact ⟨i + 1, by first | rfl | go_num, by omega, HOr.out, HS.out.congr fun i' j' hi' hj' => by
                  unfold midF
                  by_cases e : i' < i ∨ (i' = i ∧ j' < j)
                  · rw [if_pos e, if_pos (by omega)]
                  · rw [if_neg e, if_neg (by omega)]⟩
          · obtain rfl : i = n := by have := Hi.out; omega
            have HF := Lib.hid (HS.out.congr (f' := lowF false T f) fun i' j' hi' hj' => by unfold midF; rw [if_pos (.inl hi')])
            have HO := Lib.hid (HF.out.own (by omega))
            have HB := Lib.hid HF.out.bel
            have HRl := Lib.hid (stRows_len (n := i) (g := g) (cp := cp) (f := lowF false T f))
            have HRm := Lib.hid (stRows_mat (n := i) (g := g) (cp := cp) (f := lowF false T f))
            have HA := Lib.hid HO.out.rd
            have HX := Lib.hid (Rd.of_own HOr.out)
            have Hzl := Lib.hid (own1_len HOr.out).symm
            clear HF HO HS HOr
            generalize stRows i g cp (lowF false T f) = ra at *
            have HSq := Lib.hid (sq_of_tab i (lowF false T f))
            have HSe := Lib.hid (show ∀ u v, u < i → v < i → SmE (gm (tab i (lowF false T f)) u v) ∧ (false = true → gm (tab i (lowF false T f)) u v ≤ T) from fun u v hu hv => by
              rw [gm_tab hu hv, HLF.out]
              have := HEn.out u v hu hv
              unfold SmE at *
              constructor
              · omega
              · intro h; first | omega | cases h)
            clear HEn
            generalize tab i (lowF false T f) = P at *
            have hbd : Go.Proofs.Ythmnalaeckfaaaa.Bd 68719476736 P i := fun u v hu hv => by rcases (HSe.out u v hu hv).1 with h | h; exact .inl h; right; omega
            have HCk := Lib.hid (bd_mk HSq.out ⟨hn1, by omega⟩ hbd)
            have HOk := Lib.hid (grAll_ok (n := i) hbd i (by omega))
            clear hbd
            have HMf := Lib.hid (show meanF P = meanG (grAll i P i) by unfold meanF; rw [if_pos HCk.out, HSq.out.1])
            have HRf := Lib.hid (show recF P zs T 3600 = recS i P T 3600 0 zs by
              unfold recF
              rw [if_pos ⟨HCk.out, by rw [HSq.out.1]; exact Hzl.out, by omega, by omega, by omega, by omega, fun d hd => by have := Hzs.out d hd; omega⟩, HSq.out.1]
              rfl)
            have HV := Lib.hid (show false = true → ((meanF P).2.2 = false ∨ (meanF P).1 < T * (meanF P).2.1) → (recF P zs T 3600).2 = true from fun hl hm => by
              rw [HRf.out]
              refine rec_gone hTa ⟨hn1, hn2⟩ (fun u v hu hv => ⟨(HSe.out u v hu hv).1, (HSe.out u v hu hv).2 hl⟩) (fun h0 => ?_) Hzl.out Hzs.out
              rw [HMf.out] at hm
              have := (meanG_bd HOk.out h0).2.2.2
              rcases hm with hm | hm
              · rw [this] at hm; cases hm
              · exact hm)
            have HMb := Lib.hid (show (-824633720832 ≤ (meanF P).1 ∧ (meanF P).1 ≤ 824633720832) ∧ 0 ≤ (meanF P).2.1 ∧ (meanF P).2.1 ≤ 12 from by
              rw [HMf.out]
              by_cases h0 : (grAll i P i).den = 0
              · unfold meanG; rw [if_pos h0]; simp
              · have := meanG_bd HOk.out h0; omega)
            clear HMf HRf HOk HCk HSe HSq HLF
            have hc1 := recover_any (some ⟨G, 0, none⟩) (some ⟨gx, 0, none⟩) ca i ra zs T 3600 _ HA.out (by rw [Hzl.out]; exact HX.out) (by rw [Hzl.out]; omega)
            rw [HRl.out, Hzl.out, HRm.out] at hc1
            go_wp2_with fail
            refine hc1.mono ?_
            rintro e w7 ⟨rfl, hb7⟩
            have HB7 := Lib.hid (HB.out.trans (hb7.mono HB.out.size))
            have HA7 := Lib.hid (HA.out.grow hb7)
            have HX7 := Lib.hid ((HX.out.grow hb7).more hb7.size)
            clear hb7 hc1 HB HA HX
            have hc2 := rrecover_any (some ⟨G, 0, none⟩) (some ⟨gx, 0, none⟩) ca i ra zs T 3600 w7 HA7.out (by rw [Hzl.out]; exact HX7.out) (by rw [Hzl.out]; omega)
            rw [HRl.out, Hzl.out, HRm.out] at hc2
            go_wp2_with fail
            refine hc2.mono ?_
            rintro e w8 ⟨rfl, hb8⟩
            have HB8 := Lib.hid (HB7.out.trans (hb8.mono HB7.out.size))
            have HA8 := Lib.hid (HA7.out.grow hb8)
            clear hb8 hc2 HB7 HA7 HX7
            have hc3 := rmean_any (some ⟨G, 0, none⟩) ca ra w8 HA8.out
            rw [HRl.out, HRm.out] at hc3
            go_wp2_with fail
            refine hc3.mono ?_
            rintro e w9 ⟨rfl, hb9⟩
            have HB9 := Lib.hid (HB8.out.trans (hb9.mono HB8.out.size))
            clear hb9 hc3 HB8 HA8
            generalize meanF P = mf at *
            generalize recF P zs T 3600 = rf at *
            obtain ⟨num, den, cy⟩ := mf
            obtain ⟨rk, rb⟩ := rf
            simp only at HV HMb
            obtain ⟨⟨hnm0, hnm1⟩, hd0, hd12⟩ := HMb.out
            have hq1 : T * den ≤ 40 * 12 := Int.mul_le_mul hTb hd12 (by omega) (by omega)
            have hq2 : 0 ≤ T * den := Int.mul_nonneg (by omega) (by omega)
            have hk1 : (rk == rk) = true := by simp
            have hk2 : (rb == rb) = true := by simp
            simp only
            go_wp2_with fail
            refine (awake_any _).mono ?_
            rintro e w10 ⟨rfl, hb10⟩
            have HB10 := Lib.hid (HB9.out.trans (hb10.mono HB9.out.size))
            clear hb10
            go_wp2_with fail
            go_ret
            exact ⟨rfl, HB10.out⟩
      · have HLF := Lib.hid (show ∀ i j, lowF true T f i j = min (f i j) T from fun i j => by simp [lowF])
        go_wp2_with fail
        obtain ⟨wz, hwz⟩ : ∃ wz, wz = wr := ⟨_, rfl⟩
        subst hwz
        go_loopg [16, 17, 59] n (fun k _ _ u wr => Rv2 w G ca n gx s2 zs g cp true T f k u wr)
        case atStart => exact ⟨0, rfl, by omega, HOr.out, HS.out.congr fun i j hi hj => by unfold midF; rw [if_neg (by omega)]⟩
        case round =>
          clear HOr HS
          obtain ⟨i, rfl, hi, hor, hst⟩ := hrel
          have Hi := Lib.hid hi
          have HOr := Lib.hid hor
          have HS := Lib.hid hst
          clear hi hor hst
          by_cases hil : i < n
          · obtain ⟨q0, _, _, hgi, hGs, _⟩ := HS.out.at hil hn1
            go_wp2_with fail
            clear q0 hgi hGs
            go_loopg [17, 67] n (fun k _ u wx => Rv3 w G ca n gx s2 i zs g cp true T f k u wx)
            case atStart => exact ⟨0, rfl, by omega, HOr.out, HS.out⟩
            case round =>
              clear HOr HS
              obtain ⟨j, rfl, hj, hor, hst⟩ := hrel
              have Hj := Lib.hid hj
              have HOr := Lib.hid hor
              have HS := Lib.hid hst
              clear hj hor hst
              by_cases hjl : j < n
              · obtain ⟨q0, q1, q2, hgi, hGs, hgw⟩ := HS.out.at hil hjl
                rw [midF_at] at q1
                have hneq : gx ≠ g i := by have := HgB.out i hil; omega
                go_upto_region 18 with fail
                refine wp_region_overT 14 (by kernel_rfl) (by kernel_rfl) ?_
                simp only [List.take_succ_cons, List.take_zero, List.drop_succ_cons, List.drop_zero]
                repeat (go_big_quiet_step ((fail)))
                refine wpQuiet_nil ?_
                intro w9 hb9
                have HS9 := Lib.hid (HS.out.grow hb9)
                have HO9 := Lib.hid (own_grow HOr.out hb9)
                clear hb9 HS HOr q0 q1 q2 hgi hGs hgw
                obtain ⟨q0, q1, q2, hgi, hGs, _⟩ := HS9.out.at hil hjl
                have hs := HS9.out.set hil hjl (min (f i j) T)
                rw [midF_set (f := f) (f' := lowF true T f) (i := i) (j := j) (HLF.out i j)] at hs
                have HS10 := Lib.hid hs
                have HO10 := Lib.hid (own_far (p := ⟨g i, j, none⟩) (u := .int .i64 (min (f i j) T)) HO9.out (by simp [Value.ownBlock, hneq]))
                clear hs
                go_wp2_with fail
                go_roundg (n - j - 1)
                case measure => have := Hj.out; omega
                case rel => exact ⟨j + 1, by first | rfl | go_num, by omega, HO10.out, HS10.out⟩
              · obtain rfl : j = n := by have := Hj.out; omega
                go_wp2_with fail
                go_roundg (j - i - 1)
                case measure => have := Hi.out; omega
                case rel => exact ⟨i + 1, by first | rfl | go_num, by omega, HOr.out, HS.out.congr fun i' j' hi' hj' => by
                  unfold midF
                  by_cases e : i' < i ∨ (i' = i ∧ j' < j)
                  · rw [if_pos e, if_pos (by omega)]
                  · rw [if_neg e, if_neg (by omega)]⟩
          · obtain rfl : i = n := by have := Hi.out; omega
            have HF := Lib.hid (HS.out.congr (f' := lowF true T f) fun i' j' hi' hj' => by unfold midF; rw [if_pos (.inl hi')])
            have HO := Lib.hid (HF.out.own (by omega))
            have HB := Lib.hid HF.out.bel
            have HRl := Lib.hid (stRows_len (n := i) (g := g) (cp := cp) (f := lowF true T f))
            have HRm := Lib.hid (stRows_mat (n := i) (g := g) (cp := cp) (f := lowF true T f))
            have HA := Lib.hid HO.out.rd
            have HX := Lib.hid (Rd.of_own HOr.out)
            have Hzl := Lib.hid (own1_len HOr.out).symm
            clear HF HO HS HOr
            generalize stRows i g cp (lowF true T f) = ra at *
            have HSq := Lib.hid (sq_of_tab i (lowF true T f))
            have HSe := Lib.hid (show ∀ u v, u < i → v < i → SmE (gm (tab i (lowF true T f)) u v) ∧ (true = true → gm (tab i (lowF true T f)) u v ≤ T) from fun u v hu hv => by
              rw [gm_tab hu hv, HLF.out]
              have := HEn.out u v hu hv
              unfold SmE at *
              constructor
              · omega
              · intro h; first | omega | cases h)
            clear HEn
            generalize tab i (lowF true T f) = P at *
            have hbd : Go.Proofs.Ythmnalaeckfaaaa.Bd 68719476736 P i := fun u v hu hv => by rcases (HSe.out u v hu hv).1 with h | h; exact .inl h; right; omega
            have HCk := Lib.hid (bd_mk HSq.out ⟨hn1, by omega⟩ hbd)
            have HOk := Lib.hid (grAll_ok (n := i) hbd i (by omega))
            clear hbd
            have HMf := Lib.hid (show meanF P = meanG (grAll i P i) by unfold meanF; rw [if_pos HCk.out, HSq.out.1])
            have HRf := Lib.hid (show recF P zs T 3600 = recS i P T 3600 0 zs by
              unfold recF
              rw [if_pos ⟨HCk.out, by rw [HSq.out.1]; exact Hzl.out, by omega, by omega, by omega, by omega, fun d hd => by have := Hzs.out d hd; omega⟩, HSq.out.1]
              rfl)
            have HV := Lib.hid (show true = true → ((meanF P).2.2 = false ∨ (meanF P).1 < T * (meanF P).2.1) → (recF P zs T 3600).2 = true from fun hl hm => by
              rw [HRf.out]
              refine rec_gone hTa ⟨hn1, hn2⟩ (fun u v hu hv => ⟨(HSe.out u v hu hv).1, (HSe.out u v hu hv).2 hl⟩) (fun h0 => ?_) Hzl.out Hzs.out
              rw [HMf.out] at hm
              have := (meanG_bd HOk.out h0).2.2.2
              rcases hm with hm | hm
              · rw [this] at hm; cases hm
              · exact hm)
            have HMb := Lib.hid (show (-824633720832 ≤ (meanF P).1 ∧ (meanF P).1 ≤ 824633720832) ∧ 0 ≤ (meanF P).2.1 ∧ (meanF P).2.1 ≤ 12 from by
              rw [HMf.out]
              by_cases h0 : (grAll i P i).den = 0
              · unfold meanG; rw [if_pos h0]; simp
              · have := meanG_bd HOk.out h0; omega)
            clear HMf HRf HOk HCk HSe HSq HLF
            have hc1 := recover_any (some ⟨G, 0, none⟩) (some ⟨gx, 0, none⟩) ca i ra zs T 3600 _ HA.out (by rw [Hzl.out]; exact HX.out) (by rw [Hzl.out]; omega)
            rw [HRl.out, Hzl.out, HRm.out] at hc1
            go_wp2_with fail
            refine hc1.mono ?_
            rintro e w7 ⟨rfl, hb7⟩
            have HB7 := Lib.hid (HB.out.trans (hb7.mono HB.out.size))
            have HA7 := Lib.hid (HA.out.grow hb7)
            have HX7 := Lib.hid ((HX.out.grow hb7).more hb7.size)
            clear hb7 hc1 HB HA HX
            have hc2 := rrecover_any (some ⟨G, 0, none⟩) (some ⟨gx, 0, none⟩) ca i ra zs T 3600 w7 HA7.out (by rw [Hzl.out]; exact HX7.out) (by rw [Hzl.out]; omega)
            rw [HRl.out, Hzl.out, HRm.out] at hc2
            go_wp2_with fail
            refine hc2.mono ?_
            rintro e w8 ⟨rfl, hb8⟩
            have HB8 := Lib.hid (HB7.out.trans (hb8.mono HB7.out.size))
            have HA8 := Lib.hid (HA7.out.grow hb8)
            clear hb8 hc2 HB7 HA7 HX7
            have hc3 := rmean_any (some ⟨G, 0, none⟩) ca ra w8 HA8.out
            rw [HRl.out, HRm.out] at hc3
            go_wp2_with fail
            refine hc3.mono ?_
            rintro e w9 ⟨rfl, hb9⟩
            have HB9 := Lib.hid (HB8.out.trans (hb9.mono HB8.out.size))
            clear hb9 hc3 HB8 HA8
            generalize meanF P = mf at *
            generalize recF P zs T 3600 = rf at *
            obtain ⟨num, den, cy⟩ := mf
            obtain ⟨rk, rb⟩ := rf
            simp only at HV HMb
            obtain ⟨⟨hnm0, hnm1⟩, hd0, hd12⟩ := HMb.out
            have hq1 : T * den ≤ 40 * 12 := Int.mul_le_mul hTb hd12 (by omega) (by omega)
            have hq2 : 0 ≤ T * den := Int.mul_nonneg (by omega) (by omega)
            have hk1 : (rk == rk) = true := by simp
            have hk2 : (rb == rb) = true := by simp
            simp only
            by_cases hfin : cy = false ∨ num < T * den
            · obtain rfl : rb = true := HV.out trivial hfin
              rcases Bool.eq_false_or_eq_true cy with rfl | rfl
              · by_cases hlt : num < T * den
                · have hlt' : decide (num < T * den) = true := by simpa using hlt
                  go_wp2_with fail
                  refine (awake_any _).mono ?_
                  rintro e w10 ⟨rfl, hb10⟩
                  have HB10 := Lib.hid (HB9.out.trans (hb10.mono HB9.out.size))
                  clear hb10
                  go_wp2_with fail
                  go_ret
                  exact ⟨rfl, HB10.out⟩
                · have hlt' : decide (num < T * den) = false := by simpa using hlt
                  go_wp2_with fail
                  refine (awake_any _).mono ?_
                  rintro e w10 ⟨rfl, hb10⟩
                  have HB10 := Lib.hid (HB9.out.trans (hb10.mono HB9.out.size))
                  clear hb10
                  go_wp2_with fail
                  go_ret
                  exact ⟨rfl, HB10.out⟩
              · go_wp2_with fail
                refine (awake_any _).mono ?_
                rintro e w10 ⟨rfl, hb10⟩
                have HB10 := Lib.hid (HB9.out.trans (hb10.mono HB9.out.size))
                clear hb10
                go_wp2_with fail
                go_ret
                exact ⟨rfl, HB10.out⟩
            · obtain ⟨rfl, hlt⟩ : cy = true ∧ ¬ num < T * den := by
                constructor
                · cases cy
                  · exact absurd (.inl rfl) hfin
                  · rfl
                · exact fun h => hfin (.inr h)
              have hlt' : decide (num < T * den) = false := by simpa using hlt
              clear hfin
              go_wp2_with fail
              refine (awake_any _).mono ?_
              rintro e w10 ⟨rfl, hb10⟩
              have HB10 := Lib.hid (HB9.out.trans (hb10.mono HB9.out.size))
              clear hb10
              go_wp2_with fail
              go_ret
              exact ⟨rfl, HB10.out⟩
end Go.Proofs.Ythmnalaeckfaaaa
