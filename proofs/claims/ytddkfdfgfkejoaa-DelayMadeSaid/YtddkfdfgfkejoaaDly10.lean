import Derived.Test.YtddkfdfgfkejoaaDly9
import Derived.Test.YtddkfdfgfkejoaaDlyMath5
namespace Go.Proofs.Ytddkfdfgfkejoaa
open Go.RowKit

/-- the outer loop: the moments before i are raised -/
def LO1 (w : World) (v6 v7 v8 : Value) (n : Nat) (ws : List Wt) (ps : List Pri) (k : Nat) (v : Value) (wr : World) : Prop :=
  ∃ (i : Nat) (ms : List Mom), v = .int .i64 i ∧ i + k = n ∧ OT n ws i 0 ms ∧ DX w v6 v7 v8 ms ws ps wr
def LO2 (w : World) (v6 v7 v8 : Value) (n i : Nat) (ws : List Wt) (ps : List Pri) (k : Nat) (v : Value) (wr : World) : Prop :=
  ∃ (j : Nat) (ms : List Mom), v = .int .i64 j ∧ j + k = ws.length ∧ OT n ws i j ms ∧ DX w v6 v7 v8 ms ws ps wr

set_option maxRecDepth 100000 in
set_option maxHeartbeats 3200000 in
theorem delayOnTime_true (A : Option Addr) (n c : Nat) (z : List Int) (w : World) (h : Rd w w.heap.size 1 A n (z.map (Value.int .i64))) (m : n ≤ c ∧ c ≤ maxLen ∧ c * 8 ≤ 140737488351232) :
    Calls Try.prog 6 #[.slice A n c] w fun e w' => e = .returned (.bool true) ∧ Below w.heap.size w w' := by
  have H := Lib.hid h
  have HN : n ≤ maxLen := by omega
  have HN := Lib.hid HN
  clear h m
  go_enter Try.func6, Try.ntmps6
  go_wp2_with fail
  refine (mkdelay_any A n c z w H.out HN.out).mono ?_
  rintro e w1 ⟨v6, v7, v8, nn, ms, ws, ps, rfl, hn1, hn6, hok, hb1, hom, how, hop⟩
  obtain ⟨A6, c6, rfl, hc6, hm6⟩ := own_slice hom
  obtain ⟨A7, c7, rfl, hc7, hm7⟩ := own_slice how
  obtain ⟨A8, c8, rfl, hc8, hm8⟩ := own_slice hop
  have hsm := hok.small hn1 hn6
  have HS := Lib.hid hsm
  have HT := Lib.hid (show (∀ x ∈ ms, 0 ≤ x.time ∧ x.time ≤ 150) ∧ (∀ k ∈ ws, 0 ≤ k.fr ∧ k.fr < k.tt ∧ 0 ≤ k.mn ∧ k.mn < 40) from ⟨fun x hx => by have := hok.mt x hx; omega, fun k hk => by have := hok.wt k hk; omega⟩)
  have HD : Hid (DX w (.slice A6 ms.length c6) (.slice A7 ws.length c7) (.slice A8 ps.length c8) ms ws ps w1) := ⟨hb1, hom, how, hop⟩
  have hl6 := hsm.n6
  have hl1 := hsm.n1
  have hlw := hsm.nw
  have hlp := hsm.np
  clear hsm hok hom how hop hb1 hn1 hn6 H HN
  unfold maxLen at hm6 hm7 hm8
  go_wp2_with fail
  go_loopg [6, 8, 23, 28] ms.length (fun k _ _ v _ wr => LO1 w (.slice A6 ms.length c6) (.slice A7 ws.length c7) (.slice A8 ps.length c8) ms.length ws ps k v wr)
  case atStart => exact ⟨0, ms, rfl, by omega, OT.start _ _ _ rfl HT.out.1 (fun k hk => by have := HT.out.2 k hk; omega), HD.out⟩
  case round =>
    obtain ⟨i, ms1, rfl, hi, hot, hdx⟩ := hrel
    clear HD
    have Hi := Lib.hid hi
    have HO := Lib.hid hot
    have HD := Lib.hid hdx
    clear hi hot hdx
    by_cases hlt : i < ms.length
    · obtain ⟨wo, rfl⟩ : ∃ wo : World, wo = wr := ⟨_, rfl⟩
      go_wp2_with fail
      go_loopg [8, 28] ws.length (fun k _ v wr => LO2 w (.slice A6 ms.length c6) (.slice A7 ws.length c7) (.slice A8 ps.length c8) ms.length i ws ps k v wr)
      case atStart => exact ⟨0, ms1, rfl, by omega, HO.out, HD.out⟩
      case round =>
        obtain ⟨j, ms2, rfl, hj, hot, hdx⟩ := hrel
        clear HD HO
        have Hj := Lib.hid hj
        have HO := Lib.hid hot
        have HD := Lib.hid hdx
        clear hj hot hdx
        by_cases hltj : j < ws.length
        · have how := HD.out.ow
          obtain ⟨g7, c7', e7, hg7, hg7l⟩ := how.form (by omega)
          injection e7 with e7 _ e8
          subst e7 e8
          obtain ⟨d0, d1, d2, d3⟩ := ownWt how rfl j hltj
          have hw := HT.out.2 ws[j] (List.getElem_mem hltj)
          have hw2 := HS.out.wt ws[j] (List.getElem_mem hltj)
          by_cases e : ws[j].tt = (i : Int)
          · have hraise := fun v b hv => HO.out.raise hltj e hlt HT.out.2 v b hv
            have Hr := Lib.hid hraise
            rw [e] at d1
            clear hraise e how
            generalize ws[j] = kk at *
            obtain ⟨f, t, mn, mx⟩ := kk
            simp only at d0 d1 d2 d3 hw hw2 Hr
            obtain ⟨hf0, hft, hmn0, hmn1⟩ := hw
            obtain ⟨f, rfl⟩ := Int.eq_ofNat_of_zero_le hf0
            have hfl : f < ms.length := by omega
            have hlen := HO.out.len
            have hom := HD.out.om
            rw [hlen] at hom
            obtain ⟨g6, c6', e7, hg6, hg6l⟩ := hom.form (by omega)
            injection e7 with e7 _ e8
            subst e7 e8
            have b0 := HO.out.bd f hfl
            have b1 := HO.out.bd i hlt
            have hlf : f < ms2.length := by omega
            have hli : i < ms2.length := by omega
            rw [tm_nat ms2 f hlf] at b0 Hr
            rw [tm_nat ms2 i hli] at b1 Hr
            have Hlen := Lib.hid hlen
            clear hlen hom
            go_upto_region 9 with fail
            have HD5 := Lib.hid (HD.out.grow ((Below.refl _ _).alloc (Nat.le_refl _) (.cells #[.int .i64 (f : Int), .int .i64 (i : Int), .int .i64 mn, .int .i64 mx] 35)))
            have HX5 := Lib.hid (Blk.new wr 35 #[.int .i64 (f : Int), .int .i64 (i : Int), .int .i64 mn, .int .i64 mx])
            clear d0 d1 d2 d3 HD
            have hxl := HX5.out.lt
            generalize wr.alloc (.cells #[.int .i64 (f : Int), .int .i64 (i : Int), .int .i64 mn, .int .i64 mx] 35) = w5 at *
            have x0 := HX5.out.cell 0
            have x2 := HX5.out.cell 2
            simp at x0 x2
            have hom := HD5.out.om
            rw [Hlen.out] at hom
            have m0 := (ownMom hom Hlen.out.symm f hlf).1
            have m1 := (ownMom hom Hlen.out.symm i hli).1
            have hg6l : g6 < w5.heap.size := (own_block hom g6 rfl).2
            clear hom
            generalize ms2[f].time = tf at *
            generalize ms2[i].time = ti at *
            refine wp_region_overT 17 (by kernel_rfl) (by kernel_rfl) ?_
            simp only [List.take_succ_cons, List.take_zero, List.drop_succ_cons, List.drop_zero]
            repeat (go_big_quiet_step ((fail)))
            refine wpQuiet_nil ?_
            intro w6 hb6
            have HD6 := Lib.hid (HD5.out.grow hb6)
            have hom := HD6.out.om
            rw [Hlen.out] at hom
            have m0 := (ownMom hom Hlen.out.symm i hli).1
            have fz := hom.frozenAt (i * 2)
            have HSet := Lib.hid (fun v => (show DX w (.slice (some ⟨g6, 0, none⟩) ms2.length c6) (.slice (some ⟨g7, 0, none⟩) ws.length c7) (.slice A8 ps.length c8) ms2 ws ps w6 by rw [Hlen.out]; exact HD6.out).setM i hli 0 (by omega) ⟨v, ms2[i].hold⟩ (.int .i64 v) rfl)
            clear hom
            go_wp2_with fail
            · go_roundg (ws.length - j - 1)
              case measure => have := Hj.out; omega
              case rel => exact ⟨j + 1, _, by first | rfl | go_num, by omega, Hr.out (tf + mn) ms2[i].hold ⟨by omega, by omega, .inr rfl⟩, by have := HSet.out (tf + mn); rw [Hlen.out] at this; exact this⟩
            · go_roundg (ws.length - j - 1)
              case measure => have := Hj.out; omega
              case rel => exact ⟨j + 1, _, by first | rfl | go_num, by omega, Hr.out ti ms2[i].hold ⟨by omega, by omega, .inl rfl⟩, by have := HSet.out ti; rw [Hlen.out] at this; exact this⟩
          · have Hs := Lib.hid (HO.out.skip hltj e)
            have e' : (ws[j].tt == (i : Int)) = false := by simpa using e
            have HD5 := Lib.hid (HD.out.grow ((Below.refl _ _).alloc (Nat.le_refl _) (.cells #[.int .i64 ws[j].fr, .int .i64 ws[j].tt, .int .i64 ws[j].mn, .int .i64 ws[j].mx] 35)))
            clear e how HD
            generalize ws[j] = kk at *
            obtain ⟨f, t, mn, mx⟩ := kk
            simp only at d0 d1 d2 d3 hw hw2 e' HD5
            go_wp2_with fail
            go_roundg (ws.length - j - 1)
            case measure => have := Hj.out; omega
            case rel => exact ⟨j + 1, _, by first | rfl | go_num, by omega, Hs.out, HD5.out⟩
        · have HO2 := Lib.hid (HO.out.next (show ws.length ≤ j by omega))
          clear Hj HO
          go_wp2_with fail
          go_roundg (ms.length - i - 1)
          case measure => have := Hi.out; omega
          case rel => exact ⟨i + 1, _, by first | rfl | go_num, by omega, HO2.out, HD.out⟩
    · obtain rfl : i = ms.length := by have := Hi.out; omega
      have hlen := HO.out.len
      have hsm : Small ms1 ws [] := ⟨by omega, by omega, HS.out.nw, by simp, fun x hx => by
        obtain ⟨y, hy, rfl⟩ := List.getElem_of_mem hx
        have := HO.out.bd y (by omega)
        rw [tm_nat ms1 y hy] at this
        omega, fun k hk => by have := HS.out.wt k hk; omega, by simp, fun d hd => by simp at hd⟩
      have hwt : ∀ k ∈ ws, 0 ≤ k.fr ∧ k.fr < k.tt ∧ k.tt < (ms1.length : Int) ∧ -1 ≤ k.mx := fun k hk => by have := HS.out.wt k hk; omega
      have htt : ∀ k ∈ ws, tm ms1 k.fr + k.mn ≤ tm ms1 k.tt := fun k hk => HO.out.lo k hk (by have := HS.out.wt k hk; omega)
      have HW := Lib.hid (And.intro hwt htt)
      clear HS HO Hi HT hwt htt
      have HS := Lib.hid hsm
      have Hlen := Lib.hid hlen
      have HRD := Lib.hid (And.intro (Rd.of_own (show wr.ownsRow (w.heap.size + 1) 33 2 (.slice A6 ms.length c6) ms.length (ms1.flatMap Mom.cells) by have := HD.out.om; rw [hlen] at this; exact this)) (Rd.of_own HD.out.ow))
      have Hb1 := Lib.hid HD.out.bel
      clear hsm hlen HD
      go_wp2_with fail
      refine (propa_any _ _ _ _ _ _ _ _ _ ms1 ws [] wr HRD.out.1 HRD.out.2 (Rd.empty _ _ _) Hlen.out.symm rfl rfl (by rw [Hlen.out]; omega) (by omega) (by simp)).mono ?_
      rintro e w2 ⟨hb2, hcase⟩
      rcases hcase with ⟨hv, vs, vk, base, sec, kept, rfl, hsol, hos, hok⟩ | ⟨hv, rfl⟩
      case inr => exact absurd HS.out.valid hv
      have Hls := Lib.hid (hsol.ls.trans Hlen.out)
      have Hlk := Lib.hid hsol.lk
      rw [Hlen.out] at hos
      obtain ⟨As, cs, rfl, hcs, hms⟩ := own_slice hos
      obtain ⟨Ak, ck, rfl, hck, hmk⟩ := own_slice hok
      have HR := Lib.hid (And.intro ((HRD.out.1.grow hb2).more hb2.size) (And.intro (Rd.of_own hos) (Rd.of_own hok)))
      have Hsol := Lib.hid hsol
      have Hb2 := Lib.hid (Hb1.out.trans (hb2.mono Hb1.out.size))
      clear hv hsol hos hok hb2 HRD Hb1
      unfold maxLen at hms hmk
      have n1 : ((ms.length : Int) != (ms.length : Int)) = false := by simp
      have n2 : ((ws.length : Int) != (ws.length : Int)) = false := by simp
      go_wp2_with fail
      clear n1 n2
      go_loopg [12, 82] ms.length (fun k _ v wr => LoopB w2 ms.length k v wr)
      case atStart => exact ⟨0, rfl, by omega, Below.refl _ _⟩
      case round =>
        obtain ⟨i, rfl, hi, hbr⟩ := hrel
        have Hi := Lib.hid hi
        have Hbr := Lib.hid hbr
        clear hi hbr hlt
        by_cases hlt : i < ms.length
        · have hlt1 : i < ms1.length := by have := Hlen.out; omega
          have hlts : i < sec.length := by have := Hls.out; omega
          obtain ⟨bm, om, rfl, hbm, m0, m1⟩ := rdMom (HR.out.1.grow Hbr.out) Hlen.out.symm i hlt1
          obtain ⟨bs, os, rfl, hbs, s0⟩ := rd1 (HR.out.2.1.grow Hbr.out) i hlts
          have h1 := ontime_ok Hsol.out HW.out.1 HW.out.2 i i rfl (by omega)
          have h2 := ontime_hold Hsol.out i (by omega) (by omega)
          rw [gi_nat sec i hlts, tm_nat ms1 i hlt1] at h1 h2
          rw [hd_nat ms1 i hlt1] at h2
          generalize sec[i] = sv at *
          generalize ms1[i] = mi at *
          obtain ⟨tv, hv⟩ := mi
          simp only at m0 m1 h1 h2
          have hd1 : decide (tv < sv) = false := by simpa using h1
          cases hv
          · clear h2
            go_upto_region 18 with fail
            go_quiet (fail)
            go_wp2_with fail
            go_roundg (ms.length - i - 1)
            case measure => have := Hi.out; omega
            case rel => exact ⟨i + 1, by first | rfl | go_num, by omega, below_drewN Hbr.out _⟩
          · have h3 : (sv != tv) = false := by have := h2 rfl; simp; omega
            clear h2
            go_upto_region 18 with fail
            go_quiet (fail)
            go_wp2_with fail
            go_roundg (ms.length - i - 1)
            case measure => have := Hi.out; omega
            case rel => exact ⟨i + 1, by first | rfl | go_num, by omega, below_drewN Hbr.out _⟩
        · clear Hi
          go_wp2_with fail
          go_loopg [14, 117] ws.length (fun k _ v wr => LoopB w2 ws.length k v wr)
          case atStart => exact ⟨0, rfl, by omega, Hbr.out⟩
          case round =>
            clear Hbr hlt
            obtain ⟨a, rfl, ha, hbr⟩ := hrel
            have Ha := Lib.hid ha
            have Hbr := Lib.hid hbr
            clear ha hbr
            by_cases hlt : a < ws.length
            · have hlk : a < kept.length := by have := Hlk.out; omega
              obtain ⟨bk, ok, rfl, hbk, k0⟩ := rd1 (HR.out.2.2.grow Hbr.out) a hlk
              rw [ontime_kept Hsol.out HW.out.1 HW.out.2 kept[a] (List.getElem_mem hlk)] at k0
              go_wp2_with fail
              go_roundg (ws.length - a - 1)
              case measure => have := Ha.out; omega
              case rel => exact ⟨a + 1, by first | rfl | go_num, by omega, (by have hbelh := Hbr.out; have hbels := hbelh.size; exact (by repeat (first | exact Below.refl _ _ | (with_reducible refine Below.drew ?_) | (with_reducible refine below_drewN ?_ _) | (with_reducible refine Below.alloc ?_ (by first | omega | (simp; done) | (simp; omega)) _) | (with_reducible refine Below.setCell ?_ (by first | omega | (simp; done) | (simp; omega)) _) | (refine Below.trans ?_ (Below.mono (by with_reducible assumption) (by first | omega | (simp; done) | (simp; omega)))))))⟩
            · go_wp2_with fail
              refine (awake_any _).mono ?_
              rintro e w3 ⟨rfl, hb3⟩
              go_wp2_with fail
              go_ret
              exact ⟨rfl, Hb2.out.trans ((Hbr.out.trans (hb3.mono Hbr.out.size)).mono Hb2.out.size)⟩
end Go.Proofs.Ytddkfdfgfkejoaa
