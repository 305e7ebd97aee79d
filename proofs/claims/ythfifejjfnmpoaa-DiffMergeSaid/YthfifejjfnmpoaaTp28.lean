import Derived.Test.YthfifejjfnmpoaaTp27
import Derived.Test.YthfifejjfnmpoaaTp24
namespace Go.Proofs.Ythfifejjfnmpoaa
open Go.RowKit
set_option maxRecDepth 100000 in
set_option maxHeartbeats 12800000 in
theorem rmerge_any (A B C : Option Addr) (c0 ca cb : Nat) (xs as_ bs : List CT) (w : World) (h0 : TL w A c0 xs) (ha : TL w B ca as_) (hb : TL w C cb bs) :
    Calls Try.prog 30 #[.slice A xs.length c0, .slice B as_.length ca, .slice C bs.length cb] w (MgOut (xs.map CT.pt) (as_.map CT.pt) (bs.map CT.pt) w) := by
  have HX := Lib.hid h0
  have HA := Lib.hid ha
  have HB := Lib.hid hb
  clear h0 ha hb
  obtain ⟨iE, b1, b2, b3, b4⟩ := info_parts infoEd
  have HIE := Lib.hid (And.intro b1 (And.intro b2 (And.intro b3 b4)))
  clear b1 b2 b3 b4
  go_enter Try.func30, Try.ntmps30
  go_wp2_with fail
  refine (rcheck_any A c0 xs w HX.out).mono ?_
  rintro e w1 ⟨rfl, hb1⟩
  have HB1 := Lib.hid hb1
  clear hb1
  by_cases h1 : chkT (xs.map CT.pt) = true
  case neg =>
    have HM := Lib.hid (show mgV (xs.map CT.pt) (as_.map CT.pt) (bs.map CT.pt) = (1, [], []) by unfold mgV; rw [if_neg (fun h => h1 h.1)])
    rw [Bool.not_eq_true] at h1
    rw [h1]
    go_wp2_with fail
    go_ret3
    exact ⟨none, none, 0, 0, [], [], by rw [HM.out]; rfl, TLO.nil _, EL.nil _, by rw [HM.out]; rfl, by rw [HM.out]; rfl, HB1.out⟩
  have HC1 := Lib.hid h1
  rw [h1]
  clear h1
  go_wp2_with fail
  refine (rcheck_any B ca as_ w1 (HA.out.go HB1.out)).mono ?_
  rintro e w2 ⟨rfl, hb2⟩
  have HB2 := Lib.hid (HB1.out.trans (hb2.mono HB1.out.size))
  clear hb2 HB1
  by_cases h1 : chkT (as_.map CT.pt) = true
  case neg =>
    have HM := Lib.hid (show mgV (xs.map CT.pt) (as_.map CT.pt) (bs.map CT.pt) = (1, [], []) by unfold mgV; rw [if_neg (fun h => h1 h.2.1)])
    rw [Bool.not_eq_true] at h1
    rw [h1]
    go_wp2_with fail
    go_ret3
    exact ⟨none, none, 0, 0, [], [], by rw [HM.out]; rfl, TLO.nil _, EL.nil _, by rw [HM.out]; rfl, by rw [HM.out]; rfl, HB2.out⟩
  have HC2 := Lib.hid h1
  rw [h1]
  clear h1
  go_wp2_with fail
  refine (rcheck_any C cb bs w2 (HB.out.go HB2.out)).mono ?_
  rintro e w3 ⟨rfl, hb3⟩
  have HB3 := Lib.hid (HB2.out.trans (hb3.mono HB2.out.size))
  clear hb3 HB2
  by_cases h1 : chkT (bs.map CT.pt) = true
  case neg =>
    have HM := Lib.hid (show mgV (xs.map CT.pt) (as_.map CT.pt) (bs.map CT.pt) = (1, [], []) by unfold mgV; rw [if_neg (fun h => h1 h.2.2)])
    rw [Bool.not_eq_true] at h1
    rw [h1]
    go_wp2_with fail
    go_ret3
    exact ⟨none, none, 0, 0, [], [], by rw [HM.out]; rfl, TLO.nil _, EL.nil _, by rw [HM.out]; rfl, by rw [HM.out]; rfl, HB3.out⟩
  have HC3 := Lib.hid h1
  rw [h1]
  clear h1
  go_wp2_with fail
  refine (rdiff_any A B c0 ca xs as_ w3 (HX.out.go HB3.out) (HA.out.go HB3.out)).mono ?_
  rintro e w4 ⟨A1, c1, es, rfl, ho1, hv1, hl1, hb4⟩
  have HE1 := Lib.hid (ho1.el (by omega))
  have HF := Lib.hid (hv1.trans (dfV_ok ⟨HC1.out, HC2.out⟩))
  have HK1 := Lib.hid (dfV_key ⟨HC1.out, HC2.out⟩ HF.out)
  have HAO := Lib.hid (own_at0 ho1.o)
  have HB4 := Lib.hid (HB3.out.trans (hb4.mono HB3.out.size))
  rw [dfC_ok ⟨HC1.out, HC2.out⟩]
  clear ho1 hv1 hb4 HB3
  go_wp2_with fail
  refine (rdiff_any A C c0 cb xs bs w4 (HX.out.go HB4.out) (HB.out.go HB4.out)).mono ?_
  rintro e w5 ⟨A2, c2, fs, rfl, ho2, hv2, hl2, hb5⟩
  have HE2 := Lib.hid (ho2.el (by omega))
  have HG := Lib.hid (hv2.trans (dfV_ok ⟨HC1.out, HC3.out⟩))
  have HK2 := Lib.hid (dfV_key ⟨HC1.out, HC3.out⟩ HG.out)
  have HB5 := Lib.hid (HB4.out.trans (hb5.mono HB4.out.size))
  have HE15 := Lib.hid (HE1.out.go hb5)
  rw [dfC_ok ⟨HC1.out, HC3.out⟩]
  clear ho2 hv2 hb5 HE1 HB4
  have HAE := Lib.hid (show AscE (es.map CE.pe) by rw [HF.out]; exact asc_diffM _ _ (chkT_iff.1 HC1.out).2.2 (chkT_iff.1 HC2.out).2.2)
  have HAF := Lib.hid (show AscE (fs.map CE.pe) by rw [HG.out]; exact asc_diffM _ _ (chkT_iff.1 HC1.out).2.2 (chkT_iff.1 HC3.out).2.2)
  have HM := Lib.hid (show mgV (xs.map CT.pt) (as_.map CT.pt) (bs.map CT.pt) = if (apV (xs.map CT.pt) (mgM (es.map CE.pe) (fs.map CE.pe)).1).1 = 0 then (0, (apV (xs.map CT.pt) (mgM (es.map CE.pe) (fs.map CE.pe)).1).2, (mgM (es.map CE.pe) (fs.map CE.pe)).2) else ((apV (xs.map CT.pt) (mgM (es.map CE.pe) (fs.map CE.pe)).1).1, [], []) by
    unfold mgV; rw [if_pos ⟨HC1.out, HC2.out, HC3.out⟩, HF.out, HG.out])
  clear HF HG HC1 HC2 HC3 HA HB
  have hw5 := HB5.out.size
  go_upto_region 7 with fail
  go_upto_region 8 with (at_builtin; refine wpList_append_any rfl _ _ 33 rfl w5.heap.size 40 iE _ 9 136 Try.underlying33 HIE.out.1 HIE.out.2.1 HIE.out.2.2.1 HIE.out.2.2.2 rfl (by omega) (.slice none 0 0) 0 [] rfl (World.ownsRow_nil _ _ _ _) A1 es.length _ w5.heap.size (es.flatMap CE.cells) rfl HE15.out.nl HE15.out.r (es_one _) ?r1 ?r2 (Nat.le_refl _) ?_; rotate_right; intro v1 w6 ho1 hg1 hat1)
  case r1 => simp only [maxLen]; omega
  case r2 => omega
  rw [Nat.zero_add, List.nil_append] at ho1
  have hb1 : Below w5.heap.size w5 w6 := Below.grown (Below.refl _ _) hg1 (Nat.le_refl _) (fun k hk => by simp [Value.ownBlock] at hk)
  have HS6 := Lib.hid (show RdS w5 w6 v1 es es.length from ⟨⟨ho1, fun t ht => (HE15.out.m t ht).kp (Kp.bel hb1)⟩, HK1.out, Nat.le_refl _, hb1⟩)
  clear ho1 hg1 hat1 hb1
  obtain ⟨Am, cm, rfl⟩ := HS6.out.o.sl
  go_wp2_with fail
  go_loopg [13, 15, 17, 18, 19, 21, 55] fs.length (fun k v13 v15 _ _ _ _ v wr => RmL w5 (es.map CE.pe) (fs.map CE.pe) k v13 v15 v wr)
  case atStart => exact ⟨0, es, [], rfl, by simp, HAE.out, fun e => by simp, by simp, by simpa using HS6.out, ⟨EO.nil _ _, by simp, HS6.out.b⟩, .inl rfl⟩
  case round =>
    clear HS6
    obtain ⟨j, ms, cs, rfl, hj, hma, hmm, hcf, hsm, hsc, hap⟩ := hrel
    simp only [List.length_map] at hj
    have Hj := Lib.hid hj
    have HMA := Lib.hid hma
    have HMM := Lib.hid hmm
    have HCF := Lib.hid hcf
    have HS := Lib.hid hsm
    have HC := Lib.hid hsc
    have HAP := Lib.hid hap
    clear hj hma hmm hcf hsm hsc hap
    obtain ⟨Am, cm, rfl⟩ := HS.out.o.sl
    obtain ⟨Ac, cc, rfl⟩ := HC.out.o.sl
    by_cases hlt : j < fs.length
    · obtain ⟨bb, off, rfl, hbb, d0, d1, d2, d3, d4, d5, d6, d7, d8⟩ := rdE (HE2.out.r.grow HS.out.b) rfl j hlt
      have HTM := Lib.hid ((HE2.out.m _ (List.getElem_mem hlt)).kp (Kp.bel HS.out.b)).top
      have HTW := Lib.hid ((HE2.out.m _ (List.getElem_mem hlt)).kp (Kp.bel HS.out.b))
      have ht1 := HK2.out _ (List.getElem_mem hlt)
      have HXJ := Lib.hid (show (fs.map CE.pe)[j]'(by simpa using hlt) = (fs[j]).pe by simp)
      generalize fs[j] = t at *
      go_upto_region 11 with fail
      refine world_gen (fun w7 => Blk w7 wr.heap.size 40 #[.int .i64 (t).k, .int .i64 (t).o.ln, .int .i64 (t).o.dy, .slice (t).o.Ad (t).o.dep.length (t).o.cd, .slice (t).o.Aa (t).o.arr.length (t).o.ca, .int .i64 (t).n.ln, .int .i64 (t).n.dy, .slice (t).n.Ad (t).n.dep.length (t).n.cd, .slice (t).n.Aa (t).n.arr.length (t).n.ca] ∧ Below wr.heap.size wr w7) ⟨Blk.new wr _ _, (by repeat (first | exact Below.refl _ _ | (with_reducible refine Below.drew ?_) | (with_reducible refine below_drewN ?_ _) | (with_reducible refine Below.alloc ?_ (by first | omega | (simp; done) | (simp; omega)) _) | (with_reducible refine Below.setCell ?_ (by first | omega | (simp; done) | (simp; omega)) _) | (refine Below.trans ?_ (Below.mono (by with_reducible assumption) (by first | omega | (simp; done) | (simp; omega))))))⟩ ?_
      rintro w7 ⟨hx7, hb7⟩
      have HX7 := Lib.hid hx7
      have HB7 := Lib.hid (HS.out.b.trans (hb7.mono HS.out.b.size))
      clear d0 d1 d2 d3 d4 d5 d6 d7 d8 hx7
      have hcl : es.length ≤ c1 := HE15.out.le
      have hcl2 : (es.length : Int) ≤ (c1 : Int) := by omega
      go_upto_region 12 with fail
      go_wp2_with fail
      clear hcl hcl2
      go_loopg [18, 19, 21, 63] es.length (fun k v18 v19 _ v wx => RmI w7 (es.map CE.pe) t wr.heap.size k v18 v19 v wx)
      case atStart => exact ⟨0, rfl, by simp, by simp [smB, findE], by simp [clashB, findE], HX7.out, Below.refl _ _⟩
      case round =>
        obtain ⟨q, rfl, hq, rfl, rfl, hx, hbx⟩ := hrel
        rename World => wx
        simp only [List.length_map] at hq
        have Hq := Lib.hid hq
        have HXX := Lib.hid hx
        have HBX := Lib.hid hbx
        clear hq hx hbx
        have x0 := HXX.out.cell 0
        have x1 := HXX.out.cell 1
        have x2 := HXX.out.cell 2
        have x3 := HXX.out.cell 3
        have x4 := HXX.out.cell 4
        have x5 := HXX.out.cell 5
        have x6 := HXX.out.cell 6
        have x7 := HXX.out.cell 7
        have x8 := HXX.out.cell 8
        simp at x0 x1 x2 x3 x4 x5 x6 x7 x8
        have hxl := HXX.out.lt
        have HS8 := Lib.hid (HS.out.bel (hb7.trans (HBX.out.mono hb7.size)))
        by_cases hqt : q < es.length
        · obtain ⟨ba, oa, hAe, hba, d0, d1, d2, d3, d4, d5, d6, d7, d8⟩ := rdE (HE15.out.r.grow HS8.out.b) rfl q hqt
          cases hAe
          have HUM := Lib.hid ((HE15.out.m _ (List.getElem_mem hqt)).kp (Kp.bel HS8.out.b)).top
          have hu1 := HK1.out _ (List.getElem_mem hqt)
          have HST := Lib.hid (smB_step HAE.out (x := t.pe) (q := q) (by simpa using hqt))
          rw [List.getElem_map] at HST
          generalize es[q] = u at *
          have HTX := Lib.hid (HTM.out.go (hb7.trans (HBX.out.mono hb7.size)))
          go_upto_region 15 with fail
          refine world_gen (fun w8 => Blk w8 wx.heap.size 40 #[.int .i64 (u).k, .int .i64 (u).o.ln, .int .i64 (u).o.dy, .slice (u).o.Ad (u).o.dep.length (u).o.cd, .slice (u).o.Aa (u).o.arr.length (u).o.ca, .int .i64 (u).n.ln, .int .i64 (u).n.dy, .slice (u).n.Ad (u).n.dep.length (u).n.cd, .slice (u).n.Aa (u).n.arr.length (u).n.ca] ∧ Below wx.heap.size wx w8) ⟨Blk.new wx _ _, (by repeat (first | exact Below.refl _ _ | (with_reducible refine Below.drew ?_) | (with_reducible refine below_drewN ?_ _) | (with_reducible refine Below.alloc ?_ (by first | omega | (simp; done) | (simp; omega)) _) | (with_reducible refine Below.setCell ?_ (by first | omega | (simp; done) | (simp; omega)) _) | (refine Below.trans ?_ (Below.mono (by with_reducible assumption) (by first | omega | (simp; done) | (simp; omega))))))⟩ ?_
          rintro w8 ⟨hy8, hb8⟩
          have HB8 := Lib.hid (HBX.out.trans (hb8.mono HBX.out.size))
          have HX8 := Lib.hid (HXX.out.bel hb8)
          have HY8 := Lib.hid hy8
          have HT8 := Lib.hid (HTX.out.go hb8)
          have HU8 := Lib.hid (HUM.out.go hb8)
          clear x0 x1 x2 x3 x4 x5 x6 x7 x8 hxl d0 d1 d2 d3 d4 d5 d6 d7 d8 hb8 HXX HBX hy8 HTX HUM HS8
          have x0 := HX8.out.cell 0
          have x1 := HX8.out.cell 1
          have x2 := HX8.out.cell 2
          have x3 := HX8.out.cell 3
          have x4 := HX8.out.cell 4
          have x5 := HX8.out.cell 5
          have x6 := HX8.out.cell 6
          have x7 := HX8.out.cell 7
          have x8 := HX8.out.cell 8
          simp at x0 x1 x2 x3 x4 x5 x6 x7 x8
          have hxl := HX8.out.lt
          have y0 := HY8.out.cell 0
          have y1 := HY8.out.cell 1
          have y2 := HY8.out.cell 2
          have y3 := HY8.out.cell 3
          have y4 := HY8.out.cell 4
          have y5 := HY8.out.cell 5
          have y6 := HY8.out.cell 6
          have y7 := HY8.out.cell 7
          have y8 := HY8.out.cell 8
          simp at y0 y1 y2 y3 y4 y5 y6 y7 y8
          have hyl := HY8.out.lt
          have HCM : Hid (∀ W, Below w8.heap.size w8 W → Calls Try.prog 36 #[.agg #[.int .i64 (keyC t).ln, .int .i64 (keyC t).dy, .slice (keyC t).Ad (keyC t).dep.length (keyC t).cd, .slice (keyC t).Aa (keyC t).arr.length (keyC t).ca], .agg #[.int .i64 (keyC u).ln, .int .i64 (keyC u).dy, .slice (keyC u).Ad (keyC u).dep.length (keyC u).cd, .slice (keyC u).Aa (keyC u).arr.length (keyC u).ca]] W fun e w' => e = .returned (.int .i64 (cmpV (keyE t.pe) (keyE u.pe))) ∧ Below W.heap.size W w') := fun W hW => by
            rw [← keyC_pt, ← keyC_pt]
            exact ord_any (keyC t) (keyC u) W (keyC_tm (HT8.out.go hW)) (keyC_tm (HU8.out.go hW)) ht1 hu1
          have HQ := Lib.hid (cmpV_eq (a := keyE t.pe) (b := keyE u.pe))
          generalize cmpV (keyE t.pe) (keyE u.pe) = cv at *
          have HKA := Lib.hid (fun W => rkey_any t W)
          have HKB := Lib.hid (fun W => rkey_any u W)
          generalize hkt : keyC t = kt at HCM HKA
          generalize hku : keyC u = ku at HCM HKB
          clear hkt hku
          by_cases hc : cv = 0
          · have hc2 : (cv == 0) = true := by simp [hc]
            have heq := HQ.out.1 hc
            rw [if_pos heq, if_pos heq] at HST
            clear heq hc HQ
            refine wp_region_overL (by kernel_rfl) (by kernel_rfl) ?_
            repeat (go_big_quiet_step (first | (go_at_call 47; with_reducible exact callsOver (HKA.out _)) | (go_at_call 47; with_reducible exact callsOver (HKB.out _)) | (go_at_call 36; exact callsOver (HCM.out _ (over_below _ _)))))
            refine wpQuiet_nil ?_
            intro w9 hb9
            have HB9 := Lib.hid (HB8.out.trans (hb9.mono HB8.out.size))
            have HX9 := Lib.hid (HX8.out.bel hb9)
            have HY9 := Lib.hid (HY8.out.bel hb9)
            have HT9 := Lib.hid (HT8.out.go hb9)
            have HU9 := Lib.hid (HU8.out.go hb9)
            clear hb9 x0 x1 x2 x3 x4 x5 x6 x7 x8 hxl y0 y1 y2 y3 y4 y5 y6 y7 y8 hyl HB8 HX8 HY8 HT8 HU8 HKA HKB HCM
            have x0 := HX9.out.cell 0
            have x1 := HX9.out.cell 1
            have x2 := HX9.out.cell 2
            have x3 := HX9.out.cell 3
            have x4 := HX9.out.cell 4
            have x5 := HX9.out.cell 5
            have x6 := HX9.out.cell 6
            have x7 := HX9.out.cell 7
            have x8 := HX9.out.cell 8
            simp at x0 x1 x2 x3 x4 x5 x6 x7 x8
            have hxl := HX9.out.lt
            have y0 := HY9.out.cell 0
            have y1 := HY9.out.cell 1
            have y2 := HY9.out.cell 2
            have y3 := HY9.out.cell 3
            have y4 := HY9.out.cell 4
            have y5 := HY9.out.cell 5
            have y6 := HY9.out.cell 6
            have y7 := HY9.out.cell 7
            have y8 := HY9.out.cell 8
            simp at y0 y1 y2 y3 y4 y5 y6 y7 y8
            have hyl := HY9.out.lt
            go_wp2_with fail
            refine (rsm_any t u w9 HT9.out HU9.out).mono ?_
            rintro e wz ⟨rfl, hbz⟩
            have HXz := Lib.hid (HX9.out.bel hbz)
            have HBz := Lib.hid (HB9.out.trans (hbz.mono HB9.out.size))
            clear hbz x0 x1 x2 x3 x4 x5 x6 x7 x8 hxl y0 y1 y2 y3 y4 y5 y6 y7 y8 hyl
            rw [← HST.out.1]
            have HCE := Lib.hid (show (!smB ((es.map CE.pe).take (q + 1)) t.pe) = clashB ((es.map CE.pe).take (q + 1)) t.pe by rw [HST.out.1, HST.out.2])
            generalize hsv : smB ((es.map CE.pe).take (q + 1)) t.pe = sv at *
            have HSV := Lib.hid hsv
            clear hsv
            go_wp2_with fail
            go_roundg (es.length - q - 1)
            case measure => have := Hq.out; omega
            case rel => exact ⟨q + 1, by first | rfl | go_num, by simp; have := Hq.out; omega, by rw [HSV.out], by rw [HCE.out], HXz.out, HBz.out⟩
          · have hc2 : (cv == 0) = false := by simp [hc]
            have heq : ¬ eqK (keyE t.pe) (keyE u.pe) := fun h => hc (HQ.out.2 h)
            rw [if_neg heq, if_neg heq] at HST
            clear heq hc HQ
            refine wp_region_overL (by kernel_rfl) (by kernel_rfl) ?_
            repeat (go_big_quiet_step (first | (go_at_call 47; with_reducible exact callsOver (HKA.out _)) | (go_at_call 47; with_reducible exact callsOver (HKB.out _)) | (go_at_call 36; exact callsOver (HCM.out _ (over_below _ _)))))
            refine wpQuiet_nil ?_
            intro w9 hb9
            have HB9 := Lib.hid (HB8.out.trans (hb9.mono HB8.out.size))
            have HX9 := Lib.hid (HX8.out.bel hb9)
            have HY9 := Lib.hid (HY8.out.bel hb9)
            have HT9 := Lib.hid (HT8.out.go hb9)
            have HU9 := Lib.hid (HU8.out.go hb9)
            clear hb9 x0 x1 x2 x3 x4 x5 x6 x7 x8 hxl y0 y1 y2 y3 y4 y5 y6 y7 y8 hyl HB8 HX8 HY8 HT8 HU8 HKA HKB HCM
            go_wp2_with fail
            go_roundg (es.length - q - 1)
            case measure => have := Hq.out; omega
            case rel => exact ⟨q + 1, by first | rfl | go_num, by simp; have := Hq.out; omega, by rw [HST.out.1], by rw [HST.out.2], HX9.out, HB9.out⟩
        · have hTE : (es.map CE.pe).take q = es.map CE.pe := List.take_of_length_le (by simp; omega)
          rw [hTE]
          have HTX := Lib.hid (HTW.out.kp (Kp.bel (hb7.trans (HBX.out.mono hb7.size))))
          have HC8 := Lib.hid (HC.out.bel (hb7.trans (HBX.out.mono hb7.size)))
          have hjl : j < (fs.map CE.pe).length := by simpa using hlt
          have hwx : wr.heap.size ≤ wx.heap.size := Nat.le_trans hb7.size HBX.out.size
          have hms := HS8.out.n
          have hcs := HC8.out.n
          have hwl := HS8.out.b.size
          simp only [List.length_map] at hms
          have hjf : j ≤ fs.length := by omega
          clear hTE HX7 HB7 HTM HXX HBX Hq
          rcases smB_three (es.map CE.pe) t.pe with ⟨h1, h2, h3⟩ | ⟨h2, h3, h1⟩ | ⟨h2, h3, h1⟩
          · rw [h2, h3]
            have HN := Lib.hid (rm_none HAF.out hjl HXJ.out HMA.out HMM.out h1)
            have HFI := Lib.hid (show ∀ l : List PE, l = ((fs.map CE.pe).take j).filter (clashB (es.map CE.pe)) → l = ((fs.map CE.pe).take (j + 1)).filter (clashB (es.map CE.pe)) from fun l hl => by rw [rm_filter hjl HXJ.out, h3, hl]; simp)
            clear h1 h2 h3
            go_wp2_with fail
            refine (ins_any Am cm ms t wx (HS8.out.o.el (by omega)) HTX.out.top HS8.out.k ht1 (by omega) (own_at0 HS8.out.o.o)).mono ?_
            rintro e w9 ⟨A9, c9, k9, hk9, rfl, ho9, hp9, hb9⟩
            have HAP9 := Lib.hid (ap_new HC.out.o.o ho9 hwx)
            have HS9 := Lib.hid (HS8.out.ins (x := t) HTX.out ht1 hb9 hk9 ho9)
            have HC9 := Lib.hid (HC8.out.bel hb9)
            have HP9 := Lib.hid hp9
            clear ho9 hp9 hb9 x0 x1 x2 x3 x4 x5 x6 x7 x8 hxl HS8 HC8
            go_wp2_with fail
            go_roundg (fs.length - j - 1)
            case measure => have := Hj.out; omega
            case rel => exact ⟨j + 1, _, cs, by first | rfl | go_num, by simp; have := Hj.out; omega, by rw [HP9.out]; exact HN.out.1, by rw [HP9.out]; exact HN.out.2, HFI.out _ HCF.out, HS9.out, HC9.out.more (by omega), HAP9.out⟩
          · rw [h2, h3]
            have HMM9 := Lib.hid (rm_some hjl HXJ.out HMM.out h1)
            have HFI := Lib.hid (show ∀ l : List PE, l = ((fs.map CE.pe).take j).filter (clashB (es.map CE.pe)) → l = ((fs.map CE.pe).take (j + 1)).filter (clashB (es.map CE.pe)) from fun l hl => by rw [rm_filter hjl HXJ.out, h3, hl]; simp)
            clear h1 h2 h3
            go_wp2_with fail
            go_roundg (fs.length - j - 1)
            case measure => have := Hj.out; omega
            case rel => exact ⟨j + 1, ms, cs, by first | rfl | go_num, by simp; have := Hj.out; omega, HMA.out, HMM9.out, HFI.out _ HCF.out, RdS.of (HS8.out.sds.more (by omega)) HS8.out.k, HC8.out.more (by omega), HAP.out⟩
          · rw [h2, h3]
            have HMM9 := Lib.hid (rm_some hjl HXJ.out HMM.out h1)
            have HFI := Lib.hid (show ∀ l : List PE, l = ((fs.map CE.pe).take j).filter (clashB (es.map CE.pe)) → l ++ [t.pe] = ((fs.map CE.pe).take (j + 1)).filter (clashB (es.map CE.pe)) from fun l hl => by rw [rm_filter hjl HXJ.out, h3, hl]; simp)
            clear h1 h2 h3
            go_upto_region 23 with (at_builtin; refine wpList_append_own_at _ rfl _ _ 33 rfl (w5.heap.size) 40 iE _ 9 136 Try.underlying33 HIE.out.1 HIE.out.2.1 HIE.out.2.2.1 HIE.out.2.2.2 rfl (by omega) _ (cs.length) _ rfl (World.ownsRow.alloc HC8.out.o.o _) ⟨(wx).heap.size, 0, none⟩ 1 1 (CE.cells t) rfl rfl ?c0 ?c1 ?c2 ?c3 ?c4 ?_; rotate_right; intro v' w' hown' hg' _ hat')
            case c0 => first | exact news_new _ _ (CE.cells t) | exact fun _ _ h => h
            case c1 => exact CE.one _
            case c2 => simp only [maxLen]; omega
            case c3 => omega
            case c4 => first | omega | (simp; omega)
            have HC9 := Lib.hid (HC8.out.app (x := t) HTX.out hown' hg')
            have HS9 := Lib.hid (RdS.of (HS8.out.sds.keep HC8.out.o.o hg' HAP.out) HS8.out.k)
            have HAP9 := Lib.hid (app_ap HC8.out.o.o HS8.out.o.o HAP.out hat')
            have HCF9 := Lib.hid (show (cs ++ [t]).map CE.pe = ((fs.map CE.pe).take (j + 1)).filter (clashB (es.map CE.pe)) by
              rw [List.map_append]
              exact HFI.out _ HCF.out)
            clear hown' hg' hat' x0 x1 x2 x3 x4 x5 x6 x7 x8 hxl HS8 HC8
            go_wp2_with fail
            go_roundg (fs.length - j - 1)
            case measure => have := Hj.out; omega
            case rel => exact ⟨j + 1, ms, cs ++ [t], by first | rfl | go_num, by simp; have := Hj.out; omega, HMA.out, HMM9.out, HCF9.out, RdS.of (HS9.out.sds.more (by omega)) HS9.out.k, HC9.out, HAP9.out⟩
    · have hje : j = fs.length := by have := Hj.out; omega
      have hall : (fs.map CE.pe).take j = fs.map CE.pe := List.take_of_length_le (by simp; omega)
      rw [hall] at HMM HCF
      obtain ⟨m1, m2, m3⟩ := mg_spec (es.map CE.pe) (fs.map CE.pe) HAE.out HAF.out
      have HPF := Lib.hid (show ms.map CE.pe = (mgM (es.map CE.pe) (fs.map CE.pe)).1 from sorted_ext HMA.out m2 (fun e => (HMM.out e).trans (m3 e).symm))
      have HCF2 := Lib.hid (show cs.map CE.pe = (mgM (es.map CE.pe) (fs.map CE.pe)).2 from HCF.out.trans m1.symm)
      have hms := HS.out.n
      have hcs := HC.out.n
      simp only [List.length_map] at hms
      have hjf : j ≤ fs.length := by omega
      have HEP := Lib.hid (HS.out.o.el (by omega))
      have HEC := Lib.hid (HC.out.o.el (by omega))
      have HBR := Lib.hid (HB5.out.trans (HS.out.b.mono HB5.out.size))
      clear hje hall m1 m2 m3 HMM HCF HMA HS HC HAP
      generalize (mgM (es.map CE.pe) (fs.map CE.pe)).1 = T1 at *
      generalize (mgM (es.map CE.pe) (fs.map CE.pe)).2 = T2 at *
      go_wp2_with fail
      refine (rapp_any A Am c0 cm xs ms wr (HX.out.go HBR.out) HEP.out).mono ?_
      rintro e w7 ⟨A7, c7, ts, rfl, ht7, hm7, hb7⟩
      rw [HPF.out] at hm7 ⊢
      have HT7 := Lib.hid ht7
      have HM7 := Lib.hid hm7
      have HEC7 := Lib.hid (HEC.out.go hb7)
      have HB7 := Lib.hid (HBR.out.trans (hb7.mono HBR.out.size))
      clear ht7 hm7 hb7 HEP HEC HBR
      generalize hr : apV (xs.map CT.pt) T1 = r at *
      clear hr
      by_cases hz : r.1 = 0
      · have HMM := Lib.hid (HM.out.trans (if_pos hz))
        rw [hz]
        clear hz
        go_wp2_with fail
        go_ret3
        exact ⟨A7, Ac, c7, cc, ts, cs, by rw [HMM.out]; rfl, HT7.out, HEC7.out, by rw [HMM.out]; exact HM7.out, by rw [HMM.out]; exact HCF2.out, HB7.out⟩
      · have HMM := Lib.hid (HM.out.trans (if_neg hz))
        have hz' : ((r.1 : Int) != 0) = true := by simpa using hz
        clear hz
        go_wp2_with fail
        go_ret3
        exact ⟨none, none, 0, 0, [], [], by rw [HMM.out]; rfl, TLO.nil _, EL.nil _, by rw [HMM.out]; rfl, by rw [HMM.out]; rfl, HB7.out⟩
end Go.Proofs.Ythfifejjfnmpoaa
