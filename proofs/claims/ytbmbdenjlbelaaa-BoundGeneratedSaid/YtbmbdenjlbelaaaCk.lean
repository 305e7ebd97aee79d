import Derived.Test.YtbmbdenjlbelaaaApp2
namespace Go.Proofs.Ytbmbdenjlbelaaa
open Go.RowKit

set_option maxRecDepth 100000 in
set_option maxHeartbeats 3200000 in
theorem rcycchk_any (T : Int) (AE AA Ar As : Option Addr) (ne ce ca cr cs : Nat) (acts : List Act) (arcs signs : List Int) (w : World) (hN : NCyc w AA Ar As ne acts arcs signs) (hcr : arcs.length ≤ cr) :
    Calls Try.prog 59 #[.agg #[.int .i64 T, .slice AE ne ce, .slice AA acts.length ca], .agg #[.slice Ar arcs.length cr, .slice As signs.length cs]] w fun e w' => e = .returned (.bool (cycB T ne acts arcs signs)) ∧ Below w.heap.size w w' := by
  have HNc := Lib.hid hN
  have he := hN.he
  have hla := hN.hl
  have hlr := hN.hr
  clear hN
  obtain ⟨i0, a1, a2, a3, a4⟩ := info_parts infoInt
  have HI := Lib.hid (And.intro a1 (And.intro a2 (And.intro a3 a4)))
  clear a1 a2 a3 a4
  have HC0 := Lib.hid (show CBx w ((w.alloc (.cells #[.int .i64 T, .slice AE ne ce, .slice AA acts.length ca] 26)).alloc (.cells #[.slice Ar arcs.length cr, .slice As signs.length cs] 45)) w.heap.size (w.heap.size + 1) #[.int .i64 T, .slice AE ne ce, .slice AA acts.length ca] #[.slice Ar arcs.length cr, .slice As signs.length cs] from
    ⟨(Blk.new _ _ _).al _, by have := Blk.new (w.alloc (.cells #[.int .i64 T, .slice AE ne ce, .slice AA acts.length ca] 26)) 45 #[.slice Ar arcs.length cr, .slice As signs.length cs]; simpa using this, (by repeat (first | exact Below.refl _ _ | (with_reducible refine Below.drew ?_) | (with_reducible refine below_drewN ?_ _) | (with_reducible refine Below.alloc ?_ (by first | omega | (simp; done) | (simp; omega)) _) | (with_reducible refine Below.setCell ?_ (by first | omega | (simp; done) | (simp; omega)) _) | (refine Below.trans ?_ (Below.mono (by with_reducible assumption) (by first | omega | (simp; done) | (simp; omega))))))⟩)
  go_enter Try.func59, Try.ntmps59
  go_upto_region 1 with fail
  refine world_gen (fun w' => CBx w w' w.heap.size (w.heap.size + 1) #[.int .i64 T, .slice AE ne ce, .slice AA acts.length ca] #[.slice Ar arcs.length cr, .slice As signs.length cs]) HC0.out ?_
  intro w0 hc0
  have HC := Lib.hid hc0
  clear hc0 HC0
  obtain ⟨X, hX⟩ : ∃ X, X = w.heap.size := ⟨_, rfl⟩
  obtain ⟨Y, hY⟩ : ∃ Y, Y = w.heap.size + 1 := ⟨_, rfl⟩
  rw [← hY, ← hX] at ⊢
  rw [← hY, ← hX] at HC
  have hXY : w.heap.size ≤ X ∧ w.heap.size ≤ Y ∧ X ≠ Y ∧ Y ≤ w.heap.size + 1 ∧ X < Y := by omega
  obtain ⟨hXw, hYw, hne, hYw1, hXltY⟩ := hXY
  clear hX hY
  have x0 := HC.out.x.cell 0
  have x1 := HC.out.x.cell 1
  have x2 := HC.out.x.cell 2
  simp at x0 x1 x2
  go_wp2_with fail
  refine (rnetchk_any T AE AA ne ce ca acts w0 ((HNc.out.grow HC.out.bel).a) he hla).mono ?_
  rintro e w1 ⟨rfl, hb1⟩
  have HC1 := Lib.hid (HC.out.grow hb1)
  have HL := Lib.hid HC1.out.bel
  clear HC hb1 x0 x1 x2
  have y0 := HC1.out.y.cell 0
  have y1 := HC1.out.y.cell 1
  simp at y0 y1
  cases hn : netB T ne acts
  case false =>
    have HNB := Lib.hid (cycB_no (T := T) (ne := ne) (acts := acts) (arcs := arcs) (signs := signs) (fun h => by have := netB_yes h.net; rw [hn] at this; cases this))
    go_wp2_with fail
    go_ret
    exact ⟨by rw [HNB.out]; rfl, (by have hbelh := HL.out; have hbels := hbelh.size; exact (by repeat (first | exact Below.refl _ _ | (with_reducible refine Below.drew ?_) | (with_reducible refine below_drewN ?_ _) | (with_reducible refine Below.alloc ?_ (by first | omega | (simp; done) | (simp; omega)) _) | (with_reducible refine Below.setCell ?_ (by first | omega | (simp; done) | (simp; omega)) _) | (refine Below.trans ?_ (Below.mono (by with_reducible assumption) (by first | omega | (simp; done) | (simp; omega)))))))⟩
  have hN := netB_iff.1 hn
  have HN := Lib.hid hN
  have hn1 : ne ≤ 48 := hN.e
  have hn2 : acts.length ≤ 512 := hN.n
  clear hN hn
  by_cases h2 : arcs.length = signs.length
  case neg =>
    have h2' : ((arcs.length : Int) != (signs.length : Int)) = true := by simp; omega
    have HNB := Lib.hid (cycB_no (T := T) (ne := ne) (acts := acts) (arcs := arcs) (signs := signs) (fun h => h2 h.len))
    go_wp2_with fail
    go_ret
    exact ⟨by rw [HNB.out]; rfl, (by have hbelh := HL.out; have hbels := hbelh.size; exact (by repeat (first | exact Below.refl _ _ | (with_reducible refine Below.drew ?_) | (with_reducible refine below_drewN ?_ _) | (with_reducible refine Below.alloc ?_ (by first | omega | (simp; done) | (simp; omega)) _) | (with_reducible refine Below.setCell ?_ (by first | omega | (simp; done) | (simp; omega)) _) | (refine Below.trans ?_ (Below.mono (by with_reducible assumption) (by first | omega | (simp; done) | (simp; omega)))))))⟩
  have h2' : ((arcs.length : Int) != (signs.length : Int)) = false := by simp [h2]
  have H2 := Lib.hid h2
  clear h2
  by_cases h3 : arcs.length < 2
  case pos =>
    have HNB := Lib.hid (cycB_no (T := T) (ne := ne) (acts := acts) (arcs := arcs) (signs := signs) (fun h => by have := h.two; omega))
    go_wp2_with fail
    go_ret
    exact ⟨by rw [HNB.out]; rfl, (by have hbelh := HL.out; have hbels := hbelh.size; exact (by repeat (first | exact Below.refl _ _ | (with_reducible refine Below.drew ?_) | (with_reducible refine below_drewN ?_ _) | (with_reducible refine Below.alloc ?_ (by first | omega | (simp; done) | (simp; omega)) _) | (with_reducible refine Below.setCell ?_ (by first | omega | (simp; done) | (simp; omega)) _) | (refine Below.trans ?_ (Below.mono (by with_reducible assumption) (by first | omega | (simp; done) | (simp; omega)))))))⟩
  have h3' : decide (arcs.length < 2) = false := by simpa using h3
  have hw1 := HL.out.size
  go_wp2_with fail
  clear h2' h3' y0 y1
  go_loopg [5, 6, 7, 8] arcs.length (fun k v5 v6 v _ wr => CK1 w acts arcs signs X Y #[.int .i64 T, .slice AE ne ce, .slice AA acts.length ca] #[.slice Ar arcs.length cr, .slice As signs.length cs] k v5 v6 v wr)
  case atStart => exact ⟨0, rfl, by omega, fun i hi => by omega, HC1.out, Two.new _ _⟩
  case round =>
    obtain ⟨j, rfl, hj, hok, hcb, htw⟩ := hrel
    clear HC1 HL
    have Hj := Lib.hid hj
    have Hok := Lib.hid hok
    have HC := Lib.hid hcb
    have HTw := Lib.hid htw
    clear hj hok hcb htw
    have x0 := HC.out.x.cell 0
    have x2 := HC.out.x.cell 2
    have y0 := HC.out.y.cell 0
    have y1 := HC.out.y.cell 1
    simp at x0 x2 y0 y1
    have hxl := HC.out.x.lt
    have hyl := HC.out.y.lt
    by_cases hlt : j < arcs.length
    · have hlts : j < signs.length := by have := H2.out; omega
      obtain ⟨br, orr, rfl, hbr, r0⟩ := rd1 (HNc.out.r.grow HC.out.bel) j hlt
      obtain ⟨bs, os, rfl, hbs, s0⟩ := rd1 (HNc.out.s.grow HC.out.bel) j hlts
      rw [← gi_nat arcs j hlt] at r0
      rw [← gi_nat signs j hlts] at s0
      have hbr' : br < wr.heap.size := World.block_lt_of_cell? _ _ r0
      have hbs' : bs < wr.heap.size := World.block_lt_of_cell? _ _ s0
      have HRt := Lib.hid ((HNc.out.r.grow HC.out.bel).more HC.out.bel.size |>.take j (by omega))
      have htl : (arcs.take j).length = j := by simp; omega
      rw [htl] at HRt
      have HHas := Lib.hid (has_take_iff hlt)
      have HTl := Lib.hid htl
      clear htl
      have HSt := Lib.hid (stL_succ acts arcs signs j)
      have HEn := Lib.hid (enL_succ acts arcs signs j)
      have hl5j : (stL acts arcs signs j).length ≤ 512 := by rw [stL_len]; have := arcs_pre Hok.out (by omega); omega
      have hl6j : (enL acts arcs signs j).length ≤ 512 := by rw [enL_len]; have := arcs_pre Hok.out (by omega); omega
      have HstC := Lib.hid (show stC acts arcs signs j = stE (ag acts (gi arcs j)) (gi signs j) from rfl)
      have HenC := Lib.hid (show enC acts arcs signs j = enE (ag acts (gi arcs j)) (gi signs j) from rfl)
      generalize stL acts arcs signs j = l5 at *
      generalize enL acts arcs signs j = l6 at *
      obtain ⟨A5, c5, rfl, _, _⟩ := own_slice HTw.out.o5
      obtain ⟨A6, c6, rfl, _, _⟩ := own_slice HTw.out.o6
      generalize har : gi arcs j = ar at *
      generalize hsg : gi signs j = sg at *
      have Har := Lib.hid har
      have Hsg := Lib.hid hsg
      clear har hsg
      by_cases hin : 0 ≤ ar ∧ ar < (acts.length : Int)
      case neg =>
        have hinB : inB ar 0 ((acts.length : Int) - 1) = false := by simp [inB]; omega
        have e1 : IntKind.i64.wrap ((acts.length : Int) - 1) = (acts.length : Int) - 1 := IntWalk.i64_in _ (by omega)
        go_upto_region 7 with fail
        refine wp_region_overL (by kernel_rfl) (by kernel_rfl) ?_
        repeat (go_big_quiet_step (first | (go_at_call 51; exact callsOverSame (in_any _ _ _ _)) | (go_at_call 54; exact callsOverSame (has_tk _ j cr arcs _ _ _ (HRt.out.grow (over_below wr _)) HTl.out (by omega)))))
        refine wpQuiet_nil ?_
        intro w6 hb6
        have HC6 := Lib.hid (HC.out.grow hb6)
        clear e1
        have HNB := Lib.hid (cycB_no (T := T) (ne := ne) (acts := acts) (arcs := arcs) (signs := signs) (fun h => by have hok := h.arc j hlt; exact hin ⟨by have := hok.a0; rw [Har.out] at this; exact this, by have := hok.a1; rw [Har.out] at this; exact this⟩))
        go_wp2_with fail
        go_ret
        exact ⟨by rw [HNB.out]; rfl, HC6.out.bel⟩
      have hinB : inB ar 0 ((acts.length : Int) - 1) = true := by simp [inB]; omega
      cases hh : hasB (arcs.take j) ar
      case true =>
        have e1 : IntKind.i64.wrap ((acts.length : Int) - 1) = (acts.length : Int) - 1 := IntWalk.i64_in _ (by omega)
        go_upto_region 7 with fail
        refine wp_region_overL (by kernel_rfl) (by kernel_rfl) ?_
        repeat (go_big_quiet_step (first | (go_at_call 51; exact callsOverSame (in_any _ _ _ _)) | (go_at_call 54; exact callsOverSame (has_tk _ j cr arcs _ _ _ (HRt.out.grow (over_below wr _)) HTl.out (by omega)))))
        refine wpQuiet_nil ?_
        intro w6 hb6
        have HC6 := Lib.hid (HC.out.grow hb6)
        clear e1
        have HNB := Lib.hid (cycB_no (T := T) (ne := ne) (acts := acts) (arcs := arcs) (signs := signs) (fun h => by have hok := h.arc j hlt; (have := HHas.out.2 (fun i hi => by have := hok.nd i hi; rw [Har.out] at this; exact this); rw [hh] at this; cases this)))
        go_wp2_with fail
        go_ret
        exact ⟨by rw [HNB.out]; rfl, HC6.out.bel⟩
      have HNd := Lib.hid (HHas.out.1 hh)
      obtain ⟨a, rfl⟩ := Int.eq_ofNat_of_zero_le hin.1
      have hal : a < acts.length := by omega
      have HArc : Hid ((sg = 1 ∨ sg = -1) → ArcOk acts arcs signs j) := fun h => ⟨by rw [Har.out]; omega, by rw [Har.out]; omega, by rw [Hsg.out]; exact h, by rw [Har.out]; exact HNd.out⟩
      by_cases h1 : sg = 1
      · subst h1
        have e1 : IntKind.i64.wrap ((acts.length : Int) - 1) = (acts.length : Int) - 1 := IntWalk.i64_in _ (by omega)
        go_upto_region 7 with fail
        refine wp_region_overL (by kernel_rfl) (by kernel_rfl) ?_
        repeat (go_big_quiet_step (first | (go_at_call 51; exact callsOverSame (in_any _ _ _ _)) | (go_at_call 54; exact callsOverSame (has_tk _ j cr arcs _ _ _ (HRt.out.grow (over_below wr _)) HTl.out (by omega)))))
        refine wpQuiet_nil ?_
        intro w6 hb6
        have HC6 := Lib.hid (HC.out.grow hb6)
        clear e1
        have HTw6 := Lib.hid (HTw.out.grow hb6)
        have r6 := cell_bel hb6 r0
        have s6 := cell_bel hb6 s0
        clear x0 x2 y0 y1 hxl hyl r0 s0 HC HTw hb6 HRt HHas hbr hbs hbr' hbs' hinB
        have x2 := HC6.out.x.cell 2
        have y0 := HC6.out.y.cell 0
        simp at x2 y0
        have hxl := HC6.out.x.lt
        have hyl := HC6.out.y.lt
        obtain ⟨ba, oa, rfl, hba, d0, d1, d2, d3, d4, d5⟩ := rdAct (HNc.out.a.grow HC6.out.bel) rfl a hal
        have hba' : ba < w6.heap.size := World.block_lt_of_cell? _ _ d0
        have hbr' : br < w6.heap.size := World.block_lt_of_cell? _ _ r6
        have HAg := Lib.hid (ag_nat acts a hal)
        generalize acts[a] = aa at *
        obtain ⟨kd, fr, tt, mn, mx, wt⟩ := aa
        simp only at d0 d1 d2 d3 d4 d5
        go_upto_region 9 with fail
        go_region
        go_upto_region 10 with fail
        have hal9 : Below w6.heap.size w6 (w6.alloc (.cells #[.int .i64 kd, .int .i64 fr, .int .i64 tt, .int .i64 mn, .int .i64 mx, .int .i64 wt] 61)).drew := ((Below.refl _ _).alloc (Nat.le_refl _) _).drew
        refine world_gen (fun w9 => CBx w w9 X Y #[.int .i64 T, .slice AE ne ce, .slice (some ⟨ba, oa, none⟩) acts.length ca] #[.slice (some ⟨br, orr, none⟩) arcs.length cr, .slice (some ⟨bs, os, none⟩) signs.length cs] ∧ Blk w9 w6.heap.size 61 #[.int .i64 kd, .int .i64 fr, .int .i64 tt, .int .i64 mn, .int .i64 mx, .int .i64 wt] ∧ Two w9 (Y + 1) (.slice A5 l5.length c5) (.slice A6 l6.length c6) l5 l6 ∧ Below w6.heap.size w6 w9) ⟨HC6.out.grow hal9, Blk.new _ _ _, HTw6.out.grow hal9, hal9⟩ ?_
        rintro w9 ⟨hc9, hz9, ht9, hb9⟩
        have s9 := cell_bel hb9 s6
        have HZ5 : Hid ((Value.slice A5 l5.length c5).ownBlock ≠ some w6.heap.size) := fun e => by have := (own_block HTw6.out.o5 _ e).2; omega
        have HZ6 : Hid ((Value.slice A6 l6.length c6).ownBlock ≠ some w6.heap.size) := fun e => by have := (own_block HTw6.out.o6 _ e).2; omega
        have z1 := hz9.cell 1
        have z2 := hz9.cell 2
        simp at z1 z2
        have HC9 := Lib.hid hc9
        have HT9 := Lib.hid ht9
        clear hal9 hz9 hc9 ht9 hb9 HC6 HTw6 r6 s6 x2 y0 hxl hyl d0 d1 d2 d3 d4 d5 hba hba' hbr'
        generalize w6.heap.size = Z at *
        have y1 := HC9.out.y.cell 1
        simp at y1
        have hyl := HC9.out.y.lt
        go_upto_region 11 with fail
        go_region_held3 (fun w' => w'.cell? ⟨Z, 1, none⟩ = some (.int .i64 fr) ∧ w'.cell? ⟨Z, 2, none⟩ = some (.int .i64 tt))
          (first | go_keep | (go_split_ands; exact ⟨cell_app hgrow2 (by assumption) HZ6.out, cell_app hgrow2 (by assumption) HZ6.out⟩) | (go_split_ands; exact ⟨cell_app hgrow1 (by assumption) HZ5.out, cell_app hgrow1 (by assumption) HZ5.out⟩))
          (first | (refine step_append_lies _ (by rfl) _ _ _ (by rfl) (Y + 1) 3 i0 _ 1 8 Try.underlying22 HI.out.1 HI.out.2.1 HI.out.2.2.1 HI.out.2.2.2 rfl (by omega) (.slice A5 l5.length c5) l5.length (l5.map (Value.int .i64)) rfl (own_grow HT9.out.o5 (by repeat (first | exact Below.refl _ _ | (with_reducible refine Below.drew ?_) | (with_reducible refine below_drewN ?_ _) | (with_reducible refine Below.alloc ?_ (by first | omega | (simp; done) | (simp; omega)) _) | (with_reducible refine Below.setCell ?_ (by first | omega | (simp; done) | (simp; omega)) _) | (refine Below.trans ?_ (Below.mono (by with_reducible assumption) (by first | omega | (simp; done) | (simp; omega))))))) _ 1 1 [.int .i64 fr] (by rfl) (by rfl) (World.news_of_block (cs := #[.int .i64 fr]) (t := 3) (fr := (0, 0)) (by first | exact h_new1 _ _ | exact h_old2 _ _ _ | exact h_new2 _ _ _)) (by simp [Value.oneCell']) (by omega) (by simp only [maxLen]; omega) (by omega) (by simp; omega) _ rfl ?_; intro g1 cp1 w1 hown1 hgrow1 hat1 hgl1) | (refine step_append_lies _ (by rfl) _ _ _ (by rfl) (Y + 1) 3 i0 _ 1 8 Try.underlying22 HI.out.1 HI.out.2.1 HI.out.2.2.1 HI.out.2.2.2 rfl (by omega) (.slice A6 l6.length c6) l6.length (l6.map (Value.int .i64)) rfl (own_grow (HT9.out.mid (by repeat (first | exact Below.refl _ _ | (with_reducible refine Below.drew ?_) | (with_reducible refine below_drewN ?_ _) | (with_reducible refine Below.alloc ?_ (by first | omega | (simp; done) | (simp; omega)) _) | (with_reducible refine Below.setCell ?_ (by first | omega | (simp; done) | (simp; omega)) _) | (refine Below.trans ?_ (Below.mono (by with_reducible assumption) (by first | omega | (simp; done) | (simp; omega)))))) hgrow1) (by repeat (first | exact Below.refl _ _ | (with_reducible refine Below.drew ?_) | (with_reducible refine below_drewN ?_ _) | (with_reducible refine Below.alloc ?_ (by first | omega | (simp; done) | (simp; omega)) _) | (with_reducible refine Below.setCell ?_ (by first | omega | (simp; done) | (simp; omega)) _) | (refine Below.trans ?_ (Below.mono (by with_reducible assumption) (by first | omega | (simp; done) | (simp; omega))))))) _ 1 1 [.int .i64 tt] (by rfl) (by rfl) (World.news_of_block (cs := #[.int .i64 tt]) (t := 3) (fr := (0, 0)) (by first | exact h_new1 _ _ | exact heap_gr hgrow1 (h_new2 _ _ _) (fun e => absurd (own_block HT9.out.o5 _ e).2 (by omega)) | exact heap_gr hgrow1 (h_old2 _ _ _) (fun e => absurd (own_block HT9.out.o5 _ e).2 (by omega)))) (by simp [Value.oneCell']) (by omega) (by simp only [maxLen]; omega) (by omega) (by have := hgrow1.size; simp at this ⊢; omega) _ rfl ?_; intro g2 cp2 w2 hown2 hgrow2 hat2 hgl2))
        all_goals
          have HD := Lib.hid (HT9.out.done (by omega) (by repeat (first | exact Below.refl _ _ | (with_reducible refine Below.drew ?_) | (with_reducible refine below_drewN ?_ _) | (with_reducible refine Below.alloc ?_ (by first | omega | (simp; done) | (simp; omega)) _) | (with_reducible refine Below.setCell ?_ (by first | omega | (simp; done) | (simp; omega)) _) | (refine Below.trans ?_ (Below.mono (by with_reducible assumption) (by first | omega | (simp; done) | (simp; omega)))))) hgrow1 hown1 hat1 (by repeat (first | exact Below.refl _ _ | (with_reducible refine Below.drew ?_) | (with_reducible refine below_drewN ?_ _) | (with_reducible refine Below.alloc ?_ (by first | omega | (simp; done) | (simp; omega)) _) | (with_reducible refine Below.setCell ?_ (by first | omega | (simp; done) | (simp; omega)) _) | (refine Below.trans ?_ (Below.mono (by with_reducible assumption) (by first | omega | (simp; done) | (simp; omega)))))) hgrow2 hown2 hat2)
          clear hgrow1 hown1 hat1 hgl1 hgrow2 hown2 hat2 hgl2 z1 z2 s9 y1
          have HC2 := Lib.hid (show CBx w w2 X Y #[.int .i64 T, .slice AE ne ce, .slice (some ⟨ba, oa, none⟩) acts.length ca] #[.slice (some ⟨br, orr, none⟩) arcs.length cr, .slice (some ⟨bs, os, none⟩) signs.length cs] from ⟨HC9.out.x.same (HD.out.2.block X (by omega)), HC9.out.y.same (HD.out.2.block Y (by omega)), HC9.out.bel.trans (HD.out.2.mono (by omega))⟩)
          have HArj := Lib.hid (HArc.out (by omega))
          rw [HAg.out] at HstC HenC
          go_wp2_with fail
          go_roundg (arcs.length - j - 1)
          case measure => have := Hj.out; omega
          case rel =>
            refine ⟨j + 1, by first | rfl | go_num, by omega, fun i hi => ?_, HC2.out, by rw [HSt.out, HEn.out, HstC.out, HenC.out]; exact HD.out.1⟩
            rcases Nat.lt_or_ge i j with h | h
            · exact Hok.out i h
            · obtain rfl : i = j := by omega
              exact HArj.out
      by_cases h2 : sg = -1
      · subst h2
        have e1 : IntKind.i64.wrap ((acts.length : Int) - 1) = (acts.length : Int) - 1 := IntWalk.i64_in _ (by omega)
        go_upto_region 7 with fail
        refine wp_region_overL (by kernel_rfl) (by kernel_rfl) ?_
        repeat (go_big_quiet_step (first | (go_at_call 51; exact callsOverSame (in_any _ _ _ _)) | (go_at_call 54; exact callsOverSame (has_tk _ j cr arcs _ _ _ (HRt.out.grow (over_below wr _)) HTl.out (by omega)))))
        refine wpQuiet_nil ?_
        intro w6 hb6
        have HC6 := Lib.hid (HC.out.grow hb6)
        clear e1
        have HTw6 := Lib.hid (HTw.out.grow hb6)
        have r6 := cell_bel hb6 r0
        have s6 := cell_bel hb6 s0
        clear x0 x2 y0 y1 hxl hyl r0 s0 HC HTw hb6 HRt HHas hbr hbs hbr' hbs' hinB
        have x2 := HC6.out.x.cell 2
        have y0 := HC6.out.y.cell 0
        simp at x2 y0
        have hxl := HC6.out.x.lt
        have hyl := HC6.out.y.lt
        obtain ⟨ba, oa, rfl, hba, d0, d1, d2, d3, d4, d5⟩ := rdAct (HNc.out.a.grow HC6.out.bel) rfl a hal
        have hba' : ba < w6.heap.size := World.block_lt_of_cell? _ _ d0
        have hbr' : br < w6.heap.size := World.block_lt_of_cell? _ _ r6
        have HAg := Lib.hid (ag_nat acts a hal)
        generalize acts[a] = aa at *
        obtain ⟨kd, fr, tt, mn, mx, wt⟩ := aa
        simp only at d0 d1 d2 d3 d4 d5
        go_upto_region 9 with fail
        go_region
        go_upto_region 10 with fail
        have hal9 : Below w6.heap.size w6 (w6.alloc (.cells #[.int .i64 kd, .int .i64 fr, .int .i64 tt, .int .i64 mn, .int .i64 mx, .int .i64 wt] 61)).drew := ((Below.refl _ _).alloc (Nat.le_refl _) _).drew
        refine world_gen (fun w9 => CBx w w9 X Y #[.int .i64 T, .slice AE ne ce, .slice (some ⟨ba, oa, none⟩) acts.length ca] #[.slice (some ⟨br, orr, none⟩) arcs.length cr, .slice (some ⟨bs, os, none⟩) signs.length cs] ∧ Blk w9 w6.heap.size 61 #[.int .i64 kd, .int .i64 fr, .int .i64 tt, .int .i64 mn, .int .i64 mx, .int .i64 wt] ∧ Two w9 (Y + 1) (.slice A5 l5.length c5) (.slice A6 l6.length c6) l5 l6 ∧ Below w6.heap.size w6 w9) ⟨HC6.out.grow hal9, Blk.new _ _ _, HTw6.out.grow hal9, hal9⟩ ?_
        rintro w9 ⟨hc9, hz9, ht9, hb9⟩
        have s9 := cell_bel hb9 s6
        have HZ5 : Hid ((Value.slice A5 l5.length c5).ownBlock ≠ some w6.heap.size) := fun e => by have := (own_block HTw6.out.o5 _ e).2; omega
        have HZ6 : Hid ((Value.slice A6 l6.length c6).ownBlock ≠ some w6.heap.size) := fun e => by have := (own_block HTw6.out.o6 _ e).2; omega
        have z1 := hz9.cell 1
        have z2 := hz9.cell 2
        simp at z1 z2
        have HC9 := Lib.hid hc9
        have HT9 := Lib.hid ht9
        clear hal9 hz9 hc9 ht9 hb9 HC6 HTw6 r6 s6 x2 y0 hxl hyl d0 d1 d2 d3 d4 d5 hba hba' hbr'
        generalize w6.heap.size = Z at *
        have y1 := HC9.out.y.cell 1
        simp at y1
        have hyl := HC9.out.y.lt
        go_upto_region 12 with fail
        go_region_held3 (fun w' => w'.cell? ⟨Z, 1, none⟩ = some (.int .i64 fr) ∧ w'.cell? ⟨Z, 2, none⟩ = some (.int .i64 tt))
          (first | go_keep | (go_split_ands; exact ⟨cell_app hgrow2 (by assumption) HZ6.out, cell_app hgrow2 (by assumption) HZ6.out⟩) | (go_split_ands; exact ⟨cell_app hgrow1 (by assumption) HZ5.out, cell_app hgrow1 (by assumption) HZ5.out⟩))
          (first | (refine step_append_lies _ (by rfl) _ _ _ (by rfl) (Y + 1) 3 i0 _ 1 8 Try.underlying22 HI.out.1 HI.out.2.1 HI.out.2.2.1 HI.out.2.2.2 rfl (by omega) (.slice A5 l5.length c5) l5.length (l5.map (Value.int .i64)) rfl (own_grow HT9.out.o5 (by repeat (first | exact Below.refl _ _ | (with_reducible refine Below.drew ?_) | (with_reducible refine below_drewN ?_ _) | (with_reducible refine Below.alloc ?_ (by first | omega | (simp; done) | (simp; omega)) _) | (with_reducible refine Below.setCell ?_ (by first | omega | (simp; done) | (simp; omega)) _) | (refine Below.trans ?_ (Below.mono (by with_reducible assumption) (by first | omega | (simp; done) | (simp; omega))))))) _ 1 1 [.int .i64 tt] (by rfl) (by rfl) (World.news_of_block (cs := #[.int .i64 tt]) (t := 3) (fr := (0, 0)) (by first | exact h_new1 _ _ | exact h_old2 _ _ _ | exact h_new2 _ _ _)) (by simp [Value.oneCell']) (by omega) (by simp only [maxLen]; omega) (by omega) (by simp; omega) _ rfl ?_; intro g1 cp1 w1 hown1 hgrow1 hat1 hgl1) | (refine step_append_lies _ (by rfl) _ _ _ (by rfl) (Y + 1) 3 i0 _ 1 8 Try.underlying22 HI.out.1 HI.out.2.1 HI.out.2.2.1 HI.out.2.2.2 rfl (by omega) (.slice A6 l6.length c6) l6.length (l6.map (Value.int .i64)) rfl (own_grow (HT9.out.mid (by repeat (first | exact Below.refl _ _ | (with_reducible refine Below.drew ?_) | (with_reducible refine below_drewN ?_ _) | (with_reducible refine Below.alloc ?_ (by first | omega | (simp; done) | (simp; omega)) _) | (with_reducible refine Below.setCell ?_ (by first | omega | (simp; done) | (simp; omega)) _) | (refine Below.trans ?_ (Below.mono (by with_reducible assumption) (by first | omega | (simp; done) | (simp; omega)))))) hgrow1) (by repeat (first | exact Below.refl _ _ | (with_reducible refine Below.drew ?_) | (with_reducible refine below_drewN ?_ _) | (with_reducible refine Below.alloc ?_ (by first | omega | (simp; done) | (simp; omega)) _) | (with_reducible refine Below.setCell ?_ (by first | omega | (simp; done) | (simp; omega)) _) | (refine Below.trans ?_ (Below.mono (by with_reducible assumption) (by first | omega | (simp; done) | (simp; omega))))))) _ 1 1 [.int .i64 fr] (by rfl) (by rfl) (World.news_of_block (cs := #[.int .i64 fr]) (t := 3) (fr := (0, 0)) (by first | exact h_new1 _ _ | exact heap_gr hgrow1 (h_new2 _ _ _) (fun e => absurd (own_block HT9.out.o5 _ e).2 (by omega)) | exact heap_gr hgrow1 (h_old2 _ _ _) (fun e => absurd (own_block HT9.out.o5 _ e).2 (by omega)))) (by simp [Value.oneCell']) (by omega) (by simp only [maxLen]; omega) (by omega) (by have := hgrow1.size; simp at this ⊢; omega) _ rfl ?_; intro g2 cp2 w2 hown2 hgrow2 hat2 hgl2))
        all_goals
          have HD := Lib.hid (HT9.out.done (by omega) (by repeat (first | exact Below.refl _ _ | (with_reducible refine Below.drew ?_) | (with_reducible refine below_drewN ?_ _) | (with_reducible refine Below.alloc ?_ (by first | omega | (simp; done) | (simp; omega)) _) | (with_reducible refine Below.setCell ?_ (by first | omega | (simp; done) | (simp; omega)) _) | (refine Below.trans ?_ (Below.mono (by with_reducible assumption) (by first | omega | (simp; done) | (simp; omega)))))) hgrow1 hown1 hat1 (by repeat (first | exact Below.refl _ _ | (with_reducible refine Below.drew ?_) | (with_reducible refine below_drewN ?_ _) | (with_reducible refine Below.alloc ?_ (by first | omega | (simp; done) | (simp; omega)) _) | (with_reducible refine Below.setCell ?_ (by first | omega | (simp; done) | (simp; omega)) _) | (refine Below.trans ?_ (Below.mono (by with_reducible assumption) (by first | omega | (simp; done) | (simp; omega)))))) hgrow2 hown2 hat2)
          clear hgrow1 hown1 hat1 hgl1 hgrow2 hown2 hat2 hgl2 z1 z2 s9 y1
          have HC2 := Lib.hid (show CBx w w2 X Y #[.int .i64 T, .slice AE ne ce, .slice (some ⟨ba, oa, none⟩) acts.length ca] #[.slice (some ⟨br, orr, none⟩) arcs.length cr, .slice (some ⟨bs, os, none⟩) signs.length cs] from ⟨HC9.out.x.same (HD.out.2.block X (by omega)), HC9.out.y.same (HD.out.2.block Y (by omega)), HC9.out.bel.trans (HD.out.2.mono (by omega))⟩)
          have HArj := Lib.hid (HArc.out (by omega))
          rw [HAg.out] at HstC HenC
          go_wp2_with fail
          go_roundg (arcs.length - j - 1)
          case measure => have := Hj.out; omega
          case rel =>
            refine ⟨j + 1, by first | rfl | go_num, by omega, fun i hi => ?_, HC2.out, by rw [HSt.out, HEn.out, HstC.out, HenC.out]; exact HD.out.1⟩
            rcases Nat.lt_or_ge i j with h | h
            · exact Hok.out i h
            · obtain rfl : i = j := by omega
              exact HArj.out
      · have hs1 : (sg != 1) = true := by simpa using h1
        have hs2 : (sg != -1) = true := by simpa using h2
        have e1 : IntKind.i64.wrap ((acts.length : Int) - 1) = (acts.length : Int) - 1 := IntWalk.i64_in _ (by omega)
        go_upto_region 7 with fail
        refine wp_region_overL (by kernel_rfl) (by kernel_rfl) ?_
        repeat (go_big_quiet_step (first | (go_at_call 51; exact callsOverSame (in_any _ _ _ _)) | (go_at_call 54; exact callsOverSame (has_tk _ j cr arcs _ _ _ (HRt.out.grow (over_below wr _)) HTl.out (by omega)))))
        refine wpQuiet_nil ?_
        intro w6 hb6
        have HC6 := Lib.hid (HC.out.grow hb6)
        clear e1
        have HNB := Lib.hid (cycB_no (T := T) (ne := ne) (acts := acts) (arcs := arcs) (signs := signs) (fun h => by have hok := h.arc j hlt; (have := hok.s; rw [Hsg.out] at this; exact this.elim h1 h2)))
        go_wp2_with fail
        go_ret
        exact ⟨by rw [HNB.out]; rfl, HC6.out.bel⟩
    · obtain rfl : j = arcs.length := by have := Hj.out; omega
      have H5l := Lib.hid (stL_len acts arcs signs arcs.length)
      have H6l := Lib.hid (enL_len acts arcs signs arcs.length)
      have H5g : Hid (∀ i (h : i < (stL acts arcs signs arcs.length).length), (stL acts arcs signs arcs.length)[i] = stC acts arcs signs i) := fun i h => stL_get acts arcs signs arcs.length i (by rw [stL_len] at h; exact h)
      have H6g : Hid (∀ i (h : i < (enL acts arcs signs arcs.length).length), (enL acts arcs signs arcs.length)[i] = enC acts arcs signs i) := fun i h => enL_get acts arcs signs arcs.length i (by rw [enL_len] at h; exact h)
      clear Hj hlt x0 x2 y1 hxl hyl
      obtain ⟨A5, c5, rfl, hc5, _⟩ := own_slice HTw.out.o5
      obtain ⟨A6, c6, rfl, _, _⟩ := own_slice HTw.out.o6
      generalize hl5 : stL acts arcs signs arcs.length = l5 at *
      generalize hl6 : enL acts arcs signs arcs.length = l6 at *
      have hn5 : 2 ≤ l5.length := by rw [H5l.out]; omega
      have hn6 : l5.length ≤ 4611686018427387904 := by rw [H5l.out]; omega
      clear hl5 hl6
      go_wp2_with fail
      clear y0
      go_loopg [9] l5.length (fun k v wr => CK2 w acts arcs signs X Y #[.int .i64 T, .slice AE ne ce, .slice AA acts.length ca] #[.slice Ar arcs.length cr, .slice As signs.length cs] (.slice A5 l5.length c5) (.slice A6 l6.length c6) l5 l6 k v wr)
      case atStart => exact ⟨0, rfl, by omega, fun i hi => by omega, HC.out, HTw.out⟩
      case round =>
        obtain ⟨j, rfl, hj, hcl, hcb, htw⟩ := hrel
        clear HC HTw
        have Hj := Lib.hid hj
        have Hcl := Lib.hid hcl
        have HC := Lib.hid hcb
        have HTw := Lib.hid htw
        clear hj hcl hcb htw
        by_cases hlt : j < l5.length
        · have Hja := Lib.hid (show j < arcs.length by rw [← H5l.out]; exact hlt)
          have hj6 : j < l6.length := by rw [H6l.out]; exact Hja.out
          obtain ⟨m, hm⟩ : ∃ m, m = (j + 1) % l5.length := ⟨_, rfl⟩
          have hml : m < l5.length := by rw [hm]; exact Nat.mod_lt _ (by omega)
          have htm : ((j : Int) + 1).tmod (l5.length : Int) = (m : Int) := by rw [show ((j : Int) + 1) = ((j + 1 : Nat) : Int) by omega, Int.tmod_eq_emod_of_nonneg (by omega), hm]; rfl
          have Hm := Lib.hid (show m = (j + 1) % arcs.length by rw [hm, H5l.out])
          obtain ⟨b5, o5, e5, hb5, q1⟩ := rd1 (Rd.of_own HTw.out.o5) m hml
          obtain ⟨b5', o5', e5', _, q2⟩ := rd1 (Rd.of_own HTw.out.o5) j hlt
          obtain ⟨b6, o6, e6, hb6, q3⟩ := rd1 (Rd.of_own HTw.out.o6) j hj6
          have HRt := Lib.hid ((Rd.of_own HTw.out.o5).take j (by omega))
          have htl : (l5.take j).length = j := by simp; omega
          rw [htl] at HRt
          have HTl := Lib.hid htl
          rw [e5] at e5'
          injection e5' with e5'
          injection e5' with e1 e2
          subst e1 e2 e5 e6
          have Hv1 := Lib.hid (show l5[m] = stC acts arcs signs m from H5g.out m hml)
          have Hv2 := Lib.hid (show l5[j] = stC acts arcs signs j from H5g.out j hlt)
          have Hv3 := Lib.hid (show l6[j] = enC acts arcs signs j from H6g.out j hj6)
          have HHas := Lib.hid (show hasB (l5.take j) l5[j] = false ↔ ∀ i, i < j → stC acts arcs signs i ≠ stC acts arcs signs j by
            have h := has_take_iff (l := l5) hlt
            rw [gi_nat l5 j hlt] at h
            rw [h]
            have e : ∀ i, i ≤ j → gi l5 i = stC acts arcs signs i := fun i hi => by rw [gi_nat l5 i (by omega)]; exact H5g.out i (by omega)
            exact ⟨fun h i hi => by have := h i hi; rw [e i (by omega), Hv2.out] at this; exact this, fun h i hi => by rw [e i (by omega), Hv2.out]; exact h i hi⟩)
          generalize l5[m] = sm at *
          generalize l5[j] = sj at *
          generalize l6[j] = ej at *
          clear hm htl
          have hz1 : ¬ ((l5.length : Int) = 0) := by omega
          have hz2 : ((l5.length : Int) == 0) = false := by simpa using hz1
          have hz3 : ¬ l5 = [] := fun h => by rw [h] at hn5; simp at hn5
          by_cases he : sm = ej
          case neg =>
            have he' : (sm != ej) = true := by simpa using he
            have e1 : IntKind.i64.wrap ((j : Int) + 1) = (j : Int) + 1 := IntWalk.i64_in _ (by omega)
            have hb5l : b5 < wr.heap.size := World.block_lt_of_cell? _ _ q1
            have hb6l : b6 < wr.heap.size := World.block_lt_of_cell? _ _ q3
            go_upto_region 16 with fail
            refine wp_region_overL (by kernel_rfl) (by kernel_rfl) ?_
            repeat (go_big_quiet_step (first | (go_at_call 54; exact callsOverSame (has_tk _ j c5 l5 _ _ _ (HRt.out.grow (over_below wr _)) HTl.out (by omega)))))
            refine wpQuiet_nil ?_
            intro w7 hb7
            have HC6 := Lib.hid (HC.out.grow hb7)
            clear e1
            have HNB := Lib.hid (cycB_no (T := T) (ne := ne) (acts := acts) (arcs := arcs) (signs := signs) (fun h => by exact he (by rw [Hv1.out, Hv3.out, Hm.out]; exact h.cl j Hja.out)))
            go_wp2_with fail
            go_ret
            exact ⟨by rw [HNB.out]; rfl, HC6.out.bel⟩
          have he' : (sm != ej) = false := by simpa using he
          cases hh : hasB (l5.take j) sj
          case true =>
            have e1 : IntKind.i64.wrap ((j : Int) + 1) = (j : Int) + 1 := IntWalk.i64_in _ (by omega)
            have hb5l : b5 < wr.heap.size := World.block_lt_of_cell? _ _ q1
            have hb6l : b6 < wr.heap.size := World.block_lt_of_cell? _ _ q3
            go_upto_region 16 with fail
            refine wp_region_overL (by kernel_rfl) (by kernel_rfl) ?_
            repeat (go_big_quiet_step (first | (go_at_call 54; exact callsOverSame (has_tk _ j c5 l5 _ _ _ (HRt.out.grow (over_below wr _)) HTl.out (by omega)))))
            refine wpQuiet_nil ?_
            intro w7 hb7
            have HC6 := Lib.hid (HC.out.grow hb7)
            clear e1
            have HNB := Lib.hid (cycB_no (T := T) (ne := ne) (acts := acts) (arcs := arcs) (signs := signs) (fun h => by (have := HHas.out.2 (fun i hi => h.sd i j hi Hja.out); rw [hh] at this; cases this)))
            go_wp2_with fail
            go_ret
            exact ⟨by rw [HNB.out]; rfl, HC6.out.bel⟩
          have HNd := Lib.hid (HHas.out.1 hh)
          have HEj := Lib.hid (show stC acts arcs signs ((j + 1) % arcs.length) = enC acts arcs signs j by rw [← Hm.out, ← Hv1.out, ← Hv3.out]; exact he)
          have e1 : IntKind.i64.wrap ((j : Int) + 1) = (j : Int) + 1 := IntWalk.i64_in _ (by omega)
          have hb5l : b5 < wr.heap.size := World.block_lt_of_cell? _ _ q1
          have hb6l : b6 < wr.heap.size := World.block_lt_of_cell? _ _ q3
          go_upto_region 16 with fail
          refine wp_region_overL (by kernel_rfl) (by kernel_rfl) ?_
          repeat (go_big_quiet_step (first | (go_at_call 54; exact callsOverSame (has_tk _ j c5 l5 _ _ _ (HRt.out.grow (over_below wr _)) HTl.out (by omega)))))
          refine wpQuiet_nil ?_
          intro w7 hb7
          have HC6 := Lib.hid (HC.out.grow hb7)
          clear e1
          have HT6 := Lib.hid (HTw.out.grow hb7)
          clear q1 q2 q3
          go_wp2_with fail
          go_roundg (l5.length - j - 1)
          case measure => have := Hj.out; omega
          case rel =>
            refine ⟨j + 1, by first | rfl | go_num, by omega, fun i hi => ?_, HC6.out, HT6.out⟩
            rcases Nat.lt_or_ge i j with h | h
            · exact Hcl.out i h
            · obtain rfl : i = j := by omega
              exact ⟨HEj.out, HNd.out⟩
        · have HYs := Lib.hid (cycB_yes (T := T) (ne := ne) (acts := acts) (arcs := arcs) (signs := signs) ⟨HN.out, H2.out, by omega, Hok.out, fun k hk => (Hcl.out k (by have := H5l.out; omega)).1, fun i j' hij hj' => (Hcl.out j' (by have := H5l.out; omega)).2 i hij⟩)
          go_wp2_with fail
          go_ret
          exact ⟨by rw [HYs.out]; rfl, HC.out.bel⟩
end Go.Proofs.Ytbmbdenjlbelaaa
