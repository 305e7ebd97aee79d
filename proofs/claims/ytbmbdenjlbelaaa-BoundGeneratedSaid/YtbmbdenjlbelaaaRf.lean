import Derived.Test.YtbmbdenjlbelaaaCk
import Derived.Test.YtbmbdenjlbelaaaIne8
namespace Go.Proofs.Ytbmbdenjlbelaaa
open Go.RowKit
attribute [local go_sem ↓] run_max_keep run_min_keep

set_option maxHeartbeats 800000 in
theorem rfloor_any (a b : Int) (w : World) (hb : 1 ≤ b) (ha0 : -1000000000000 ≤ a) (ha1 : a ≤ 1000000000000) : Calls Try.prog 62 #[.int .i64 a, .int .i64 b] w fun e w' => e = .returned (.int .i64 (a / b)) ∧ w = w' := by
  have hex := tm_ex a b hb
  have hbd := td_bd a b hb
  by_cases h : 0 ≤ a
  · have h1 : 0 ≤ a % b := Int.emod_nonneg a (by omega)
    have h2 : decide (a % b < 0) = false := by simpa using h1
    clear hex hbd
    go_enter Try.func62, Try.ntmps62
    go_wp2_with fail
    go_ret
    exact ⟨rfl, rfl⟩
  · obtain ⟨hb1, hb2⟩ := hbd.2 (by omega)
    by_cases hr : a.tmod b < 0
    · have e := (hex.2.1 hr).2
      have E := Lib.hid e
      have h2 : decide (a.tmod b < 0) = true := by simpa using hr
      clear hex hbd e
      go_enter Try.func62, Try.ntmps62
      go_wp2_with fail
      go_ret
      exact ⟨ret_int E.out, rfl⟩
    · have e := (hex.1 (by omega)).2
      have E := Lib.hid e
      have h2 : decide (a.tmod b < 0) = false := by simpa using hr
      clear hex hbd e
      go_enter Try.func62, Try.ntmps62
      go_wp2_with fail
      go_ret
      exact ⟨ret_int E.out, rfl⟩
set_option maxHeartbeats 800000 in
theorem rceil_any (a b : Int) (w : World) (hb : 1 ≤ b) (ha0 : -1000000000000 ≤ a) (ha1 : a ≤ 1000000000000) : Calls Try.prog 61 #[.int .i64 a, .int .i64 b] w fun e w' => e = .returned (.int .i64 (cdiv a b)) ∧ w = w' := by
  have hex := cdiv_ex a b hb
  have hbd := td_bd a b hb
  by_cases h : 0 ≤ a
  · have e0 : a.tdiv b = a / b := Int.tdiv_eq_ediv_of_nonneg h
    have e1 : a.tmod b = a % b := Int.tmod_eq_emod_of_nonneg h
    have hbd := hbd.1 h
    rw [e0] at hbd hex
    rw [e1] at hex
    obtain ⟨hb1, hb2⟩ := hbd
    clear e0 e1
    by_cases hr : 0 < a % b
    · have E := Lib.hid (hex.1 hr)
      have h2 : decide (0 < a % b) = true := by simpa using hr
      clear hex
      go_enter Try.func61, Try.ntmps61
      go_wp2_with fail
      go_ret
      exact ⟨ret_int (by first | exact E.out | (rw [Int.tdiv_eq_ediv_of_nonneg h]; exact E.out)), rfl⟩
    · have E := Lib.hid (hex.2 (by omega))
      have h2 : decide (0 < a % b) = false := by simpa using hr
      clear hex
      go_enter Try.func61, Try.ntmps61
      go_wp2_with fail
      go_ret
      exact ⟨ret_int (by first | exact E.out | (rw [Int.tdiv_eq_ediv_of_nonneg h]; exact E.out)), rfl⟩
  · obtain ⟨hb1, hb2⟩ := hbd.2 (by omega)
    by_cases hr : 0 < a.tmod b
    · have E := Lib.hid (hex.1 hr)
      have h2 : decide (0 < a.tmod b) = true := by simpa using hr
      clear hex hbd
      go_enter Try.func61, Try.ntmps61
      go_wp2_with fail
      go_ret
      exact ⟨ret_int E.out, rfl⟩
    · have E := Lib.hid (hex.2 (by omega))
      have h2 : decide (0 < a.tmod b) = false := by simpa using hr
      clear hex hbd
      go_enter Try.func61, Try.ntmps61
      go_wp2_with fail
      go_ret
      exact ⟨ret_int E.out, rfl⟩

set_option maxRecDepth 100000 in
set_option maxHeartbeats 3200000 in
theorem rsums_any (T : Int) (AE AA Ar As : Option Addr) (ne ce ca cr cs : Nat) (acts : List Act) (arcs signs : List Int) (w : World) (hN : NCyc w AA Ar As ne acts arcs signs) (hS : SumOk acts arcs signs) :
    Calls Try.prog 47 #[.agg #[.int .i64 T, .slice AE ne ce, .slice AA acts.length ca], .agg #[.slice Ar arcs.length cr, .slice As signs.length cs]] w fun e w' =>
      e = .returned (.tuple #[.int .i64 (sumN (bsT acts arcs signs) arcs.length), .int .i64 (sumN (fwT acts arcs signs) arcs.length), .int .i64 (sumN (bwT acts arcs signs) arcs.length)]) ∧ Below w.heap.size w w' := by
  have HN := Lib.hid hN
  have HS := Lib.hid hS
  have hl5 := hS.n
  have hlA := hN.hl
  clear hN hS
  have HC0 := Lib.hid (show CBx w ((w.alloc (.cells #[.int .i64 T, .slice AE ne ce, .slice AA acts.length ca] 26)).alloc (.cells #[.slice Ar arcs.length cr, .slice As signs.length cs] 45)) w.heap.size (w.heap.size + 1) #[.int .i64 T, .slice AE ne ce, .slice AA acts.length ca] #[.slice Ar arcs.length cr, .slice As signs.length cs] from
    ⟨(Blk.new _ _ _).al _, by have := Blk.new (w.alloc (.cells #[.int .i64 T, .slice AE ne ce, .slice AA acts.length ca] 26)) 45 #[.slice Ar arcs.length cr, .slice As signs.length cs]; simpa using this, (by repeat (first | exact Below.refl _ _ | (with_reducible refine Below.drew ?_) | (with_reducible refine below_drewN ?_ _) | (with_reducible refine Below.alloc ?_ (by first | omega | (simp; done) | (simp; omega)) _) | (with_reducible refine Below.setCell ?_ (by first | omega | (simp; done) | (simp; omega)) _) | (refine Below.trans ?_ (Below.mono (by with_reducible assumption) (by first | omega | (simp; done) | (simp; omega))))))⟩)
  go_enter Try.func47, Try.ntmps47
  go_upto_region 1 with fail
  refine world_gen (fun w' => CBx w w' w.heap.size (w.heap.size + 1) #[.int .i64 T, .slice AE ne ce, .slice AA acts.length ca] #[.slice Ar arcs.length cr, .slice As signs.length cs]) HC0.out ?_
  intro w0 hc0
  have HC := Lib.hid hc0
  clear hc0 HC0
  obtain ⟨X, hX⟩ : ∃ X, X = w.heap.size := ⟨_, rfl⟩
  obtain ⟨Y, hY⟩ : ∃ Y, Y = w.heap.size + 1 := ⟨_, rfl⟩
  rw [← hY, ← hX] at ⊢
  rw [← hY, ← hX] at HC
  have hXY : w.heap.size ≤ X ∧ w.heap.size ≤ Y ∧ X ≠ Y ∧ Y ≤ w.heap.size + 1 ∧ X < Y := by omega
  obtain ⟨hXw, hYw, hne, hYw1, hXltY⟩ := hXY
  clear hX hY
  go_wp2_with fail
  go_loopg [4, 5, 6, 7, 8] arcs.length (fun k v4 v5 v6 v _ wr => Sm1 w acts arcs signs X Y #[.int .i64 T, .slice AE ne ce, .slice AA acts.length ca] #[.slice Ar arcs.length cr, .slice As signs.length cs] k v4 v5 v6 v wr)
  case atStart => exact ⟨0, rfl, by omega, rfl, rfl, rfl, HC.out⟩
  case round =>
    obtain ⟨j, rfl, hj, rfl, rfl, rfl, hcb⟩ := hrel
    clear HC
    have Hj := Lib.hid hj
    have HC := Lib.hid hcb
    clear hj hcb
    have y0 := HC.out.y.cell 0
    simp at y0
    by_cases hlt : j < arcs.length
    · have hlts : j < signs.length := by have := HS.out.len; omega
      obtain ⟨br, orr, rfl, hbr, r0⟩ := rd1 (HN.out.r.grow HC.out.bel) j hlt
      obtain ⟨bs, os, rfl, hbs, s0⟩ := rd1 (HN.out.s.grow HC.out.bel) j hlts
      rw [← gi_nat arcs j hlt] at r0
      rw [← gi_nat signs j hlts] at s0
      have hrg := HS.out.rg j hlt
      have b1 := HS.out.bsB j (by omega)
      have b2 := HS.out.fwB j (by omega)
      have b3 := HS.out.bwB j (by omega)
      have Hb : Hid (sumN (bsT acts arcs signs) (j + 1) = sumN (bsT acts arcs signs) j + gi signs j * (ag acts (gi arcs j)).mn) := rfl
      have Hf : Hid (sumN (fwT acts arcs signs) (j + 1) = sumN (fwT acts arcs signs) j + if gi signs j = 1 then (ag acts (gi arcs j)).mx - (ag acts (gi arcs j)).mn else 0) := rfl
      have Hw : Hid (sumN (bwT acts arcs signs) (j + 1) = sumN (bwT acts arcs signs) j + if gi signs j = 1 then 0 else (ag acts (gi arcs j)).mx - (ag acts (gi arcs j)).mn) := rfl
      generalize sumN (bsT acts arcs signs) j = vb at *
      generalize sumN (fwT acts arcs signs) j = vf at *
      generalize sumN (bwT acts arcs signs) j = vw at *
      generalize gi arcs j = ar at *
      generalize hsgv : gi signs j = sg at *
      have Hsgv := Lib.hid hsgv
      clear hsgv
      obtain ⟨ha0, ha1, hsg⟩ := hrg
      obtain ⟨a, rfl⟩ := Int.eq_ofNat_of_zero_le ha0
      have hal : a < acts.length := by omega
      obtain ⟨ba, oa, rfl, hba, d0, d1, d2, d3, d4, d5⟩ := rdAct (HN.out.a.grow HC.out.bel) rfl a hal
      rw [ag_nat acts a hal] at Hb Hf Hw
      have hbd := HS.out.a acts[a] (List.getElem_mem hal)
      generalize acts[a] = aa at *
      obtain ⟨kd, fr, tt, mn, mx, wt⟩ := aa
      simp only at d0 d1 d2 d3 d4 d5 hbd Hb Hf Hw
      obtain ⟨hm0, hm1, hm2⟩ := hbd
      have x2 := HC.out.x.cell 2
      simp at x2
      have hxl := HC.out.x.lt
      have hyl := HC.out.y.lt
      have hba' : ba < wr.heap.size := World.block_lt_of_cell? _ _ d0
      have hbr' : br < wr.heap.size := World.block_lt_of_cell? _ _ r0
      go_upto_region 4 with fail
      go_region
      go_upto_region 5 with fail
      have hal9 : Below wr.heap.size wr (wr.alloc (.cells #[.int .i64 kd, .int .i64 fr, .int .i64 tt, .int .i64 mn, .int .i64 mx, .int .i64 wt] 61)).drew := ((Below.refl _ _).alloc (Nat.le_refl _) _).drew
      refine world_gen (fun w6 => CBx w w6 X Y #[.int .i64 T, .slice AE ne ce, .slice (some ⟨ba, oa, none⟩) acts.length ca] #[.slice (some ⟨br, orr, none⟩) arcs.length cr, .slice (some ⟨bs, os, none⟩) signs.length cs] ∧ Blk w6 wr.heap.size 61 #[.int .i64 kd, .int .i64 fr, .int .i64 tt, .int .i64 mn, .int .i64 mx, .int .i64 wt] ∧ Below wr.heap.size wr w6) ⟨HC.out.grow hal9, Blk.new _ _ _, hal9⟩ ?_
      rintro w6 ⟨hc6, ha6, hb6⟩
      have HC6 := Lib.hid hc6
      have s6 := cell_bel hb6 s0
      have d3 := ha6.cell 3
      have d4 := ha6.cell 4
      simp at d3 d4
      clear hc6 ha6 hb6 hal9 HC x2 y0 hxl hyl r0 s0 hba hba' hbr hbr'
      have y1 := HC6.out.y.cell 1
      simp at y1
      rcases hsg with rfl | rfl
      · rw [if_pos rfl] at Hf Hw
        rw [Int.one_mul] at Hb
        rw [Int.add_zero] at Hw
        go_wp2_with fail
        go_roundg (arcs.length - j - 1)
        case measure => have := Hj.out; omega
        case rel => exact ⟨j + 1, by first | rfl | go_num, by omega, by rw [Hb.out], by rw [Hf.out], by rw [Hw.out], HC6.out⟩
      · rw [if_neg (by omega)] at Hf Hw
        rw [Int.add_zero] at Hf
        have hbe : vb + -1 * mn = vb - mn := by omega
        rw [hbe] at Hb
        clear hbe
        go_wp2_with fail
        go_roundg (arcs.length - j - 1)
        case measure => have := Hj.out; omega
        case rel => exact ⟨j + 1, by first | rfl | go_num, by omega, by rw [Hb.out], by rw [Hf.out], by rw [Hw.out], HC6.out⟩
    · obtain rfl : j = arcs.length := by have := Hj.out; omega
      go_wp2_with fail
      go_ret3
      exact ⟨rfl, HC.out.bel⟩

set_option maxRecDepth 100000 in
set_option maxHeartbeats 3200000 in
theorem rwind_any (T : Int) (AE AA Ar As : Option Addr) (ne ce ca cr cs : Nat) (acts : List Act) (arcs signs : List Int) (w : World) (hN : NCyc w AA Ar As ne acts arcs signs) (hcr : arcs.length ≤ cr) :
    Calls Try.prog 46 #[.agg #[.int .i64 T, .slice AE ne ce, .slice AA acts.length ca], .agg #[.slice Ar arcs.length cr, .slice As signs.length cs]] w (WinOut T ne acts arcs signs w) := by
  have HN := Lib.hid hN
  clear hN
  have HC0 := Lib.hid (show CBx w ((w.alloc (.cells #[.int .i64 T, .slice AE ne ce, .slice AA acts.length ca] 26)).alloc (.cells #[.slice Ar arcs.length cr, .slice As signs.length cs] 45)) w.heap.size (w.heap.size + 1) #[.int .i64 T, .slice AE ne ce, .slice AA acts.length ca] #[.slice Ar arcs.length cr, .slice As signs.length cs] from
    ⟨(Blk.new _ _ _).al _, by have := Blk.new (w.alloc (.cells #[.int .i64 T, .slice AE ne ce, .slice AA acts.length ca] 26)) 45 #[.slice Ar arcs.length cr, .slice As signs.length cs]; simpa using this, (by repeat (first | exact Below.refl _ _ | (with_reducible refine Below.drew ?_) | (with_reducible refine below_drewN ?_ _) | (with_reducible refine Below.alloc ?_ (by first | omega | (simp; done) | (simp; omega)) _) | (with_reducible refine Below.setCell ?_ (by first | omega | (simp; done) | (simp; omega)) _) | (refine Below.trans ?_ (Below.mono (by with_reducible assumption) (by first | omega | (simp; done) | (simp; omega))))))⟩)
  go_enter Try.func46, Try.ntmps46
  go_upto_region 1 with fail
  refine world_gen (fun w' => CBx w w' w.heap.size (w.heap.size + 1) #[.int .i64 T, .slice AE ne ce, .slice AA acts.length ca] #[.slice Ar arcs.length cr, .slice As signs.length cs]) HC0.out ?_
  intro w0 hc0
  have HC := Lib.hid hc0
  clear hc0 HC0
  obtain ⟨X, hX⟩ : ∃ X, X = w.heap.size := ⟨_, rfl⟩
  obtain ⟨Y, hY⟩ : ∃ Y, Y = w.heap.size + 1 := ⟨_, rfl⟩
  rw [← hY, ← hX] at ⊢
  rw [← hY, ← hX] at HC
  have hXY : w.heap.size ≤ X ∧ w.heap.size ≤ Y ∧ X ≠ Y ∧ Y ≤ w.heap.size + 1 ∧ X < Y := by omega
  obtain ⟨hXw, hYw, hne, hYw1, hXltY⟩ := hXY
  clear hX hY
  have x0 := HC.out.x.cell 0
  have x1 := HC.out.x.cell 1
  have x2 := HC.out.x.cell 2
  have y0 := HC.out.y.cell 0
  have y1 := HC.out.y.cell 1
  simp at x0 x1 x2 y0 y1
  go_wp2_with fail
  refine (rcycchk_any T AE AA Ar As ne ce ca cr cs acts arcs signs _ (HN.out.grow HC.out.bel) hcr).mono ?_
  rintro e w1 ⟨rfl, hb1⟩
  have HC1 := Lib.hid (HC.out.grow hb1)
  clear HC hb1 x0 x1 x2 y0 y1
  have HC := HC1
  clear HC1
  cases hk : cycB T ne acts arcs signs
  case false =>
    have HO := Lib.hid (show okW T ne acts arcs signs = false by unfold okW; rw [hk]; rfl)
    go_wp2_with fail
    go_ret3
    exact ⟨by unfold winL winH; rw [HO.out]; rfl, HC.out.bel⟩
  have hk' := cycB_iff.1 hk
  have HK := Lib.hid hk'
  have hbd := hk'.bd
  have ht0 := hk'.net.t0
  have ht1 := hk'.net.t1
  have HKB := Lib.hid hk
  clear hk' hk
  have x0 := HC.out.x.cell 0
  have x1 := HC.out.x.cell 1
  have x2 := HC.out.x.cell 2
  have y0 := HC.out.y.cell 0
  have y1 := HC.out.y.cell 1
  simp at x0 x1 x2 y0 y1
  go_wp2_with fail
  refine (rsums_any T AE AA Ar As ne ce ca cr cs acts arcs signs _ (HN.out.grow HC.out.bel) HK.out.sum).mono ?_
  rintro e w2 ⟨rfl, hb2⟩
  have HC1 := Lib.hid (HC.out.grow hb2)
  clear HC hb2 x0 x1 x2 y0 y1
  have HC := HC1
  clear HC1
  rw [show sumN (bsT acts arcs signs) arcs.length = bsS acts arcs signs from rfl, show sumN (fwT acts arcs signs) arcs.length = fwS acts arcs signs from rfl, show sumN (bwT acts arcs signs) arcs.length = bwS acts arcs signs from rfl]
  have Hlo : Hid (loW T acts arcs signs = cdiv (bsS acts arcs signs - bwS acts arcs signs) T) := rfl
  have Hhi : Hid (hiW T acts arcs signs = (bsS acts arcs signs + fwS acts arcs signs) / T) := rfl
  generalize bsS acts arcs signs = vb at *
  generalize fwS acts arcs signs = vf at *
  generalize bwS acts arcs signs = vw at *
  obtain ⟨hb0, hb1, hf0, hf1, hw0, hw1⟩ := hbd
  have x0 := HC.out.x.cell 0
  have x1 := HC.out.x.cell 1
  have x2 := HC.out.x.cell 2
  have y0 := HC.out.y.cell 0
  have y1 := HC.out.y.cell 1
  simp at x0 x1 x2 y0 y1
  have hxl := HC.out.x.lt
  go_upto_region 4 with fail
  have e1 : IntKind.i64.wrap (vb - vw) = vb - vw := IntWalk.i64_in _ (by omega)
  have e2 : IntKind.i64.wrap (vb + vf) = vb + vf := IntWalk.i64_in _ (by omega)
  go_quiet (first | (go_at_call 61; exact Calls.quiet_of_same ((rceil_any _ _ _ (by omega) (by omega) (by omega)).mono fun _ _ h => ⟨h.1, h.2.symm⟩)) | (go_at_call 62; exact Calls.quiet_of_same ((rfloor_any _ _ _ (by omega) (by omega) (by omega)).mono fun _ _ h => ⟨h.1, h.2.symm⟩)))
  clear e1 e2
  by_cases hle : cdiv (vb - vw) T ≤ (vb + vf) / T
  · have HO := Lib.hid (show okW T ne acts arcs signs = true by unfold okW; rw [HKB.out, Hlo.out, Hhi.out]; simpa using hle)
    have hle' : decide ((vb + vf) / T < cdiv (vb - vw) T) = false := by simpa using hle
    go_wp2_with fail
    go_ret3
    exact ⟨by unfold winL winH; rw [HO.out, if_pos rfl, if_pos rfl, Hlo.out, Hhi.out]; rfl, (by have hbelh := HC.out.bel; have hbels := hbelh.size; exact (by repeat (first | exact Below.refl _ _ | (with_reducible refine Below.drew ?_) | (with_reducible refine below_drewN ?_ _) | (with_reducible refine Below.alloc ?_ (by first | omega | (simp; done) | (simp; omega)) _) | (with_reducible refine Below.setCell ?_ (by first | omega | (simp; done) | (simp; omega)) _) | (refine Below.trans ?_ (Below.mono (by with_reducible assumption) (by first | omega | (simp; done) | (simp; omega)))))))⟩
  · have HO := Lib.hid (show okW T ne acts arcs signs = false by unfold okW; rw [HKB.out, Hlo.out, Hhi.out]; simpa using hle)
    have hle' : decide ((vb + vf) / T < cdiv (vb - vw) T) = true := by simpa using hle
    go_wp2_with fail
    go_ret3
    exact ⟨by unfold winL winH; rw [HO.out]; rfl, (by have hbelh := HC.out.bel; have hbels := hbelh.size; exact (by repeat (first | exact Below.refl _ _ | (with_reducible refine Below.drew ?_) | (with_reducible refine below_drewN ?_ _) | (with_reducible refine Below.alloc ?_ (by first | omega | (simp; done) | (simp; omega)) _) | (with_reducible refine Below.setCell ?_ (by first | omega | (simp; done) | (simp; omega)) _) | (refine Below.trans ?_ (Below.mono (by with_reducible assumption) (by first | omega | (simp; done) | (simp; omega)))))))⟩

end Go.Proofs.Ytbmbdenjlbelaaa
