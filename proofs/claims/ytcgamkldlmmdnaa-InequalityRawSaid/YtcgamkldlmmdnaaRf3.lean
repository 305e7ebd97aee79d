import Derived.Test.YtcgamkldlmmdnaaRf2
namespace Go.Proofs.Ytcgamkldlmmdnaa
open Go.RowKit
attribute [local go_sem ↓] run_max_keep run_min_keep

set_option maxRecDepth 100000 in
set_option maxHeartbeats 3200000 in
theorem rleft_any (T : Int) (AE AA Ar As Al : Option Addr) (ne ce ca cr cs cl : Nat) (acts : List Act) (arcs signs sl : List Int) (w : World) (hN : NCyc w AA Ar As ne acts arcs signs) (hcr : arcs.length ≤ cr) (hL : Rd w w.heap.size 1 Al sl.length (sl.map (Value.int .i64))) (hll : sl.length ≤ 4611686018427387904) :
    Calls Try.prog 44 #[.agg #[.int .i64 T, .slice AE ne ce, .slice AA acts.length ca], .agg #[.slice Ar arcs.length cr, .slice As signs.length cs], .slice Al sl.length cl] w (LfOut T ne acts arcs signs sl w) := by
  have HN := Lib.hid hN
  have HSl := Lib.hid hL
  have hlA := hN.hl
  clear hN hL
  have HC0 := Lib.hid (show CBx w ((w.alloc (.cells #[.int .i64 T, .slice AE ne ce, .slice AA acts.length ca] 26)).alloc (.cells #[.slice Ar arcs.length cr, .slice As signs.length cs] 32)) w.heap.size (w.heap.size + 1) #[.int .i64 T, .slice AE ne ce, .slice AA acts.length ca] #[.slice Ar arcs.length cr, .slice As signs.length cs] from
    ⟨(Blk.new _ _ _).al _, by have := Blk.new (w.alloc (.cells #[.int .i64 T, .slice AE ne ce, .slice AA acts.length ca] 26)) 32 #[.slice Ar arcs.length cr, .slice As signs.length cs]; simpa using this, (by repeat (first | exact Below.refl _ _ | (with_reducible refine Below.drew ?_) | (with_reducible refine below_drewN ?_ _) | (with_reducible refine Below.alloc ?_ (by first | omega | (simp; done) | (simp; omega)) _) | (with_reducible refine Below.setCell ?_ (by first | omega | (simp; done) | (simp; omega)) _) | (refine Below.trans ?_ (Below.mono (by with_reducible assumption) (by first | omega | (simp; done) | (simp; omega))))))⟩)
  go_enter Try.func44, Try.ntmps44
  go_upto_region 1 with fail
  refine world_gen (fun w' => CBx w w' w.heap.size (w.heap.size + 1) #[.int .i64 T, .slice AE ne ce, .slice AA acts.length ca] #[.slice Ar arcs.length cr, .slice As signs.length cs]) HC0.out ?_
  intro w0 hc0
  have HC := Lib.hid hc0
  clear hc0 HC0
  obtain ⟨X, hX⟩ : ∃ X, X = w.heap.size := ⟨_, rfl⟩
  obtain ⟨Y, hY⟩ : ∃ Y, Y = w.heap.size + 1 := ⟨_, rfl⟩
  rw [← hY, ← hX] at ⊢
  rw [← hY, ← hX] at HC
  have hXY : w.heap.size ≤ X ∧ w.heap.size ≤ Y ∧ X ≠ Y ∧ Y ≤ w.heap.size + 1 ∧ X < Y := by omega
  obtain ⟨hXw, hYw, hne, hYw1, hXltY⟩ := hXY
  clear hX hY
  have x0 := HC.out.x.cell 0
  have x1 := HC.out.x.cell 1
  have x2 := HC.out.x.cell 2
  have y0 := HC.out.y.cell 0
  have y1 := HC.out.y.cell 1
  simp at x0 x1 x2 y0 y1
  go_wp2_with fail
  refine (rcycchk_any T AE AA Ar As ne ce ca cr cs acts arcs signs _ (HN.out.grow HC.out.bel) hcr).mono ?_
  rintro e w1 ⟨rfl, hb1⟩
  have HC1 := Lib.hid (HC.out.grow hb1)
  clear HC hb1 x0 x1 x2 y0 y1
  have HC := HC1
  clear HC1
  cases hk : cycB T ne acts arcs signs
  case false =>
    have HO := Lib.hid (leftE_arg (sl := sl) hk)
    go_wp2_with fail
    go_ret2
    exact ⟨by rw [HO.out.1, HO.out.2]; rfl, HC.out.bel⟩
  have hk' := cycB_iff.1 hk
  have HK := Lib.hid hk'
  have HKB := Lib.hid hk
  have hrb := res_bd hk'
  have ht0 := hk'.net.t0
  have ht1 := hk'.net.t1
  have hn5 := hk'.sum.n
  clear hk' hk
  have x0 := HC.out.x.cell 0
  have x1 := HC.out.x.cell 1
  have x2 := HC.out.x.cell 2
  have y0 := HC.out.y.cell 0
  have y1 := HC.out.y.cell 1
  simp at x0 x1 x2 y0 y1
  by_cases hle : sl.length = acts.length
  case neg =>
    have hle' : ((sl.length : Int) != (acts.length : Int)) = true := by simp; omega
    have HO := Lib.hid (leftE_rng (sl := sl) HKB.out (fun h => hle h.1))
    go_wp2_with fail
    go_ret2
    exact ⟨by rw [HO.out.1, HO.out.2]; rfl, HC.out.bel⟩
  have hle' : ((sl.length : Int) != (acts.length : Int)) = false := by simp [hle]
  have Hle := Lib.hid hle
  clear hle
  go_wp2_with fail
  clear x0 x1 x2 y0 y1 hle'
  go_loopg [8] sl.length (fun k v wr => Lf1 w sl X Y #[.int .i64 T, .slice AE ne ce, .slice AA acts.length ca] #[.slice Ar arcs.length cr, .slice As signs.length cs] k v wr)
  case atStart => exact ⟨0, rfl, by omega, fun i h hi => by omega, HC.out⟩
  case round =>
    obtain ⟨j, rfl, hj, hok, hcb⟩ := hrel
    clear HC
    have Hj := Lib.hid hj
    have Hok := Lib.hid hok
    have HC := Lib.hid hcb
    clear hj hok hcb
    by_cases hlt : j < sl.length
    · obtain ⟨bl, ol, rfl, hbl, l0⟩ := rd1 (HSl.out.grow HC.out.bel) j hlt
      have Hno := Lib.hid (show ¬ (0 ≤ sl[j] ∧ sl[j] ≤ 7200) → leftE T ne acts arcs signs sl = 4 ∧ leftV T ne acts arcs signs sl = 0 from fun h => leftE_rng HKB.out (fun hs => h (hs.2 _ (List.getElem_mem hlt))))
      have Hnx := Lib.hid (show (0 ≤ sl[j] ∧ sl[j] ≤ 7200) → ∀ i (h : i < sl.length), i < j + 1 → 0 ≤ sl[i] ∧ sl[i] ≤ 7200 from fun h1 i hi hij => by
        rcases Nat.lt_or_ge i j with h2 | h2
        · exact Hok.out i hi h2
        · obtain rfl : i = j := by omega
          exact h1)
      generalize sl[j] = sv at *
      by_cases g1 : 0 ≤ sv ∧ sv ≤ 7200
      · have hinB : inB sv 0 7200 = true := by simp [inB]; omega
        go_wp2_with (go_at_call 60; refine (rin_any _ _ _ _).mono ?_; rintro e w' ⟨rfl, rfl⟩)
        go_roundg (sl.length - j - 1)
        case measure => have := Hj.out; omega
        case rel => exact ⟨j + 1, by first | rfl | go_num, by omega, Hnx.out g1, HC.out⟩
      · have hinB : inB sv 0 7200 = false := by simp [inB]; omega
        have HO := Lib.hid (Hno.out g1)
        go_wp2_with (go_at_call 60; refine (rin_any _ _ _ _).mono ?_; rintro e w' ⟨rfl, rfl⟩)
        go_ret2
        exact ⟨by rw [HO.out.1, HO.out.2]; rfl, HC.out.bel⟩
    · have HSO := Lib.hid (show slOk acts sl from ⟨Hle.out, fun s hs => by
        obtain ⟨i, hi, rfl⟩ := List.getElem_of_mem hs
        exact Hok.out i hi (by omega)⟩)
      clear Hok Hj
      have x0 := HC.out.x.cell 0
      have x1 := HC.out.x.cell 1
      have x2 := HC.out.x.cell 2
      have y0 := HC.out.y.cell 0
      have y1 := HC.out.y.cell 1
      simp at x0 x1 x2 y0 y1
      go_wp2_with fail
      refine (rresid_any T AE AA Ar As ne ce ca cr cs acts arcs signs _ (HN.out.grow HC.out.bel) hcr).mono ?_
      rintro e w2 ⟨rfl, hb2⟩
      have HC1 := Lib.hid (HC.out.grow hb2)
      clear HC hb2 x0 x1 x2 y0 y1
      have HC := HC1
      clear HC1 hlt
      have HO := Lib.hid (leftE_ok (arcs := arcs) HKB.out HSO.out)
      have HR := Lib.hid (show leftR T ne acts arcs signs sl = sumN (lfT T (resV T ne acts arcs signs) arcs signs sl) arcs.length by rw [lfT_sum]; rfl)
      generalize resV T ne acts arcs signs = r at *
      obtain ⟨hr0, hr1⟩ := hrb
      go_wp2_with fail
      go_loopg [10, 11] arcs.length (fun k v10 v wr => RL2 w arcs signs sl T r X Y #[.int .i64 T, .slice AE ne ce, .slice AA acts.length ca] #[.slice Ar arcs.length cr, .slice As signs.length cs] k v10 v wr)
      case atStart => exact ⟨0, rfl, by omega, rfl, HC.out⟩
      case round =>
        obtain ⟨j, rfl, hj, rfl, hcb⟩ := hrel
        clear HC
        have Hj := Lib.hid hj
        have HC := Lib.hid hcb
        clear hj hcb
        have y0 := HC.out.y.cell 0
        simp at y0
        by_cases hlt : j < arcs.length
        · have hlts : j < signs.length := by have := HK.out.len; omega
          obtain ⟨br, orr, rfl, hbr, r0⟩ := rd1 (HN.out.r.grow HC.out.bel) j hlt
          obtain ⟨bs, os, rfl, hbs, s0⟩ := rd1 (HN.out.s.grow HC.out.bel) j hlts
          rw [← gi_nat arcs j hlt] at r0
          rw [← gi_nat signs j hlts] at s0
          have hac := HK.out.arc j hlt
          have ha0 := hac.a0
          have ha1 := hac.a1
          have hsg := hac.s
          have hsb := HSO.out.get _ ha0 ha1
          have hbd := lfN_bd HK.out HSO.out hr0 hr1 j (by omega)
          have hbt := lfT_bd HK.out HSO.out hr0 hr1 j hlt
          have HF : Hid (sumN (lfT T r arcs signs sl) (j + 1) = sumN (lfT T r arcs signs sl) j + lfT T r arcs signs sl j) := rfl
          rw [show lfT T r arcs signs sl j = if gi signs j = 1 then (T - r) * gi sl (gi arcs j) else r * gi sl (gi arcs j) from rfl] at hbt HF
          clear hac
          generalize sumN (lfT T r arcs signs sl) j = vf at *
          generalize gi arcs j = ar at *
          generalize gi signs j = sg at *
          obtain ⟨a, rfl⟩ := Int.eq_ofNat_of_zero_le ha0
          have hal : a < sl.length := by rw [Hle.out]; omega
          obtain ⟨bl, ol, rfl, hbl, l0⟩ := rd1 (HSl.out.grow HC.out.bel) a hal
          rw [gi_nat sl a hal] at hsb HF hbt
          generalize sl[a] = sv at *
          obtain ⟨hs0, hs1⟩ := hsb
          obtain ⟨hf0, hf1⟩ := hbd
          have x0 := HC.out.x.cell 0
          have y1 := HC.out.y.cell 1
          simp at x0 y1
          have hxl := HC.out.x.lt
          have hyl := HC.out.y.lt
          rcases hsg with rfl | rfl
          · rw [if_pos rfl] at HF hbt
            obtain ⟨ht2, ht3⟩ := hbt
            go_upto_region 15 with fail
            have e1 : IntKind.i64.wrap (T - r) = T - r := IntWalk.i64_in _ (by omega)
            have e2 : IntKind.i64.wrap ((T - r) * sv) = (T - r) * sv := IntWalk.i64_in _ (by omega)
            have e3 : IntKind.i64.wrap (vf + (T - r) * sv) = vf + (T - r) * sv := IntWalk.i64_in _ (by omega)
            go_quiet (fail)
            clear e1 e2 e3
            go_wp2_with fail
            go_roundg (arcs.length - j - 1)
            case measure => have := Hj.out; omega
            case rel => exact ⟨j + 1, by first | rfl | go_num, by omega, by rw [HF.out], HC.out.grow (below_drewN (Below.refl _ _) _)⟩
          · rw [if_neg (by decide)] at HF hbt
            obtain ⟨ht2, ht3⟩ := hbt
            go_wp2_with fail
            go_roundg (arcs.length - j - 1)
            case measure => have := Hj.out; omega
            case rel => exact ⟨j + 1, by first | rfl | go_num, by omega, by rw [HF.out], HC.out⟩
        · obtain rfl : j = arcs.length := by have := Hj.out; omega
          go_wp2_with fail
          go_ret2
          exact ⟨by rw [HO.out.1, HO.out.2, HR.out]; rfl, HC.out.bel⟩
end Go.Proofs.Ytcgamkldlmmdnaa
