import Derived.Test.YtcgamkldlmmdnaaRf3
namespace Go.Proofs.Ytcgamkldlmmdnaa
open Go.RowKit

set_option maxRecDepth 100000 in
set_option maxHeartbeats 3200000 in
theorem rseparate_any (T : Int) (AE AA Al Ac : Option Addr) (ne ce ca cl cc : Nat) (acts : List Act) (sl : List Int) (l : List Cyc) (w : World) (hA : Rd w w.heap.size 6 AA acts.length (acts.flatMap Act.cells)) (he : ne ≤ 4611686018427387904) (hla : acts.length ≤ 4611686018427387904)
    (hC : CysRd w Ac l) (hcap : ∀ c ∈ l, c.arcs.length ≤ c.cr) (hL : Rd w w.heap.size 1 Al sl.length (sl.map (Value.int .i64))) (hll : sl.length ≤ 4611686018427387904) :
    Calls Try.prog 26 #[.agg #[.int .i64 T, .slice AE ne ce, .slice AA acts.length ca], .slice Ac l.length cc, .slice Al sl.length cl] w (SepOut T ne acts sl l w) := by
  have HA := Lib.hid hA
  have HCs := Lib.hid hC
  have HCap := Lib.hid hcap
  have HSl := Lib.hid hL
  have hlc := hC.n
  clear hA hC hL hcap
  have HX0 := Lib.hid (Blk.new w 26 #[.int .i64 T, .slice AE ne ce, .slice AA acts.length ca])
  have HL0 := Lib.hid (show Below w.heap.size w (w.alloc (.cells #[.int .i64 T, .slice AE ne ce, .slice AA acts.length ca] 26)) from (Below.refl _ _).alloc (Nat.le_refl _) _)
  go_enter Try.func26, Try.ntmps26
  go_wp2_with fail
  go_loopg [9, 10, 11, 12, 13, 14] l.length (fun k v6 v7 v _ _ _ wr => Sp1 w T ne acts sl l w.heap.size #[.int .i64 T, .slice AE ne ce, .slice AA acts.length ca] k v6 v7 v wr)
  case atStart => exact ⟨0, -1, 0, rfl, by omega, rfl, rfl, rfl, HX0.out, HL0.out⟩
  case round =>
    obtain ⟨j, a, m, rfl, hj, rfl, rfl, hsp, hx, hbel⟩ := hrel
    clear HX0 HL0
    have Hj := Lib.hid hj
    have Hsp := Lib.hid hsp
    have HX := Lib.hid hx
    have HL := Lib.hid hbel
    clear hj hsp hx hbel
    by_cases hlt : j < l.length
    · obtain ⟨bc, oc, rfl, hbc, d0, d1⟩ := rdCyc (HCs.out.r.grow HL.out) rfl j hlt
      have HCy := Lib.hid (HCs.out.c l[j] (List.getElem_mem hlt))
      have HCp := Lib.hid (HCap.out l[j] (List.getElem_mem hlt))
      have hd := List.drop_eq_getElem_cons hlt
      rw [hd] at Hsp
      clear hd
      generalize l[j] = c at *
      obtain ⟨Ar, cr, As, cs, arcs, signs⟩ := c
      simp only at d0 d1 HCp
      have hxl := HX.out.lt
      have hbc' : bc < wr.heap.size := World.block_lt_of_cell? _ _ d0
      have x0 := HX.out.cell 0
      have x1 := HX.out.cell 1
      have x2 := HX.out.cell 2
      simp at x0 x1 x2
      have HNc : Hid (∀ w6, Below wr.heap.size wr w6 → NCyc w6 AA Ar As ne acts arcs signs) := fun w6 hb => by
        have hb' := HL.out.trans (hb.mono HL.out.size)
        exact (HCy.out.grow hb').ncyc ((HA.out.grow hb').more hb'.size) he hla
      have HSl6 : Hid (∀ w6, Below wr.heap.size wr w6 → Rd w6 w6.heap.size 1 Al sl.length (sl.map (Value.int .i64))) := fun w6 hb => by
        have hb' := HL.out.trans (hb.mono HL.out.size)
        exact (HSl.out.grow hb').more hb'.size
      go_upto_region 5 with fail
      refine wp_region_overL (by kernel_rfl) (by kernel_rfl) ?_
      repeat (go_big_quiet_step ((go_at_call 44; exact callsOver (rleft_any T AE AA Ar As Al ne ce ca cr cs cl acts arcs signs sl _ (HNc.out _ (over_below wr _)) HCp.out (HSl6.out _ (over_below wr _)) hll))))
      refine wpQuiet_nil ?_
      intro w7 hb7
      have d07 := cell_bel hb7 d0
      have d17 := cell_bel hb7 d1
      have HX7 := Lib.hid (HX.out.bel hb7)
      have HL7 := Lib.hid (HL.out.trans (hb7.mono HL.out.size))
      clear x0 x1 x2 d0 d1 HX HL hb7 hxl hbc' HNc HSl6
      by_cases h0 : leftE T ne acts arcs signs sl = 0
      case neg =>
        have HO := Lib.hid (show sepV T ne acts sl l = (0, 0, leftE T ne acts arcs signs sl) by rw [← Hsp.out]; unfold sepR; rw [if_neg h0])
        generalize leftE T ne acts arcs signs sl = er at *
        have h0' : (er != 0) = true := by simpa using h0
        go_wp2_with fail
        go_ret3
        exact ⟨by rw [HO.out]; rfl, HL7.out⟩
      have hbd := sep_bd h0
      have Hsp2 := Lib.hid (show (if m < rightV T ne acts arcs signs - leftV T ne acts arcs signs sl then sepR T ne acts sl (l.drop (j + 1)) (j + 1) j (rightV T ne acts arcs signs - leftV T ne acts arcs signs sl) else sepR T ne acts sl (l.drop (j + 1)) (j + 1) a m) = sepV T ne acts sl l by rw [← Hsp.out]; conv => rhs; unfold sepR; rw [if_pos h0])
      clear Hsp
      have x0 := HX7.out.cell 0
      have x1 := HX7.out.cell 1
      have x2 := HX7.out.cell 2
      simp at x0 x1 x2
      have hxl := HX7.out.lt
      have hbc' : bc < w7.heap.size := World.block_lt_of_cell? _ _ d07
      have HNc : Hid (∀ w6, Below w7.heap.size w7 w6 → NCyc w6 AA Ar As ne acts arcs signs) := fun w6 hb => by
        have hb' := HL7.out.trans (hb.mono HL7.out.size)
        exact (HCy.out.grow hb').ncyc ((HA.out.grow hb').more hb'.size) he hla
      have h0' : (leftE T ne acts arcs signs sl != 0) = false := by simpa using h0
      go_upto_region 8 with fail
      have HRv : Hid (∀ w6, Below w7.heap.size w7 w6 → Calls Try.prog 45 #[.agg #[.int .i64 T, .slice AE ne ce, .slice AA acts.length ca], .agg #[.slice Ar arcs.length cr, .slice As signs.length cs]] w6 fun e w' => e = .returned (.int .i64 (rightV T ne acts arcs signs)) ∧ Below w6.heap.size w6 w') := fun w6 hb => rright_any T AE AA Ar As ne ce ca cr cs acts arcs signs w6 (HNc.out w6 hb) HCp.out
      generalize rightV T ne acts arcs signs = rv at *
      generalize leftV T ne acts arcs signs sl = lv at *
      obtain ⟨hb0, hb1, hb2, hb3⟩ := hbd
      clear h0 h0'
      have e1 : IntKind.i64.wrap (rv - lv) = rv - lv := IntWalk.i64_in _ (by omega)
      refine wp_region_overL (by kernel_rfl) (by kernel_rfl) ?_
      repeat (go_big_quiet_step ((go_at_call 45; exact callsOver (HRv.out _ (over_below w7 _)))))
      refine wpQuiet_nil ?_
      intro w8 hb8
      clear e1
      have HX8 := Lib.hid (HX7.out.bel hb8)
      have HL8 := Lib.hid (HL7.out.trans (hb8.mono HL7.out.size))
      clear x0 x1 x2 HX7 HL7 hb8 hxl hbc' d07 d17 HNc HRv
      by_cases hm : m < rv - lv
      · rw [if_pos hm] at Hsp2
        go_wp2_with fail
        go_roundg (l.length - j - 1)
        case measure => have := Hj.out; omega
        case rel => exact ⟨j + 1, _, _, by first | rfl | go_num, by omega, rfl, rfl, Hsp2.out, HX8.out, HL8.out⟩
      · rw [if_neg hm] at Hsp2
        go_wp2_with fail
        go_roundg (l.length - j - 1)
        case measure => have := Hj.out; omega
        case rel => exact ⟨j + 1, _, _, by first | rfl | go_num, by omega, rfl, rfl, Hsp2.out, HX8.out, HL8.out⟩
    · have HO := Lib.hid (show sepV T ne acts sl l = (a, m, 0) by rw [← Hsp.out, List.drop_eq_nil_of_le (by omega)]; rfl)
      go_wp2_with fail
      go_ret3
      exact ⟨by rw [HO.out]; rfl, HL.out⟩
end Go.Proofs.Ytcgamkldlmmdnaa
