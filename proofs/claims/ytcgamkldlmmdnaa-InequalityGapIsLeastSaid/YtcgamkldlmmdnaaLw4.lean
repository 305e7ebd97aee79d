import Derived.Test.YtcgamkldlmmdnaaLw3
namespace Go.Proofs.Ytcgamkldlmmdnaa
open Go.RowKit

def gslT (T : Int) (acts : List Act) (arcs x : List Int) (i : Nat) : Int := gi (slkL T acts x) (gi arcs i)
theorem gsl_bd {T : Int} {ne : Nat} {acts : List Act} {arcs signs x : List Int} (hk : CycOk T ne acts arcs signs) (i : Nat) (hi : i < arcs.length) : 0 ≤ gslT T acts arcs x i ∧ gslT T acts arcs x i ≤ 7200 :=
  (slkL_ok (acts := acts) (x := x) hk.net.t0 hk.net.t1).get _ (hk.arc i hi).a0 (hk.arc i hi).a1
theorem gslN_bd {T : Int} {ne : Nat} {acts : List Act} {arcs signs x : List Int} (hk : CycOk T ne acts arcs signs) (k : Nat) (hkl : k ≤ arcs.length) : 0 ≤ sumN (gslT T acts arcs x) k ∧ sumN (gslT T acts arcs x) k ≤ 4000000 := by
  have := sumN_bd (gslT T acts arcs x) 0 7200 k (fun i hi => gsl_bd hk i (by omega))
  have := hk.sum.n
  omega
theorem gp_num {T : Int} {ne : Nat} {acts : List Act} {arcs signs x : List Int} (hk : CycOk T ne acts arcs signs) (hf : feas T acts x) : okW T ne acts arcs signs = true ∧ 0 ≤ gapV T ne acts arcs signs ∧ gapV T ne acts arcs signs ≤ sumN (gslT T acts arcs x) arcs.length := gap_law hk hf
def GpL (w : World) (X Y : Nat) (T : Int) (AE AA : Option Addr) (ne ce ca : Nat) (acts : List Act) (Ar : Option Addr) (cr : Nat) (As : Option Addr) (cs : Nat) (arcs signs : List Int) (At : Option Addr) (x xx : List Int) (k : Nat) (v11 v : Value) (wr : World) : Prop :=
  ∃ j : Nat, v = .int .i64 j ∧ j + k = arcs.length ∧ v11 = .int .i64 (sumN (gslT T acts arcs xx) j) ∧ LwT w wr X Y T AE AA ne ce ca acts Ar cr As cs arcs signs At x

set_option maxRecDepth 100000 in
set_option maxHeartbeats 1600000 in
theorem gapLeast_true (A0 : Option Addr) (n0 c0 : Nat) (z0 : List Int) (A1 : Option Addr) (n1 c1 : Nat) (z1 : List Int) (k : Int) (w : World) (h0 : Rd w w.heap.size 1 A0 n0 (z0.map (Value.int .i64))) (m0 : n0 ≤ c0 ∧ c0 ≤ maxLen ∧ c0 * 8 ≤ 140737488351232) (h1 : Rd w w.heap.size 1 A1 n1 (z1.map (Value.int .i64))) (m1 : n1 ≤ c1 ∧ c1 ≤ maxLen ∧ c1 * 8 ≤ 140737488351232) (_hk : (Lit.int .i64 k).wf = true) :
    Calls Try.prog 7 #[.slice A0 n0 c0, .slice A1 n1 c1, .int .i64 k] w fun e w' => e = .returned (.bool true) ∧ Below w.heap.size w w' := by
  have H0 := Lib.hid h0
  have H1 := Lib.hid h1
  have Hm0 := Lib.hid (show n0 ≤ maxLen by omega)
  have Hm1 := Lib.hid (show n1 ≤ maxLen by omega)
  clear h0 h1 m0 m1
  go_enter Try.func7, Try.ntmps7
  go_wp2_with fail
  refine (mkslack_any A0 n0 c0 z0 w H0.out Hm0.out).mono ?_
  rintro e w1 ⟨T, AE, AA, ne, ce, ca, acts, rfl, hsm, ho, hb1⟩
  have HN := Lib.hid hsm.ok
  have ht0 := hsm.t0
  have ht1 := hsm.t1
  have hne := hsm.e1
  have hna := hsm.n
  have Hb1 := Lib.hid hb1
  have HA1 := Lib.hid (Rd.of_own ho)
  clear hsm ho hb1
  go_upto_region 2 with fail
  refine world_gen (fun w2 => LwN w w2 w1.heap.size T AE AA ne ce ca acts) (LwN.mk' Hb1.out HA1.out) ?_
  intro w2 hl2
  generalize w1.heap.size = X at *
  have HL := Lib.hid hl2
  clear hl2 Hb1 HA1
  have x0 := HL.out.x.cell 0
  have x1 := HL.out.x.cell 1
  have x2 := HL.out.x.cell 2
  simp at x0 x1 x2
  go_wp2_with fail
  refine (times_any T AE AA A1 ne ce acts.length ca n1 c1 z1 w2 ((H1.out.grow HL.out.bel).more HL.out.bel.size) Hm1.out (by omega) (by omega) (by omega)).mono ?_
  rintro e w5 ⟨At, ct, x, rfl, hxn, hxr, hrx, hb5⟩
  have HX5 := Lib.hid (show TmOk T ne x from ⟨hxn, hxr⟩)
  have HR5 := Lib.hid hrx
  have HL5 := Lib.hid (HL.out.grow hb5)
  clear hxn hxr hrx hb5 x0 x1 x2 HL
  have HL := HL5
  clear HL5
  have x0 := HL.out.x.cell 0
  have x1 := HL.out.x.cell 1
  have x2 := HL.out.x.cell 2
  simp at x0 x1 x2
  go_wp2_with fail
  refine (lfund_any T AE AA ne ce ca acts _ HL.out.a HN.out).mono ?_
  rintro e w3 ⟨hb3, Ac, cc, l, rfl, hm, hc, hr⟩
  have hll : l.length ≤ 8 := by
    have h := congrArg List.length hm
    rw [List.length_map] at h
    unfold fundF at h
    split at h
    · have := fundL_len ne acts (treeF T ne acts) acts.length; omega
    · rw [List.length_nil] at h; omega
  have HL3 := Lib.hid (HL.out.grow hb3)
  have HCs := Lib.hid hr
  have HCk := Lib.hid hc
  have HR3 := Lib.hid ((HR5.out.grow hb3).more hb3.size)
  clear hm hc hr hb3 x0 x1 x2 HL
  have HL := HL3
  clear HL3
  clear HR5
  cases l with
  | nil =>
    go_wp2_with fail
    refine (awake_any w3).mono ?_
    rintro e w4 ⟨rfl, hb4⟩
    have HB4 := Lib.hid (HL.out.grow hb4).bel
    clear hb4
    go_wp2_with fail
    go_ret
    exact ⟨rfl, HB4.out⟩
  | cons cq lt =>
  generalize hl : cq :: lt = l at *
  have hl1 : 1 ≤ l.length := by rw [← hl]; simp
  have Hl := Lib.hid hl
  clear hl
  have hl0' : ¬ l = [] := fun h => by rw [h] at hl1; simp at hl1
  have hl0 : ((l.length : Int) == 0) = false := by rw [beq_eq_false_iff_ne]; omega
  have x0 := HL.out.x.cell 0
  have x1 := HL.out.x.cell 1
  have x2 := HL.out.x.cell 2
  simp at x0 x1 x2
  go_wp2_with fail
  refine (feasible_any T AE AA At ne ce ca ct acts x w3 HL.out.a HN.out HR3.out HX5.out).mono ?_
  rintro e w6 ⟨rfl, hb6⟩
  have HL6 := Lib.hid (HL.out.grow hb6)
  have HCs6 := Lib.hid (HCs.out.grow hb6)
  have HR6 := Lib.hid ((HR3.out.grow hb6).more hb6.size)
  clear HL HCs HR3 hb6 x0 x1 x2
  have HL := HL6
  have HCs := HCs6
  clear HL6 HCs6
  cases hfb : feasB T acts x
  case false =>
    clear hfb
    go_wp2_with fail
    refine (awake_any w6).mono ?_
    rintro e w4 ⟨rfl, hb4⟩
    have HB4 := Lib.hid (HL.out.grow hb4).bel
    clear hb4
    go_wp2_with fail
    go_ret
    exact ⟨rfl, HB4.out⟩
  have HFe := Lib.hid (feasB_iff.1 hfb)
  clear hfb
  have hpk := pick_bd k l.length (by omega) (by omega)
  obtain ⟨hp0, hp1⟩ := hpk
  generalize hpkv : pick k l.length = pk at *
  have Hpkv := Lib.hid hpkv
  clear hpkv
  obtain ⟨p, rfl⟩ := Int.eq_ofNat_of_zero_le hp0
  have hpl : p < l.length := by omega
  obtain ⟨bc, oc, rfl, hbc, d0, d1⟩ := rdCyc HCs.out.r rfl p hpl
  have HCy := Lib.hid (HCs.out.c l[p] (List.getElem_mem hpl))
  have HK := Lib.hid (HCk.out l[p] (List.getElem_mem hpl))
  generalize l[p] = cy at *
  obtain ⟨Ar, cr, As, cs, arcs, signs⟩ := cy
  simp only at d0 d1 HCy HK
  have hbc' : bc < (w6).heap.size := World.block_lt_of_cell? _ _ d0
  go_upto_region 7 with (go_at_call 15; refine (pick_any _ _ _ (by omega) (by omega)).mono ?_; rintro e w' ⟨rfl, rfl⟩; rw [Hpkv.out])
  refine world_gen (fun w4 => LwT w w4 X w6.heap.size T AE AA ne ce ca acts Ar cr As cs arcs signs At x) (LwT.mk' HL.out HCy.out HR6.out) ?_
  intro w4 hl4
  have hXY : X < w6.heap.size := HL.out.x.lt
  generalize w6.heap.size = Y at *
  have HT := Lib.hid hl4
  clear hl4 HL d0 d1 hbc hbc' HCs HCk Hpkv hl0 hl0' Hl HCy HR6
  have hal := HK.out.sum.n
  have x0 := HT.out.c.n.x.cell 0
  have x1 := HT.out.c.n.x.cell 1
  have x2 := HT.out.c.n.x.cell 2
  have y0 := HT.out.c.y.cell 0
  have y1 := HT.out.c.y.cell 1
  simp at x0 x1 x2 y0 y1
  have hxl := HT.out.c.n.x.lt
  have hyl := HT.out.c.y.lt
  go_wp2_with fail
  refine (slacks_any T AE AA At ne ce ca ct acts x _ HT.out.c.n.a HN.out HT.out.t HX5.out).mono ?_
  rintro e w7 ⟨A7, c7, rfl, hr7, hb7⟩
  have HT7 := Lib.hid (show LwT w w7 X Y T AE AA ne ce ca acts Ar cr As cs arcs signs A7 (slkL T acts x) from ⟨HT.out.c.grow hb7, hr7⟩)
  have Hsl := Lib.hid (show (slkL T acts x).length = acts.length by simp [slkL])
  clear HT hb7 x0 x1 x2 y0 y1 hxl hyl hr7
  have HT := HT7
  clear HT7
  have y0 := HT.out.c.y.cell 0
  simp at y0
  go_wp2_with fail
  clear y0
  go_loopg [11, 13, 46] arcs.length (fun k v11 _ v wr => GpL w X Y T AE AA ne ce ca acts Ar cr As cs arcs signs A7 (slkL T acts x) x k v11 v wr)
  case atStart => exact ⟨0, rfl, by omega, rfl, HT.out⟩
  case round =>
    obtain ⟨j, rfl, hj, rfl, ht⟩ := hrel
    clear HT
    have Hj := Lib.hid hj
    have HT := Lib.hid ht
    clear hj ht
    by_cases hlt : j < arcs.length
    · obtain ⟨br, orr, rfl, hbr, r0⟩ := rd1 HT.out.c.c.r j hlt
      simp only at r0
      rw [← gi_nat arcs j hlt] at r0
      have hrg := HK.out.sum.rg j hlt
      have b1 := gslN_bd (x := x) HK.out j (by omega)
      have b2 := gsl_bd (x := x) HK.out j hlt
      have HSu : Hid (sumN (gslT T acts arcs x) (j + 1) = sumN (gslT T acts arcs x) j + gslT T acts arcs x j) := rfl
      have HDu := Lib.hid (show gslT T acts arcs x j = gi (slkL T acts x) (gi arcs j) from rfl)
      generalize sumN (gslT T acts arcs x) j = sv at *
      generalize gslT T acts arcs x j = dv at *
      generalize gi arcs j = ar at *
      obtain ⟨ha0, ha1, _⟩ := hrg
      obtain ⟨a, rfl⟩ := Int.eq_ofNat_of_zero_le ha0
      have hal2 : a < (slkL T acts x).length := by rw [Hsl.out]; omega
      obtain ⟨bs, os, rfl, hbs, s0⟩ := rd1 HT.out.t a hal2
      rw [← gi_nat _ a hal2, ← HDu.out] at s0
      clear HDu
      have x0 := HT.out.c.n.x.cell 0
      have x1 := HT.out.c.n.x.cell 1
      have x2 := HT.out.c.n.x.cell 2
      have y0 := HT.out.c.y.cell 0
      have y1 := HT.out.c.y.cell 1
      simp at x0 x1 x2 y0 y1
      have hxl := HT.out.c.n.x.lt
      have hyl := HT.out.c.y.lt
      go_wp2_with fail
      go_roundg (arcs.length - j - 1)
      case measure => have := Hj.out; omega
      case rel => exact ⟨j + 1, by first | rfl | go_num, by omega, by rw [HSu.out], HT.out⟩
    · obtain rfl : j = arcs.length := by have := Hj.out; omega
      have HM := Lib.hid (gp_num HK.out HFe.out)
      have b1 := gslN_bd (x := x) HK.out arcs.length (Nat.le_refl _)
      have x0 := HT.out.c.n.x.cell 0
      have x1 := HT.out.c.n.x.cell 1
      have x2 := HT.out.c.n.x.cell 2
      have y0 := HT.out.c.y.cell 0
      have y1 := HT.out.c.y.cell 1
      simp at x0 x1 x2 y0 y1
      have hxl := HT.out.c.n.x.lt
      have hyl := HT.out.c.y.lt
      go_wp2_with fail
      refine (gap_any T AE AA Ar As ne ce ca cr cs acts arcs signs wr (HT.out.c.ncyc (by omega) (by omega))).mono ?_
      rintro e w7 ⟨rfl, hb7⟩
      rw [HM.out.1]
      have HT7 := Lib.hid (HT.out.grow hb7)
      clear HT hb7 x0 x1 x2 y0 y1 hxl hyl
      have HT := HT7
      clear HT7
      generalize sumN (gslT T acts arcs x) arcs.length = sv at *
      generalize gapV T ne acts arcs signs = gv at *
      go_wp2_with fail
      refine (awake_any w7).mono ?_
      rintro e w8 ⟨rfl, hb8⟩
      have HT8 := Lib.hid (HT.out.grow hb8)
      clear HT hb8
      obtain ⟨_, g1, g2⟩ := HM.out
      go_wp2_with fail
      go_ret
      exact ⟨rfl, HT8.out.c.n.bel⟩
end Go.Proofs.Ytcgamkldlmmdnaa
