import Derived.Test.YtbmbdenjlbelaaaBp1
namespace Go.Proofs.Ytbmbdenjlbelaaa
open Go.RowKit
theorem packE_nil {T : Int} {ne : Nat} {acts : List Act} {l : List Cyc} {ps : List Prt} (h : ps.map prV = packO T ne acts l) (he : packE T ne acts l = 14) : ps = [] := by
  unfold packO at h
  rw [if_neg (by omega)] at h
  simpa using h

set_option maxRecDepth 100000 in
set_option maxHeartbeats 3200000 in
theorem infeasible_true (A0 : Option Addr) (n0 c0 : Nat) (z0 : List Int) (A1 : Option Addr) (n1 c1 : Nat) (z1 : List Int) (w : World) (h0 : Rd w w.heap.size 1 A0 n0 (z0.map (Value.int .i64))) (m0 : n0 ≤ c0 ∧ c0 ≤ maxLen ∧ c0 * 8 ≤ 140737488351232) (h1 : Rd w w.heap.size 1 A1 n1 (z1.map (Value.int .i64))) (m1 : n1 ≤ c1 ∧ c1 ≤ maxLen ∧ c1 * 8 ≤ 140737488351232) :
    Calls Try.prog 6 #[.slice A0 n0 c0, .slice A1 n1 c1] w fun e w' => e = .returned (.bool true) ∧ Below w.heap.size w w' := by
  have H0 := Lib.hid h0
  have H1 := Lib.hid h1
  have Hm0 := Lib.hid (show n0 ≤ maxLen by omega)
  have Hm1 := Lib.hid (show n1 ≤ maxLen by omega)
  clear h0 h1 m0 m1
  go_enter Try.func6, Try.ntmps6
  go_wp2_with fail
  refine (mknet_any A0 n0 c0 z0 w H0.out Hm0.out).mono ?_
  rintro e w1 ⟨T, AE, AA, ne, ce, ca, acts, rfl, hsm, ho, hb1⟩
  have HN := Lib.hid hsm.ok
  have ht0 := hsm.t0
  have ht1 := hsm.t1
  have hne := hsm.e1
  have hna := hsm.n
  have Hb1 := Lib.hid hb1
  have HA1 := Lib.hid (Rd.of_own ho)
  clear hsm ho hb1
  go_upto_region 2 with fail
  refine world_gen (fun w2 => LwN w w2 w1.heap.size T AE AA ne ce ca acts) (LwN.mk' Hb1.out HA1.out) ?_
  intro w2 hl2
  generalize w1.heap.size = X at *
  have HL := Lib.hid hl2
  clear hl2 Hb1 HA1
  have x0 := HL.out.x.cell 0
  have x1 := HL.out.x.cell 1
  have x2 := HL.out.x.cell 2
  simp at x0 x1 x2
  have hxl := HL.out.x.lt
  go_region_held3 (fun w' => w'.cell? ⟨X, 0, none⟩ = some (.int .i64 T) ∧ w'.cell? ⟨X, 1, none⟩ = some (.slice AE ne ce) ∧ w'.cell? ⟨X, 2, none⟩ = some (.slice AA acts.length ca))
    (first | go_keep | (go_split_ands; exact ⟨cell_bel hb7 (by assumption), cell_bel hb7 (by assumption), cell_bel hb7 (by assumption)⟩) | (go_split_ands; exact ⟨cell_bel hb6 (by assumption), cell_bel hb6 (by assumption), cell_bel hb6 (by assumption)⟩))
    (first | (go_at_call 22; refine (lfund_any3 T AE AA ne ce ca acts _ HL.out.drew.a HN.out).mono ?_; rintro e w6 ⟨hb6, Ac, cc, l, rfl, hm, hc, hr, _, _, _⟩; have hll := fund_len hm (by omega); have HCk := Lib.hid hc; have HCs := Lib.hid hr; have HL6 := Lib.hid (HL.out.drew.grow hb6); clear hm hc hr) | (go_at_call 21; refine (pack_any T AE AA Ac ne ce ca cc acts l _ HL6.out.a (by omega) (by omega) HCs.out (by omega)).mono ?_; rintro e w7 ⟨Ap, cp, ps, rfl, hps, hpo, hpc, hb7⟩; have HPs := Lib.hid hps; have HPr := Lib.hid (pack_rd hps hll hpo hpc); have HL7 := Lib.hid (HL6.out.grow hb7); have HBr := Lib.hid (show Below w2.heap.size w2 w7 from ((Below.refl _ _).drew.trans hb6).trans (hb7.mono ((Below.refl _ _).drew.trans hb6).size)); clear hps hpo hpc))
  clear x0 x1 x2 hxl HL HL6 HCs hb6 hb7
  have HL := HL7
  clear HL7
  have HEr := Lib.hid (packE_cyc HN.out HCk.out)
  have HE0 := Lib.hid (show ∀ x, packE T ne acts l = 14 → feasB T acts x = false from fun x h14 => by
    cases hb : feasB T acts x with
    | false => rfl
    | true => have := packE_feas HN.out (feasB_iff.1 hb) HCk.out; omega)
  generalize packE T ne acts l = er at *
  generalize packB T ne acts l = bv at *
  clear HBr HPs HPr HCk
  go_upto_region 3 with fail
  rcases HEr.out with rfl | rfl
  · clear HEr HE0
    refine wp_region_overL (by kernel_rfl) (by kernel_rfl) ?_
    repeat (go_big_quiet_step ((go_at_call 18; exact callsOver (awake_any _))))
    refine wpQuiet_nil ?_
    intro w9 hb9
    have HB9 := Lib.hid (HL.out.grow hb9).bel
    clear hb9
    go_wp2_with fail
    go_ret
    exact ⟨rfl, HB9.out⟩
  · have x0 := HL.out.x.cell 0
    have x1 := HL.out.x.cell 1
    have x2 := HL.out.x.cell 2
    simp at x0 x1 x2
    have hxl := HL.out.x.lt
    go_region_held3 (fun w' => w'.cell? ⟨X, 0, none⟩ = some (.int .i64 T) ∧ w'.cell? ⟨X, 1, none⟩ = some (.slice AE ne ce) ∧ w'.cell? ⟨X, 2, none⟩ = some (.slice AA acts.length ca))
      (first | go_keep | (go_split_ands; exact ⟨cell_bel hba (by assumption), cell_bel hba (by assumption), cell_bel hba (by assumption)⟩) | (go_split_ands; exact ⟨cell_bel hb9 (by assumption), cell_bel hb9 (by assumption), cell_bel hb9 (by assumption)⟩) | (go_split_ands; exact ⟨cell_bel hb8 (by assumption), cell_bel hb8 (by assumption), cell_bel hb8 (by assumption)⟩))
      (first | (go_at_call 18; refine (awake_any _).mono ?_; rintro e w8 ⟨rfl, hb8⟩; have HL8 := Lib.hid (HL.out.drew.grow hb8)) | (go_at_call 14; refine (times_any T AE AA A1 ne ce acts.length ca n1 c1 z1 _ ((H1.out.grow HL8.out.bel).more HL8.out.bel.size) Hm1.out (by omega) (by omega) (by omega)).mono ?_; rintro e w9 ⟨At, ct, x, rfl, hxn, hxr, hrx, hb9⟩; have HX9 := Lib.hid (show TmOk T ne x from ⟨hxn, hxr⟩); have HR9 := Lib.hid hrx; have HL9 := Lib.hid (HL8.out.grow hb9); clear hxn hxr hrx) | (go_at_call 17; refine (feasible_any T AE AA At ne ce ca ct acts x w9 HL9.out.a HN.out HR9.out HX9.out).mono ?_; rintro e wa ⟨rfl, hba⟩; have HLa := Lib.hid (HL9.out.grow hba)))
    rw [HE0.out x (by first | rfl | trivial)]
    go_wp2_with fail
    go_ret
    exact ⟨rfl, HLa.out.bel⟩

set_option maxRecDepth 100000 in
set_option maxHeartbeats 3200000 in
theorem packIsChecked_true (A0 : Option Addr) (n0 c0 : Nat) (z0 : List Int) (w : World) (h0 : Rd w w.heap.size 1 A0 n0 (z0.map (Value.int .i64))) (m0 : n0 ≤ c0 ∧ c0 ≤ maxLen ∧ c0 * 8 ≤ 140737488351232) :
    Calls Try.prog 11 #[.slice A0 n0 c0] w fun e w' => e = .returned (.bool true) ∧ Below w.heap.size w w' := by
  have H0 := Lib.hid h0
  have Hm0 := Lib.hid (show n0 ≤ maxLen by omega)
  clear h0 m0
  go_enter Try.func11, Try.ntmps11
  go_wp2_with fail
  refine (mknet_any A0 n0 c0 z0 w H0.out Hm0.out).mono ?_
  rintro e w1 ⟨T, AE, AA, ne, ce, ca, acts, rfl, hsm, ho, hb1⟩
  have HN := Lib.hid hsm.ok
  have ht0 := hsm.t0
  have ht1 := hsm.t1
  have hne := hsm.e1
  have hna := hsm.n
  have Hb1 := Lib.hid hb1
  have HA1 := Lib.hid (Rd.of_own ho)
  clear hsm ho hb1
  go_upto_region 2 with fail
  refine world_gen (fun w2 => LwN w w2 w1.heap.size T AE AA ne ce ca acts) (LwN.mk' Hb1.out HA1.out) ?_
  intro w2 hl2
  generalize w1.heap.size = X at *
  have HL := Lib.hid hl2
  clear hl2 Hb1 HA1
  have x0 := HL.out.x.cell 0
  have x1 := HL.out.x.cell 1
  have x2 := HL.out.x.cell 2
  simp at x0 x1 x2
  have hxl := HL.out.x.lt
  go_region_held3 (fun w' => w'.cell? ⟨X, 0, none⟩ = some (.int .i64 T) ∧ w'.cell? ⟨X, 1, none⟩ = some (.slice AE ne ce) ∧ w'.cell? ⟨X, 2, none⟩ = some (.slice AA acts.length ca))
    (first | go_keep | (go_split_ands; exact ⟨cell_bel hb7 (by assumption), cell_bel hb7 (by assumption), cell_bel hb7 (by assumption)⟩) | (go_split_ands; exact ⟨cell_bel hb6 (by assumption), cell_bel hb6 (by assumption), cell_bel hb6 (by assumption)⟩))
    (first | (go_at_call 22; refine (lfund_any3 T AE AA ne ce ca acts _ HL.out.drew.a HN.out).mono ?_; rintro e w6 ⟨hb6, Ac, cc, l, rfl, hm, hc, hr, _, _, _⟩; have hll := fund_len hm (by omega); have HCk := Lib.hid hc; have HCs := Lib.hid hr; have HL6 := Lib.hid (HL.out.drew.grow hb6); clear hm hc hr) | (go_at_call 21; refine (pack_any T AE AA Ac ne ce ca cc acts l _ HL6.out.a (by omega) (by omega) HCs.out (by omega)).mono ?_; rintro e w7 ⟨Ap, cp, ps, rfl, hps, hpo, hpc, hb7⟩; have HPs := Lib.hid hps; have HPr := Lib.hid (pack_rd hps hll hpo hpc); have HL7 := Lib.hid (HL6.out.grow hb7); have HBr := Lib.hid (show Below w2.heap.size w2 w7 from ((Below.refl _ _).drew.trans hb6).trans (hb7.mono ((Below.refl _ _).drew.trans hb6).size)); clear hps hpo hpc))
  clear x0 x1 x2 hxl HL HL6 HCs hb6 hb7
  have HL := HL7
  clear HL7
  have HEr := Lib.hid (packE_cyc HN.out HCk.out)
  have HNil := Lib.hid (show packE T ne acts l = 14 → ps = [] from packE_nil HPs.out)
  have HCh := Lib.hid (show packE T ne acts l = 0 → _ from fun h => pack_chk h ps HPs.out)
  generalize packE T ne acts l = er at *
  generalize packB T ne acts l = bv at *
  clear HBr HPs HCk
  rcases HEr.out with rfl | rfl
  case inr =>
    obtain rfl := HNil.out rfl
    clear HNil HCh HEr HPr
    go_wp2_with fail
    refine (awake_any w7).mono ?_
    rintro e w9 ⟨rfl, hb9⟩
    have HB9 := Lib.hid (HL.out.grow hb9).bel
    clear hb9
    go_wp2_with fail
    go_ret
    exact ⟨rfl, HB9.out⟩
  obtain ⟨hc0, hc1, hc2⟩ := HCh.out rfl
  have HC0 := Lib.hid hc0
  have HC1 := Lib.hid hc1
  clear HNil HCh HEr hc0 hc1
  have x0 := HL.out.x.cell 0
  have x1 := HL.out.x.cell 1
  have x2 := HL.out.x.cell 2
  simp at x0 x1 x2
  go_wp2_with fail
  refine (check_any T AE AA Ap ne ce ca cp acts ps w7 HL.out.a (by omega) (by omega) HPr.out).mono ?_
  rintro e w8 ⟨rfl, hb8⟩
  rw [HC0.out, HC1.out]
  have HL8 := Lib.hid (HL.out.grow hb8)
  clear HL hb8 x0 x1 x2 HPr HC0 HC1
  have HL := HL8
  clear HL8
  have x0 := HL.out.x.cell 0
  have x1 := HL.out.x.cell 1
  have x2 := HL.out.x.cell 2
  simp at x0 x1 x2
  go_wp2_with fail
  refine (rbase_any T AE AA ne ce ca acts w8 HL.out.a (by omega) (by omega)).mono ?_
  rintro e w9 ⟨rfl, hb9⟩
  rw [show baseV T ne acts = baseS acts by unfold baseV; rw [if_pos (netB_yes HN.out)]]
  have HL9 := Lib.hid (HL.out.grow hb9)
  clear HL hb9 x0 x1 x2
  generalize baseS acts = sv at *
  generalize baseE T ne acts = se at *
  have hle : decide (sv ≤ bv) = true := by simpa using hc2
  go_wp2_with fail
  refine (awake_any w9).mono ?_
  rintro e wa ⟨rfl, hba⟩
  have HBa := Lib.hid (HL9.out.grow hba).bel
  clear hba
  go_wp2_with fail
  go_ret
  exact ⟨rfl, HBa.out⟩
end Go.Proofs.Ytbmbdenjlbelaaa
