import Derived.Test.YtcgamkldlmmdnaaLw6
namespace Go.Proofs.Ytcgamkldlmmdnaa
open Go.RowKit

set_option maxRecDepth 100000 in
set_option maxHeartbeats 3200000 in
theorem generated_true (A0 : Option Addr) (n0 c0 : Nat) (z0 : List Int) (A1 : Option Addr) (n1 c1 : Nat) (z1 : List Int) (k : Int) (w : World) (h0 : Rd w w.heap.size 1 A0 n0 (z0.map (Value.int .i64))) (m0 : n0 ≤ c0 ∧ c0 ≤ maxLen ∧ c0 * 8 ≤ 140737488351232) (h1 : Rd w w.heap.size 1 A1 n1 (z1.map (Value.int .i64))) (m1 : n1 ≤ c1 ∧ c1 ≤ maxLen ∧ c1 * 8 ≤ 140737488351232) (_hk : (Lit.int .i64 k).wf = true) :
    Calls Try.prog 10 #[.slice A0 n0 c0, .slice A1 n1 c1, .int .i64 k] w fun e w' => e = .returned (.bool true) ∧ Below w.heap.size w w' := by
  have H0 := Lib.hid h0
  have H1 := Lib.hid h1
  have Hm0 := Lib.hid (show n0 ≤ maxLen by omega)
  have Hm1 := Lib.hid (show n1 ≤ maxLen by omega)
  clear h0 h1 m0 m1
  go_enter Try.func10, Try.ntmps10
  go_wp2_with fail
  refine (mknet_any A0 n0 c0 z0 w H0.out Hm0.out).mono ?_
  rintro e w1 ⟨T, AE, AA, ne, ce, ca, acts, rfl, hsm, ho, hb1⟩
  have HN := Lib.hid hsm.ok
  have ht0 := hsm.t0
  have ht1 := hsm.t1
  have hne := hsm.e1
  have hna := hsm.n
  have Hb1 := Lib.hid hb1
  have HA1 := Lib.hid (Rd.of_own ho)
  clear hsm ho hb1
  go_upto_region 2 with fail
  refine world_gen (fun w2 => LwN w w2 w1.heap.size T AE AA ne ce ca acts) (LwN.mk' Hb1.out HA1.out) ?_
  intro w2 hl2
  generalize w1.heap.size = X at *
  have HL := Lib.hid hl2
  clear hl2 Hb1 HA1
  have x0 := HL.out.x.cell 0
  have x1 := HL.out.x.cell 1
  have x2 := HL.out.x.cell 2
  simp at x0 x1 x2
  go_wp2_with fail
  refine (lfund_any2 T AE AA ne ce ca acts _ HL.out.a HN.out).mono ?_
  rintro e w3 ⟨hb3, Ac, cc, l, rfl, hm, hc, hr, hcp⟩
  have hll : l.length ≤ 8 := by
    have h := congrArg List.length hm
    rw [List.length_map] at h
    unfold fundF at h
    split at h
    · have := fundL_len ne acts (treeF T ne acts) acts.length; omega
    · rw [List.length_nil] at h; omega
  have HL3 := Lib.hid (HL.out.grow hb3)
  have HCs := Lib.hid hr
  have HCk := Lib.hid hc
  have HCp := Lib.hid hcp
  skip
  clear hm hc hr hb3 hcp x0 x1 x2 HL
  have HL := HL3
  clear HL3
  cases l with
  | nil =>
    go_wp2_with fail
    refine (awake_any w3).mono ?_
    rintro e w4 ⟨rfl, hb4⟩
    have HB4 := Lib.hid (HL.out.grow hb4).bel
    clear hb4
    go_wp2_with fail
    go_ret
    exact ⟨rfl, HB4.out⟩
  | cons cq lt =>
  generalize hl : cq :: lt = l at *
  have hl1 : 1 ≤ l.length := by rw [← hl]; simp
  have Hl := Lib.hid hl
  clear hl
  have hl0' : ¬ l = [] := fun h => by rw [h] at hl1; simp at hl1
  have hl0 : ((l.length : Int) == 0) = false := by rw [beq_eq_false_iff_ne]; omega
  have HCap := Lib.hid (show ∀ i (h : i < l.length), (l[i]).arcs.length ≤ (l[i]).cr from fun i h => HCp.out _ (List.getElem_mem h))
  have hpk := pick_bd k l.length (by omega) (by omega)
  obtain ⟨hp0, hp1⟩ := hpk
  generalize hpkv : pick k l.length = pk at *
  have Hpkv := Lib.hid hpkv
  clear hpkv
  obtain ⟨p, rfl⟩ := Int.eq_ofNat_of_zero_le hp0
  have hpl : p < l.length := by omega
  obtain ⟨bc, oc, rfl, hbc, d0, d1⟩ := rdCyc HCs.out.r rfl p hpl
  have HCy := Lib.hid (HCs.out.c l[p] (List.getElem_mem hpl))
  have HCc := Lib.hid (HCap.out p hpl)
  clear HCap
  generalize l[p] = cy at *
  obtain ⟨Ar, cr, As, cs, arcs, signs⟩ := cy
  simp only at d0 d1 HCy HCc
  have x0 := HL.out.x.cell 0
  have x1 := HL.out.x.cell 1
  have x2 := HL.out.x.cell 2
  simp at x0 x1 x2
  have hxl := HL.out.x.lt
  have hbc' : bc < w3.heap.size := World.block_lt_of_cell? _ _ d0
  go_upto_region 5 with fail
  have e1 : IntKind.i64.wrap (2 * T) = 2 * T := IntWalk.i64_in _ (by omega)
  go_region_held3 (fun w' => w'.cell? ⟨X, 0, none⟩ = some (.int .i64 T) ∧ w'.cell? ⟨X, 1, none⟩ = some (.slice AE ne ce) ∧ w'.cell? ⟨X, 2, none⟩ = some (.slice AA acts.length ca) ∧ w'.cell? ⟨bc, oc + p * 2, none⟩ = some (.slice Ar arcs.length cr) ∧ w'.cell? ⟨bc, oc + p * 2 + 1, none⟩ = some (.slice As signs.length cs))
    (first | go_keep | (go_split_ands; (repeat (refine And.intro (cell_bel hb7 (by assumption)) ?_)); exact cell_bel hb7 (by assumption)) | (go_split_ands; (repeat (refine And.intro (cell_bel hb6 (by assumption)) ?_)); exact cell_bel hb6 (by assumption)) | (go_split_ands; (repeat (refine And.intro (cell_bel hb4 (by assumption)) ?_)); exact cell_bel hb4 (by assumption)))
    (first | (go_at_call 14; refine (awake_any _).mono ?_; rintro e w4 ⟨rfl, hb4⟩; have HL4 := Lib.hid (HL.out.drew.grow hb4)) | (go_at_call 15; refine (pick_any _ _ _ (by omega) (by omega)).mono ?_; rintro e wp ⟨rfl, rfl⟩; rw [Hpkv.out]) | (go_at_call 24; refine (list_any A1 n1 c1 acts.length (2 * T) z1 _ ((H1.out.grow HL4.out.bel).more HL4.out.bel.size) Hm1.out (by omega) (by omega) (by omega)).mono ?_; rintro e w6 ⟨At, ct, x, rfl, hxn, hxr, hrx, hb6⟩; have HR6 := Lib.hid hrx; have HL6 := Lib.hid (HL4.out.grow hb6); have HXl := Lib.hid (show x.length ≤ 4611686018427387904 by omega); have HN6 := Lib.hid (show NCyc w6 AA Ar As ne acts arcs signs from (((HCy.out.grow (Below.refl _ _).drew).grow hb4).grow hb6).ncyc HL6.out.a (by omega) (by omega)); clear hxn hxr hrx) | (go_at_call 31; refine (agrees_any T AE AA Ar As At ne ce ca cr cs ct acts arcs signs x _ HN6.out HCc.out HR6.out HXl.out).mono ?_; rintro e w7 ⟨rfl, hb7⟩))
  have HL7 := Lib.hid (HL6.out.grow hb7)
  clear x0 x1 x2 d0 d1 hxl hbc' e1 HL HL4 HL6 hb4 hb6 hb7
  go_wp2_with fail
  go_ret
  exact ⟨rfl, HL7.out.bel⟩
end Go.Proofs.Ytcgamkldlmmdnaa
