import Derived.Test.YtbmbdenjlbelaaaBl1
import Derived.Test.YtbmbdenjlbelaaaPk
namespace Go.Proofs.Ytbmbdenjlbelaaa
open Go.RowKit
theorem fund_len {T : Int} {ne : Nat} {acts : List Act} {l : List Cyc} (hm : l.map cyP = fundF ne acts (treeF T ne acts)) (hna : acts.length ≤ 512) : l.length ≤ 512 := by
  have h := congrArg List.length hm
  rw [List.length_map] at h
  unfold fundF at h
  split at h
  · have := fundL_len ne acts (treeF T ne acts) acts.length; omega
  · rw [List.length_nil] at h; omega
theorem pkAll_len {T : Int} {ne : Nat} {acts : List Act} {l : List Cyc} : ∀ k, (pkAll T ne acts l k).out.length ≤ k
  | 0 => by simp [pkAll, pkInit]
  | k + 1 => by
    have ih := pkAll_len (T := T) (ne := ne) (acts := acts) (l := l) k
    show (match l[k]? with | some c => pkStep T ne acts c.arcs c.signs (pkAll T ne acts l k) | none => pkAll T ne acts l k).out.length ≤ k + 1
    split
    · unfold pkStep
      split
      · omega
      · simp; omega
    · omega
theorem packO_len {T : Int} {ne : Nat} {acts : List Act} {l : List Cyc} : (packO T ne acts l).length ≤ l.length := by
  unfold packO
  split
  · exact pkAll_len _
  · simp
theorem pack_rd {T : Int} {ne : Nat} {acts : List Act} {l : List Cyc} {w : World} {A : Option Addr} {c base : Nat} {ps : List Prt} (hp : ps.map prV = packO T ne acts l) (hl : l.length ≤ 512) (ho : w.ownsRow base 47 3 (.slice A ps.length c) ps.length (ps.flatMap Prt.cells)) (hc : ∀ p ∈ ps, CyOwn w base p.c) : PrsRd w A ps := by
  have h1 : ps.length ≤ l.length := by
    have := congrArg List.length hp
    rw [List.length_map] at this
    have := packO_len (T := T) (ne := ne) (acts := acts) (l := l)
    omega
  exact ⟨Rd.of_own ho, fun p hp => (hc p hp).rd, by omega⟩

set_option maxRecDepth 100000 in
set_option maxHeartbeats 3200000 in
theorem packIsLower_true (A0 : Option Addr) (n0 c0 : Nat) (z0 : List Int) (A1 : Option Addr) (n1 c1 : Nat) (z1 : List Int) (w : World) (h0 : Rd w w.heap.size 1 A0 n0 (z0.map (Value.int .i64))) (m0 : n0 ≤ c0 ∧ c0 ≤ maxLen ∧ c0 * 8 ≤ 140737488351232) (h1 : Rd w w.heap.size 1 A1 n1 (z1.map (Value.int .i64))) (m1 : n1 ≤ c1 ∧ c1 ≤ maxLen ∧ c1 * 8 ≤ 140737488351232) :
    Calls Try.prog 5 #[.slice A0 n0 c0, .slice A1 n1 c1] w fun e w' => e = .returned (.bool true) ∧ Below w.heap.size w w' := by
  have H0 := Lib.hid h0
  have H1 := Lib.hid h1
  have Hm0 := Lib.hid (show n0 ≤ maxLen by omega)
  have Hm1 := Lib.hid (show n1 ≤ maxLen by omega)
  clear h0 h1 m0 m1
  go_enter Try.func5, Try.ntmps5
  go_wp2_with fail
  refine (mkslack_any A0 n0 c0 z0 w H0.out Hm0.out).mono ?_
  rintro e w1 ⟨T, AE, AA, ne, ce, ca, acts, rfl, hsm, ho, hb1⟩
  have HN := Lib.hid hsm.ok
  have ht0 := hsm.t0
  have ht1 := hsm.t1
  have hne := hsm.e1
  have hna := hsm.n
  have Hb1 := Lib.hid hb1
  have HA1 := Lib.hid (Rd.of_own ho)
  clear hsm ho hb1
  go_upto_region 2 with fail
  refine world_gen (fun w2 => LwN w w2 w1.heap.size T AE AA ne ce ca acts) (LwN.mk' Hb1.out HA1.out) ?_
  intro w2 hl2
  generalize w1.heap.size = X at *
  have HL := Lib.hid hl2
  clear hl2 Hb1 HA1
  have x0 := HL.out.x.cell 0
  have x1 := HL.out.x.cell 1
  have x2 := HL.out.x.cell 2
  simp at x0 x1 x2
  go_wp2_with fail
  refine (times_any T AE AA A1 ne ce acts.length ca n1 c1 z1 w2 ((H1.out.grow HL.out.bel).more HL.out.bel.size) Hm1.out (by omega) (by omega) (by omega)).mono ?_
  rintro e w5 ⟨At, ct, x, rfl, hxn, hxr, hrx, hb5⟩
  have HX5 := Lib.hid (show TmOk T ne x from ⟨hxn, hxr⟩)
  have HR5 := Lib.hid hrx
  have HL5 := Lib.hid (HL.out.grow hb5)
  clear hxn hxr hrx hb5 x0 x1 x2 HL
  have HL := HL5
  clear HL5
  go_upto_region 3 with fail
  have x0 := HL.out.x.cell 0
  have x1 := HL.out.x.cell 1
  have x2 := HL.out.x.cell 2
  simp at x0 x1 x2
  have hxl := HL.out.x.lt
  go_region_held3 (fun w' => w'.cell? ⟨X, 0, none⟩ = some (.int .i64 T) ∧ w'.cell? ⟨X, 1, none⟩ = some (.slice AE ne ce) ∧ w'.cell? ⟨X, 2, none⟩ = some (.slice AA acts.length ca))
    (first | go_keep | (go_split_ands; exact ⟨cell_bel hb7 (by assumption), cell_bel hb7 (by assumption), cell_bel hb7 (by assumption)⟩) | (go_split_ands; exact ⟨cell_bel hb6 (by assumption), cell_bel hb6 (by assumption), cell_bel hb6 (by assumption)⟩))
    (first | (go_at_call 22; refine (lfund_any3 T AE AA ne ce ca acts _ HL.out.drew.a HN.out).mono ?_; rintro e w6 ⟨hb6, Ac, cc, l, rfl, hm, hc, hr, _, _, _⟩; have hll := fund_len hm (by omega); have HCk := Lib.hid hc; have HCs := Lib.hid hr; have HL6 := Lib.hid (HL.out.drew.grow hb6); clear hm hc hr) | (go_at_call 21; refine (pack_any T AE AA Ac ne ce ca cc acts l _ HL6.out.a (by omega) (by omega) HCs.out (by omega)).mono ?_; rintro e w7 ⟨Ap, cp, ps, rfl, hps, hpo, hpc, hb7⟩; have HPs := Lib.hid hps; have HPr := Lib.hid (pack_rd hps hll hpo hpc); have HL7 := Lib.hid (HL6.out.grow hb7); have HBr := Lib.hid (show Below w5.heap.size w5 w7 from ((Below.refl _ _).drew.trans hb6).trans (hb7.mono ((Below.refl _ _).drew.trans hb6).size)); clear hps hpo hpc))
  clear x0 x1 x2 hxl HL HL6 HCs hb6 hb7
  have HL := HL7
  clear HL7
  have HR7 := Lib.hid ((HR5.out.grow HBr.out).more HBr.out.size)
  have HEr := Lib.hid (packE_cyc HN.out HCk.out)
  have HE0 := Lib.hid (show feas T acts x → packE T ne acts l = 0 from fun hf => packE_feas HN.out hf HCk.out)
  have HLw := Lib.hid (show feas T acts x → packE T ne acts l = 0 → packB T ne acts l ≤ sumN (coT T acts x) acts.length from fun hf h0 => by
    obtain ⟨h1, h2, _⟩ := pack_chk h0 ps HPs.out
    rw [← h2]
    exact lower_law hf h1)
  generalize packE T ne acts l = er at *
  generalize packB T ne acts l = bv at *
  clear HR5 HBr HPs HPr HCk
  have x0 := HL.out.x.cell 0
  have x1 := HL.out.x.cell 1
  have x2 := HL.out.x.cell 2
  simp at x0 x1 x2
  go_wp2_with fail
  refine (feasible_any T AE AA At ne ce ca ct acts x w7 HL.out.a HN.out HR7.out HX5.out).mono ?_
  rintro e w8 ⟨rfl, hb8⟩
  have HL8 := Lib.hid (HL.out.grow hb8)
  have HR8 := Lib.hid ((HR7.out.grow hb8).more hb8.size)
  clear HL HR7 hb8 x0 x1 x2
  have HL := HL8
  clear HL8
  cases hfb : feasB T acts x
  case false =>
    clear hfb
    rcases HEr.out with rfl | rfl
    all_goals
      go_wp2_with fail
      refine (awake_any w8).mono ?_
      rintro e w9 ⟨rfl, hb9⟩
      have HB9 := Lib.hid (HL.out.grow hb9).bel
      clear hb9
      go_wp2_with fail
      go_ret
      exact ⟨rfl, HB9.out⟩
  have hf := feasB_iff.1 hfb
  have h0 := HE0.out hf
  have hlw := HLw.out hf h0
  clear hf hfb HE0 HLw HEr
  subst h0
  have x0 := HL.out.x.cell 0
  have x1 := HL.out.x.cell 1
  have x2 := HL.out.x.cell 2
  simp at x0 x1 x2
  go_wp2_with fail
  refine (cost_any T AE AA At ne ce ca ct acts x w8 HL.out.a HN.out HR8.out HX5.out).mono ?_
  rintro e w9 ⟨rfl, hb9⟩
  have HL9 := Lib.hid (HL.out.grow hb9)
  clear HL hb9 x0 x1 x2
  generalize sumN (coT T acts x) acts.length = cv at *
  go_wp2_with fail
  refine (awake_any w9).mono ?_
  rintro e wa ⟨rfl, hba⟩
  have HBa := Lib.hid (HL9.out.grow hba).bel
  clear hba
  have hlw' : decide (bv ≤ cv) = true := by simpa using hlw
  go_wp2_with fail
  go_ret
  exact ⟨rfl, HBa.out⟩
end Go.Proofs.Ytbmbdenjlbelaaa
