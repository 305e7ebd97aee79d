/- The law TopPlanExamples returns true: the given tied card Rows.TopPlanExamplesCardSaid, without conditions beyond what the card itself lays (the listed package-level variables hold what the program's text lays). -/
import Derived.Test.YtinjdcefagaaeaaGreatDoorQJp
import Derived.Test.YtinjdcefagaaeaaGreatDoorTie
import Derived.Test.YtinjdcefagaaeaaGreatDoorCards
import Derived.ProofKit
import Derived.OpenShut
import Derived.LaidMore
import Derived.Lay
import Derived.SevenTiedAt
import Derived.Stop.Joined
set_option linter.unusedVariables false
set_option linter.unusedSimpArgs false
namespace Go.Proofs.YtinjdcefagaaeaaGreatDoor.topPlanExamples
open Go.ChangeShapes Go.WideShapes Go.ChangeAt Go.RowKit
set_option linter.unusedVariables false
theorem own : ownKnob Tryz.prog.godebug = none := by kernel_rfl
/-- what the condition gives the walk: the two cells of 'sides' -/
theorem side_of_laid {W : World} (h : laidMetH Tryz.prog Rows.topPlanExamplesRow.laid W) : SideW W := by
  rw [MakeChecks.laidMetH_plain _ _ _ (by kernel_rfl)] at h
  obtain ⟨ps, ⟨g0, t0, cs0, fuel0, p0, q0, _, _, _, _, ⟨g, t, cs, fuel, p, q, hg, ht, hv, hd, _, _⟩, _⟩, _, _⟩ := h
  obtain rfl := Option.some.inj ((show Tryz.prog.globalNamed "railplan/layout.sides" = some 0 by kernel_rfl).symm.trans hg)
  obtain rfl := Option.some.inj ((show (Tryz.prog.globals[0]?).map (·.type) = some 312 by kernel_rfl).symm.trans ht)
  have c9 : Tryz.prog.cellsOf 9 = 1 := by kernel_rfl
  obtain ⟨xs, m, _, ex, _, hl, hel⟩ := DataW.trod_array Tryz.underlying312 hd
  have e3 : xs.map (·.1) = [.lit (.string [65]), .lit (.string [66])] := (DataW.agg.inj (Prod.mk.inj ex).1).symm
  have key : ∀ (r : Nat) (b : UInt8), r < 2 → (xs.map (·.1))[r]? = some (.lit (.string [b])) → W.cell? ⟨0, r, none⟩ = some (.string ⟨#[b]⟩) := by
    intro r b hr hx
    have hE := hel r hr
    rw [c9, Nat.mul_one, List.getElem?_eq_getElem (by omega)] at hE
    obtain ⟨s, e1, e2, _⟩ := DataW.trod_string Tryz.underlying9 hE
    rw [List.getElem?_map, List.getElem?_eq_getElem (by omega : r < xs.length), e2] at hx
    have hs : s = ⟨#[b]⟩ := by
      have h1 : s.data.toList = [b] := by simpa using hx
      have h2 : s.data = #[b] := Array.toList_inj.1 h1
      cases s
      simp only at h2
      rw [h2]
    rw [World.var?_cell hg hv r, ← hs]
    have : cs.toList[r]? = some (.string s) := by
      have h0 : ((cs.toList.drop r).take 1)[0]? = some (.string s) := by rw [e1]; rfl
      simpa using h0
    simpa using this
  exact ⟨key 0 65 (by omega) (by rw [e3]; rfl), key 1 66 (by omega) (by rw [e3]; rfl)⟩
set_option maxRecDepth 100000 in
theorem lifted (os : Os) (started : os.Started) (H : Type) (enc : TypeId × Value → H) :
    ReturnsInHanded {} Tryz.checked os 3 .any (fun w args => (Rows.topPlanExamplesSpec.pre enc Tryz.prog Tryz.f3 Rows.topPlanExamplesRow.domain false w args ∧ laidMetH Tryz.prog Rows.topPlanExamplesRow.laid w) ∧ sizedMet enc Tryz.prog Tryz.f3 (OpenSpec.ofChange Rows.topPlanExamplesSpec) false w args)
      (Rows.topPlanExamplesSpec.post enc Tryz.prog Tryz.f3 false true false false) := by
  refine returnsInHanded_of_change_and (C := Tryz.checked) (X := fun w _ => laidMetH Tryz.prog Rows.topPlanExamplesRow.laid w) (fun _ _ _ hh h => h.of_heap hh) own started (by kernel_rfl) Tryz.func3
    (ChangeSpec.witness_shaped (enc := enc) (C := Tryz.checked) (os := os) (X := fun w _ => laidMetH Tryz.prog Rows.topPlanExamplesRow.laid w) false (World.laidAll Tryz.prog os Rows.topPlanExamplesRow.laid) #[] 8 (World.laidAll_os _ _ _)
      (World.shaped_of_ZipB (by kernel_rfl) (by kernel_rfl)) (by kernel_rfl) (by kernel_rfl) (by kernel_rfl)
      (by rw [MakeChecks.laidMetH_plain _ _ _ (by kernel_rfl)]; exact laidMet_laidAll _ (by kernel_rfl) (by kernel_rfl))) ?_
  intro W base args ds gs before hval0 hW hcnd hsz0 hL _
  have hW' := hW
  obtain ⟨p, q, hA0, hV, rfl, hfz, hnd⟩ := hW
  have hA : DataW.TrodAll enc Tryz.prog W 0 (fun _ => true) true Tryz.f3.params.toList args.toList ds p := hA0
  rw [Tryz.params3] at hA
  obtain ⟨hargs, rfl, rfl⟩ := trodAll_nil hA
  obtain rfl : args = #[] := by cases args; simp_all
  obtain ⟨rfl, rfl⟩ := trodVars_none hV
  clear hA0 hval0
  refine (top_ok W (side_of_laid hL)).mono fun e W' ⟨he, bel⟩ => ?_
  subst he
  exact ⟨_, rfl, _, _, _, [], _, [], hW', trodAll_mk1 (shut_bool Tryz.underlying4 _), trodAll_mk0, rfl, bel.frame _, fun h => by cases h⟩
theorem over : Rows.topPlanExamplesRow.holds Tryz.pinned (OpenSpec.ofChange Rows.topPlanExamplesSpec) :=
  OpenClaim.holds_of_wide 3 Tryz.f3 rfl rfl rfl rfl rfl rfl rfl ⟨rfl, rfl, rfl, rfl, rfl⟩ rfl rfl rfl rfl rfl (by kernel_rfl) Tryz.func3 (by kernel_rfl)
    (of_decide_eq_true (by kernel_rfl)) (by unfold Func.isWrapper; first | (rw [if_pos (by decide +kernel)]; kernel_rfl) | (rw [if_neg (by decide +kernel)]; exact ⟨rfl, rfl⟩))
    (fun os started H enc _ => lifted os started H enc)
theorem row_proved : Rows.TopPlanExamplesSaid := over
theorem proved : Rows.TopPlanExamplesCardSaid :=
  Claim7.holds_tied_plain_at .later [] [.data, .data, .pinned] true (true, "27ed1f81225b73bf2ff94ad5d6a1e92b6ca43c3c500d48a86ff2f212df6ad9c3") false over (fun _ h => by cases h) (by kernel_rfl) (fun _ h => by cases h) topPlanExamples_row_tie rfl ⟨rfl, rfl⟩ (by kernel_rfl) rfl
    (fun f fn hf hfn => by
      obtain rfl : f = 3 := Option.some.inj ((show Tryz.prog.funcNamed "railplan/railplantop.TopPlanExamples" = some 3 by kernel_rfl).symm.trans hf) |>.symm
      obtain rfl : fn = Tryz.f3 := (Option.some.inj (Tryz.func3.symm.trans hfn)).symm
      exact ⟨by kernel_rfl, fun j t ht => by
        rw [Tryz.params3] at ht
        simp at ht⟩)
    (by kernel_rfl)
#print axioms proved
end Go.Proofs.YtinjdcefagaaeaaGreatDoor.topPlanExamples
