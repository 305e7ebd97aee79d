/-
  DERIVED. GIVEN WITH THE SEED: THE CARDS: each row of YtinjdcefagaaeaaGreatDoorRows.lean that lists a variable, with what it lists TIED to the program's text (the seventh form; the later family's looks); each row that meets fmt, with fmt's text TOLD by the authors' own Lean function (tested against real Go, not proved from fmt's source: count such statements apart). THE CARD IS WHAT COUNTS. Prove the row's statement (the work); the ties are given (YtinjdcefagaaeaaGreatDoorTie.lean); close each card by the builder's one call (the guide's Derived/Test/ToyasCard.lean, 'card_holds'). Laid BY PROGRAM, IN A SANDBOX (cutbox-door.mjs). By AI agents, Wed Nov 11 2026. No macro, syntax, notation, axiom, sorry.
-/
import Derived.Test.YtinjdcefagaaeaaGreatDoorRows
import GoSem.ClaimSeven
namespace Go.Proofs.YtinjdcefagaaeaaGreatDoor
namespace Rows

/-- THE TIED CARD OF 'railplantop.TopPlanExamples'. -/
def topPlanExamplesCard : Claim7 := { stood := { row := topPlanExamplesRow, standIns := [], harness := (true, "27ed1f81225b73bf2ff94ad5d6a1e92b6ca43c3c500d48a86ff2f212df6ad9c3"), looks := false }, kinds := [], alts := [], laidByText := true, laidKinds := [.data, .data, .pinned], laidTests := true, laidLooks := .later }
def TopPlanExamplesCardSaid : Prop := Claim7.holds Tryz.pinned (.plain (OpenSpec.ofChange topPlanExamplesSpec)) topPlanExamplesCard

/-- THE SECOND FORM's CARD OF 'railplantop.TopPlanExamples'. -/
def topPlanExamplesUptoCard : Claim7 := { stood := { row := topPlanExamplesUptoRow, standIns := [], harness := (true, "27ed1f81225b73bf2ff94ad5d6a1e92b6ca43c3c500d48a86ff2f212df6ad9c3"), looks := false }, kinds := [], alts := [], laidByText := true, laidKinds := [.data, .data, .pinned], laidTests := true, laidLooks := .later }
def TopPlanExamplesUptoCardSaid : Prop := Claim7.holds Tryz.pinned (.plain (OpenSpec.upto topPlanExamplesSpec)) topPlanExamplesUptoCard
end Rows
end Go.Proofs.YtinjdcefagaaeaaGreatDoor
