/-
  No cell of these rows narrows 'for every input' (looked for: loops, veiled, ifaces, maps, wideKeys, modest, calm, conditions, laid).
  DERIVED. THE GIVEN ROWS OF THIS SEAT. 10 by the template 'for every input the law returns true; each argument reads behind the call as it read before'; 0 by the template 'total and deterministic' (their statements: YtbmbdenjlbelaaaTotals.lean).
  GIVEN WITH THE SEED: the statements are not yours to turn. If you find one false, say at which input.
  Laid BY PROGRAM, IN A SANDBOX (cutbox-rows.mjs): the forced cells as the released guide's own fill.sh prints them over the translation 3bf7d783407f28da… (all of the seat's roots in one cut). By AI agents, Wed Nov 11 2026. No macro, syntax, notation, axiom, sorry.
-/
import Derived.Test.YtbmbdenjlbelaaaChecked
import GoSem.Claim
import GoSem.ClaimJoined
import GoSem.ClaimMapViews
import Derived.JoinedTies
import Derived.KernelRfl
namespace Go.Proofs.Ytbmbdenjlbelaaa
/- THE CELL 'sum', in the pinned program and in every row, IS THE sha256 OF THE DUMP (.gsa) THAT YtbmbdenjlbelaaaProg.lean LOADS. Nothing in Lean hashes anything: it is a label: what it is worth is what the hold of that sum in a sandbox is worth. -/
noncomputable def Try.pinned : Pinned := { name := "ytbmbdenjlbelaaa", sum := "3bf7d783407f28da82a9465747f71e324cbc199bd87b8f0c3c77973cccd54ffa", checked := Try.checked }
namespace Rows
def none {H : Type} : Left H := { results := [], args := [] }

/-- 'railplanlaw15.BoundIsLower': WHATEVER THE INPUT: true; the input reads as it did. -/
def boundIsLowerSpec : ChangeSpec := { name := "boundIsLower", fn := fun _ => fun
  | [d1, d2, d3] => { results := [.lit (.bool true)], args := [d1, d2, d3] }
  | _ => none }
def boundIsLowerRow : OpenClaim := { program := "ytbmbdenjlbelaaa", sum := "3bf7d783407f28da82a9465747f71e324cbc199bd87b8f0c3c77973cccd54ffa", func := "railplan/railplanlaw15.BoundIsLower", spec := "boundIsLower", apart := false }
def BoundIsLowerSaid : Prop := boundIsLowerRow.holds Try.pinned (OpenSpec.ofChange boundIsLowerSpec)

/-- ITS FALSE NEIGHBOUR: 'it returns false'. Refute it at one input. -/
def boundIsLowerWrong : ChangeSpec := { name := "boundIsLower", fn := fun _ => fun
  | [d1, d2, d3] => { results := [.lit (.bool false)], args := [d1, d2, d3] }
  | _ => none }
def BoundIsLowerWrongFalsely : Prop := boundIsLowerRow.holds Try.pinned (OpenSpec.ofChange boundIsLowerWrong)

/-- 'railplanlaw15.BoundPartsAdd': WHATEVER THE INPUT: true; the input reads as it did. -/
def boundPartsAddSpec : ChangeSpec := { name := "boundPartsAdd", fn := fun _ => fun
  | [d1, d2, d3] => { results := [.lit (.bool true)], args := [d1, d2, d3] }
  | _ => none }
def boundPartsAddRow : OpenClaim := { program := "ytbmbdenjlbelaaa", sum := "3bf7d783407f28da82a9465747f71e324cbc199bd87b8f0c3c77973cccd54ffa", func := "railplan/railplanlaw15.BoundPartsAdd", spec := "boundPartsAdd", apart := false }
def BoundPartsAddSaid : Prop := boundPartsAddRow.holds Try.pinned (OpenSpec.ofChange boundPartsAddSpec)

/-- ITS FALSE NEIGHBOUR: 'it returns false'. Refute it at one input. -/
def boundPartsAddWrong : ChangeSpec := { name := "boundPartsAdd", fn := fun _ => fun
  | [d1, d2, d3] => { results := [.lit (.bool false)], args := [d1, d2, d3] }
  | _ => none }
def BoundPartsAddWrongFalsely : Prop := boundPartsAddRow.holds Try.pinned (OpenSpec.ofChange boundPartsAddWrong)

/-- 'railplanlaw15.BoundPackIsLower': WHATEVER THE INPUT: true; the input reads as it did. -/
def boundPackIsLowerSpec : ChangeSpec := { name := "boundPackIsLower", fn := fun _ => fun
  | [d1, d2] => { results := [.lit (.bool true)], args := [d1, d2] }
  | _ => none }
def boundPackIsLowerRow : OpenClaim := { program := "ytbmbdenjlbelaaa", sum := "3bf7d783407f28da82a9465747f71e324cbc199bd87b8f0c3c77973cccd54ffa", func := "railplan/railplanlaw15.BoundPackIsLower", spec := "boundPackIsLower", apart := false }
def BoundPackIsLowerSaid : Prop := boundPackIsLowerRow.holds Try.pinned (OpenSpec.ofChange boundPackIsLowerSpec)

/-- ITS FALSE NEIGHBOUR: 'it returns false'. Refute it at one input. -/
def boundPackIsLowerWrong : ChangeSpec := { name := "boundPackIsLower", fn := fun _ => fun
  | [d1, d2] => { results := [.lit (.bool false)], args := [d1, d2] }
  | _ => none }
def BoundPackIsLowerWrongFalsely : Prop := boundPackIsLowerRow.holds Try.pinned (OpenSpec.ofChange boundPackIsLowerWrong)

/-- 'railplanlaw15.BoundInfeasible': WHATEVER THE INPUT: true; the input reads as it did. -/
def boundInfeasibleSpec : ChangeSpec := { name := "boundInfeasible", fn := fun _ => fun
  | [d1, d2] => { results := [.lit (.bool true)], args := [d1, d2] }
  | _ => none }
def boundInfeasibleRow : OpenClaim := { program := "ytbmbdenjlbelaaa", sum := "3bf7d783407f28da82a9465747f71e324cbc199bd87b8f0c3c77973cccd54ffa", func := "railplan/railplanlaw15.BoundInfeasible", spec := "boundInfeasible", apart := false }
def BoundInfeasibleSaid : Prop := boundInfeasibleRow.holds Try.pinned (OpenSpec.ofChange boundInfeasibleSpec)

/-- ITS FALSE NEIGHBOUR: 'it returns false'. Refute it at one input. -/
def boundInfeasibleWrong : ChangeSpec := { name := "boundInfeasible", fn := fun _ => fun
  | [d1, d2] => { results := [.lit (.bool false)], args := [d1, d2] }
  | _ => none }
def BoundInfeasibleWrongFalsely : Prop := boundInfeasibleRow.holds Try.pinned (OpenSpec.ofChange boundInfeasibleWrong)

/-- 'railplanlaw15.BoundKeepsCycles': WHATEVER THE INPUT: true; the input reads as it did. -/
def boundKeepsCyclesSpec : ChangeSpec := { name := "boundKeepsCycles", fn := fun _ => fun
  | [d] => { results := [.lit (.bool true)], args := [d] }
  | _ => none }
def boundKeepsCyclesRow : OpenClaim := { program := "ytbmbdenjlbelaaa", sum := "3bf7d783407f28da82a9465747f71e324cbc199bd87b8f0c3c77973cccd54ffa", func := "railplan/railplanlaw15.BoundKeepsCycles", spec := "boundKeepsCycles", apart := false }
def BoundKeepsCyclesSaid : Prop := boundKeepsCyclesRow.holds Try.pinned (OpenSpec.ofChange boundKeepsCyclesSpec)

/-- ITS FALSE NEIGHBOUR: 'it returns false'. Refute it at one input. -/
def boundKeepsCyclesWrong : ChangeSpec := { name := "boundKeepsCycles", fn := fun _ => fun
  | [d] => { results := [.lit (.bool false)], args := [d] }
  | _ => none }
def BoundKeepsCyclesWrongFalsely : Prop := boundKeepsCyclesRow.holds Try.pinned (OpenSpec.ofChange boundKeepsCyclesWrong)

/-- 'railplanlaw15.BoundExamples': WHATEVER THE INPUT: true; the input reads as it did. -/
def boundExamplesSpec : ChangeSpec := { name := "boundExamples", fn := fun _ => fun
  | [] => { results := [.lit (.bool true)], args := [] }
  | _ => none }
def boundExamplesRow : OpenClaim := { program := "ytbmbdenjlbelaaa", sum := "3bf7d783407f28da82a9465747f71e324cbc199bd87b8f0c3c77973cccd54ffa", func := "railplan/railplanlaw15.BoundExamples", spec := "boundExamples", apart := false }
def BoundExamplesSaid : Prop := boundExamplesRow.holds Try.pinned (OpenSpec.ofChange boundExamplesSpec)

/-- ITS FALSE NEIGHBOUR: 'it returns false'. Refute it at one input. -/
def boundExamplesWrong : ChangeSpec := { name := "boundExamples", fn := fun _ => fun
  | [] => { results := [.lit (.bool false)], args := [] }
  | _ => none }
def BoundExamplesWrongFalsely : Prop := boundExamplesRow.holds Try.pinned (OpenSpec.ofChange boundExamplesWrong)

/-- 'railplanlaw15.BoundRaw': WHATEVER THE INPUT: true; the input reads as it did. -/
def boundRawSpec : ChangeSpec := { name := "boundRaw", fn := fun _ => fun
  | [d1, d2, d3] => { results := [.lit (.bool true)], args := [d1, d2, d3] }
  | _ => none }
def boundRawRow : OpenClaim := { program := "ytbmbdenjlbelaaa", sum := "3bf7d783407f28da82a9465747f71e324cbc199bd87b8f0c3c77973cccd54ffa", func := "railplan/railplanlaw15.BoundRaw", spec := "boundRaw", apart := false }
def BoundRawSaid : Prop := boundRawRow.holds Try.pinned (OpenSpec.ofChange boundRawSpec)

/-- ITS FALSE NEIGHBOUR: 'it returns false'. Refute it at one input. -/
def boundRawWrong : ChangeSpec := { name := "boundRaw", fn := fun _ => fun
  | [d1, d2, d3] => { results := [.lit (.bool false)], args := [d1, d2, d3] }
  | _ => none }
def BoundRawWrongFalsely : Prop := boundRawRow.holds Try.pinned (OpenSpec.ofChange boundRawWrong)

/-- 'railplanlaw15.BoundGenerated': WHATEVER THE INPUT: true; the input reads as it did. -/
def boundGeneratedSpec : ChangeSpec := { name := "boundGenerated", fn := fun _ => fun
  | [d1, d2, d3, d4] => { results := [.lit (.bool true)], args := [d1, d2, d3, d4] }
  | _ => none }
def boundGeneratedRow : OpenClaim := { program := "ytbmbdenjlbelaaa", sum := "3bf7d783407f28da82a9465747f71e324cbc199bd87b8f0c3c77973cccd54ffa", func := "railplan/railplanlaw15.BoundGenerated", spec := "boundGenerated", apart := false }
def BoundGeneratedSaid : Prop := boundGeneratedRow.holds Try.pinned (OpenSpec.ofChange boundGeneratedSpec)

/-- ITS FALSE NEIGHBOUR: 'it returns false'. Refute it at one input. -/
def boundGeneratedWrong : ChangeSpec := { name := "boundGenerated", fn := fun _ => fun
  | [d1, d2, d3, d4] => { results := [.lit (.bool false)], args := [d1, d2, d3, d4] }
  | _ => none }
def BoundGeneratedWrongFalsely : Prop := boundGeneratedRow.holds Try.pinned (OpenSpec.ofChange boundGeneratedWrong)

/-- 'railplanlaw15.BoundPackIsChecked': WHATEVER THE INPUT: true; the input reads as it did. -/
def boundPackIsCheckedSpec : ChangeSpec := { name := "boundPackIsChecked", fn := fun _ => fun
  | [d] => { results := [.lit (.bool true)], args := [d] }
  | _ => none }
def boundPackIsCheckedRow : OpenClaim := { program := "ytbmbdenjlbelaaa", sum := "3bf7d783407f28da82a9465747f71e324cbc199bd87b8f0c3c77973cccd54ffa", func := "railplan/railplanlaw15.BoundPackIsChecked", spec := "boundPackIsChecked", apart := false }
def BoundPackIsCheckedSaid : Prop := boundPackIsCheckedRow.holds Try.pinned (OpenSpec.ofChange boundPackIsCheckedSpec)

/-- ITS FALSE NEIGHBOUR: 'it returns false'. Refute it at one input. -/
def boundPackIsCheckedWrong : ChangeSpec := { name := "boundPackIsChecked", fn := fun _ => fun
  | [d] => { results := [.lit (.bool false)], args := [d] }
  | _ => none }
def BoundPackIsCheckedWrongFalsely : Prop := boundPackIsCheckedRow.holds Try.pinned (OpenSpec.ofChange boundPackIsCheckedWrong)

/-- 'railplanlaw15.BoundPackIsMaximal': WHATEVER THE INPUT: true; the input reads as it did. -/
def boundPackIsMaximalSpec : ChangeSpec := { name := "boundPackIsMaximal", fn := fun _ => fun
  | [d1, d2] => { results := [.lit (.bool true)], args := [d1, d2] }
  | _ => none }
def boundPackIsMaximalRow : OpenClaim := { program := "ytbmbdenjlbelaaa", sum := "3bf7d783407f28da82a9465747f71e324cbc199bd87b8f0c3c77973cccd54ffa", func := "railplan/railplanlaw15.BoundPackIsMaximal", spec := "boundPackIsMaximal", apart := false }
def BoundPackIsMaximalSaid : Prop := boundPackIsMaximalRow.holds Try.pinned (OpenSpec.ofChange boundPackIsMaximalSpec)

/-- ITS FALSE NEIGHBOUR: 'it returns false'. Refute it at one input. -/
def boundPackIsMaximalWrong : ChangeSpec := { name := "boundPackIsMaximal", fn := fun _ => fun
  | [d1, d2] => { results := [.lit (.bool false)], args := [d1, d2] }
  | _ => none }
def BoundPackIsMaximalWrongFalsely : Prop := boundPackIsMaximalRow.holds Try.pinned (OpenSpec.ofChange boundPackIsMaximalWrong)

/- THE SECOND FORM. 'bulk': how many values and letters a reading holds, each counted each time it is reached (what is shared counts as often as it is met; a slice's spare places count too). A statement '..UptoSaid' is the law's where the arguments, and the package variables that the reading takes, are together of bulk at most 1048576: NARROWER than '..Said'. Prove '..Said' where nothing that the law and all that it calls make is longer than what came in: it says more and counts as full. Else prove '..UptoSaid'. A law counts once. -/
mutual
def uptoBulk {H : Type} : DataW H → Nat
  | .lit (.string bytes) => bytes.length + 1
  | .lit _ => 1
  | .nil => 1
  | .ptr d => uptoBulk d + 1
  | .slice elems spare => uptoBulkAll elems + uptoBulkAll spare + 1
  | .agg parts => uptoBulkAll parts + 1
  | .iface _ d => uptoBulk d + 1
  | .map entries => uptoBulkEntries entries + 1
  | .held _ => 1
def uptoBulkAll {H : Type} : List (DataW H) → Nat
  | [] => 0
  | d :: r => uptoBulk d + uptoBulkAll r
def uptoBulkEntries {H : Type} : List (Lit × DataW H) → Nat
  | [] => 0
  | x :: r => uptoBulkEntry x + uptoBulkEntries r
def uptoBulkEntry {H : Type} : Lit × DataW H → Nat
  | (.string bytes, d) => bytes.length + uptoBulk d + 1
  | (_, d) => uptoBulk d + 1
 end
def uptoSmall : (H : Type) → List (DataW H) → Bool := fun _ ds => decide (uptoBulkAll ds ≤ 1048576)
def OpenSpec.upto (s : _root_.Go.ChangeSpec) : _root_.Go.OpenSpec := { _root_.Go.OpenSpec.ofChange s with cond := some uptoSmall }

/-- 'railplanlaw15.BoundIsLower', WHERE WHAT IT READS IS OF BULK AT MOST 1048576: true; the input reads as it did. -/
def boundIsLowerUptoRow : OpenClaim := { program := "ytbmbdenjlbelaaa", sum := "3bf7d783407f28da82a9465747f71e324cbc199bd87b8f0c3c77973cccd54ffa", func := "railplan/railplanlaw15.BoundIsLower", spec := "boundIsLower", apart := false, narrowed := true }
def BoundIsLowerUptoSaid : Prop := boundIsLowerUptoRow.holds Try.pinned (OpenSpec.upto boundIsLowerSpec)

/-- 'railplanlaw15.BoundPartsAdd', WHERE WHAT IT READS IS OF BULK AT MOST 1048576: true; the input reads as it did. -/
def boundPartsAddUptoRow : OpenClaim := { program := "ytbmbdenjlbelaaa", sum := "3bf7d783407f28da82a9465747f71e324cbc199bd87b8f0c3c77973cccd54ffa", func := "railplan/railplanlaw15.BoundPartsAdd", spec := "boundPartsAdd", apart := false, narrowed := true }
def BoundPartsAddUptoSaid : Prop := boundPartsAddUptoRow.holds Try.pinned (OpenSpec.upto boundPartsAddSpec)

/-- 'railplanlaw15.BoundPackIsLower', WHERE WHAT IT READS IS OF BULK AT MOST 1048576: true; the input reads as it did. -/
def boundPackIsLowerUptoRow : OpenClaim := { program := "ytbmbdenjlbelaaa", sum := "3bf7d783407f28da82a9465747f71e324cbc199bd87b8f0c3c77973cccd54ffa", func := "railplan/railplanlaw15.BoundPackIsLower", spec := "boundPackIsLower", apart := false, narrowed := true }
def BoundPackIsLowerUptoSaid : Prop := boundPackIsLowerUptoRow.holds Try.pinned (OpenSpec.upto boundPackIsLowerSpec)

/-- 'railplanlaw15.BoundInfeasible', WHERE WHAT IT READS IS OF BULK AT MOST 1048576: true; the input reads as it did. -/
def boundInfeasibleUptoRow : OpenClaim := { program := "ytbmbdenjlbelaaa", sum := "3bf7d783407f28da82a9465747f71e324cbc199bd87b8f0c3c77973cccd54ffa", func := "railplan/railplanlaw15.BoundInfeasible", spec := "boundInfeasible", apart := false, narrowed := true }
def BoundInfeasibleUptoSaid : Prop := boundInfeasibleUptoRow.holds Try.pinned (OpenSpec.upto boundInfeasibleSpec)

/-- 'railplanlaw15.BoundKeepsCycles', WHERE WHAT IT READS IS OF BULK AT MOST 1048576: true; the input reads as it did. -/
def boundKeepsCyclesUptoRow : OpenClaim := { program := "ytbmbdenjlbelaaa", sum := "3bf7d783407f28da82a9465747f71e324cbc199bd87b8f0c3c77973cccd54ffa", func := "railplan/railplanlaw15.BoundKeepsCycles", spec := "boundKeepsCycles", apart := false, narrowed := true }
def BoundKeepsCyclesUptoSaid : Prop := boundKeepsCyclesUptoRow.holds Try.pinned (OpenSpec.upto boundKeepsCyclesSpec)

/-- 'railplanlaw15.BoundExamples', WHERE WHAT IT READS IS OF BULK AT MOST 1048576: true; the input reads as it did. -/
def boundExamplesUptoRow : OpenClaim := { program := "ytbmbdenjlbelaaa", sum := "3bf7d783407f28da82a9465747f71e324cbc199bd87b8f0c3c77973cccd54ffa", func := "railplan/railplanlaw15.BoundExamples", spec := "boundExamples", apart := false, narrowed := true }
def BoundExamplesUptoSaid : Prop := boundExamplesUptoRow.holds Try.pinned (OpenSpec.upto boundExamplesSpec)

/-- 'railplanlaw15.BoundRaw', WHERE WHAT IT READS IS OF BULK AT MOST 1048576: true; the input reads as it did. -/
def boundRawUptoRow : OpenClaim := { program := "ytbmbdenjlbelaaa", sum := "3bf7d783407f28da82a9465747f71e324cbc199bd87b8f0c3c77973cccd54ffa", func := "railplan/railplanlaw15.BoundRaw", spec := "boundRaw", apart := false, narrowed := true }
def BoundRawUptoSaid : Prop := boundRawUptoRow.holds Try.pinned (OpenSpec.upto boundRawSpec)

/-- 'railplanlaw15.BoundGenerated', WHERE WHAT IT READS IS OF BULK AT MOST 1048576: true; the input reads as it did. -/
def boundGeneratedUptoRow : OpenClaim := { program := "ytbmbdenjlbelaaa", sum := "3bf7d783407f28da82a9465747f71e324cbc199bd87b8f0c3c77973cccd54ffa", func := "railplan/railplanlaw15.BoundGenerated", spec := "boundGenerated", apart := false, narrowed := true }
def BoundGeneratedUptoSaid : Prop := boundGeneratedUptoRow.holds Try.pinned (OpenSpec.upto boundGeneratedSpec)

/-- 'railplanlaw15.BoundPackIsChecked', WHERE WHAT IT READS IS OF BULK AT MOST 1048576: true; the input reads as it did. -/
def boundPackIsCheckedUptoRow : OpenClaim := { program := "ytbmbdenjlbelaaa", sum := "3bf7d783407f28da82a9465747f71e324cbc199bd87b8f0c3c77973cccd54ffa", func := "railplan/railplanlaw15.BoundPackIsChecked", spec := "boundPackIsChecked", apart := false, narrowed := true }
def BoundPackIsCheckedUptoSaid : Prop := boundPackIsCheckedUptoRow.holds Try.pinned (OpenSpec.upto boundPackIsCheckedSpec)

/-- 'railplanlaw15.BoundPackIsMaximal', WHERE WHAT IT READS IS OF BULK AT MOST 1048576: true; the input reads as it did. -/
def boundPackIsMaximalUptoRow : OpenClaim := { program := "ytbmbdenjlbelaaa", sum := "3bf7d783407f28da82a9465747f71e324cbc199bd87b8f0c3c77973cccd54ffa", func := "railplan/railplanlaw15.BoundPackIsMaximal", spec := "boundPackIsMaximal", apart := false, narrowed := true }
def BoundPackIsMaximalUptoSaid : Prop := boundPackIsMaximalUptoRow.holds Try.pinned (OpenSpec.upto boundPackIsMaximalSpec)

end Rows
end Go.Proofs.Ytbmbdenjlbelaaa
