/-
  No cell of these rows narrows 'for every input' (looked for: loops, veiled, ifaces, maps, wideKeys, modest, calm, conditions, laid).
  DERIVED. THE GIVEN ROWS OF THIS SEAT. 9 by the template 'for every input the law returns true; each argument reads behind the call as it read before'; 0 by the template 'total and deterministic' (their statements: YtcgamkldlmmdnaaTotals.lean).
  GIVEN WITH THE SEED: the statements are not yours to turn. If you find one false, say at which input.
  Laid BY PROGRAM, IN A SANDBOX (cutbox-rows.mjs): the forced cells as the released guide's own fill.sh prints them over the translation a9dbbc9216ee84df… (all of the seat's roots in one cut). By AI agents, Wed Nov 11 2026. No macro, syntax, notation, axiom, sorry.
-/
import Derived.Test.YtcgamkldlmmdnaaChecked
import GoSem.Claim
import GoSem.ClaimJoined
import GoSem.ClaimMapViews
import Derived.JoinedTies
import Derived.KernelRfl
namespace Go.Proofs.Ytcgamkldlmmdnaa
/- THE CELL 'sum', in the pinned program and in every row, IS THE sha256 OF THE DUMP (.gsa) THAT YtcgamkldlmmdnaaProg.lean LOADS. Nothing in Lean hashes anything: it is a label: what it is worth is what the hold of that sum in a sandbox is worth. -/
noncomputable def Try.pinned : Pinned := { name := "ytcgamkldlmmdnaa", sum := "a9dbbc9216ee84df16ae14c105440d0da81edfcec551c3fd1439c5004685549d", checked := Try.checked }
namespace Rows
def none {H : Type} : Left H := { results := [], args := [] }

/-- 'railplanlaw14.InequalityNachtigall': WHATEVER THE INPUT: true; the input reads as it did. -/
def inequalityNachtigallSpec : ChangeSpec := { name := "inequalityNachtigall", fn := fun _ => fun
  | [d1, d2, d3] => { results := [.lit (.bool true)], args := [d1, d2, d3] }
  | _ => none }
def inequalityNachtigallRow : OpenClaim := { program := "ytcgamkldlmmdnaa", sum := "a9dbbc9216ee84df16ae14c105440d0da81edfcec551c3fd1439c5004685549d", func := "railplan/railplanlaw14.InequalityNachtigall", spec := "inequalityNachtigall", apart := false }
def InequalityNachtigallSaid : Prop := inequalityNachtigallRow.holds Try.pinned (OpenSpec.ofChange inequalityNachtigallSpec)

/-- ITS FALSE NEIGHBOUR: 'it returns false'. Refute it at one input. -/
def inequalityNachtigallWrong : ChangeSpec := { name := "inequalityNachtigall", fn := fun _ => fun
  | [d1, d2, d3] => { results := [.lit (.bool false)], args := [d1, d2, d3] }
  | _ => none }
def InequalityNachtigallWrongFalsely : Prop := inequalityNachtigallRow.holds Try.pinned (OpenSpec.ofChange inequalityNachtigallWrong)

/-- 'railplanlaw14.InequalityOdijk': WHATEVER THE INPUT: true; the input reads as it did. -/
def inequalityOdijkSpec : ChangeSpec := { name := "inequalityOdijk", fn := fun _ => fun
  | [d1, d2, d3] => { results := [.lit (.bool true)], args := [d1, d2, d3] }
  | _ => none }
def inequalityOdijkRow : OpenClaim := { program := "ytcgamkldlmmdnaa", sum := "a9dbbc9216ee84df16ae14c105440d0da81edfcec551c3fd1439c5004685549d", func := "railplan/railplanlaw14.InequalityOdijk", spec := "inequalityOdijk", apart := false }
def InequalityOdijkSaid : Prop := inequalityOdijkRow.holds Try.pinned (OpenSpec.ofChange inequalityOdijkSpec)

/-- ITS FALSE NEIGHBOUR: 'it returns false'. Refute it at one input. -/
def inequalityOdijkWrong : ChangeSpec := { name := "inequalityOdijk", fn := fun _ => fun
  | [d1, d2, d3] => { results := [.lit (.bool false)], args := [d1, d2, d3] }
  | _ => none }
def InequalityOdijkWrongFalsely : Prop := inequalityOdijkRow.holds Try.pinned (OpenSpec.ofChange inequalityOdijkWrong)

/-- 'railplanlaw14.InequalitySeparates': WHATEVER THE INPUT: true; the input reads as it did. -/
def inequalitySeparatesSpec : ChangeSpec := { name := "inequalitySeparates", fn := fun _ => fun
  | [d1, d2, d3] => { results := [.lit (.bool true)], args := [d1, d2, d3] }
  | _ => none }
def inequalitySeparatesRow : OpenClaim := { program := "ytcgamkldlmmdnaa", sum := "a9dbbc9216ee84df16ae14c105440d0da81edfcec551c3fd1439c5004685549d", func := "railplan/railplanlaw14.InequalitySeparates", spec := "inequalitySeparates", apart := false }
def InequalitySeparatesSaid : Prop := inequalitySeparatesRow.holds Try.pinned (OpenSpec.ofChange inequalitySeparatesSpec)

/-- ITS FALSE NEIGHBOUR: 'it returns false'. Refute it at one input. -/
def inequalitySeparatesWrong : ChangeSpec := { name := "inequalitySeparates", fn := fun _ => fun
  | [d1, d2, d3] => { results := [.lit (.bool false)], args := [d1, d2, d3] }
  | _ => none }
def InequalitySeparatesWrongFalsely : Prop := inequalitySeparatesRow.holds Try.pinned (OpenSpec.ofChange inequalitySeparatesWrong)

/-- 'railplanlaw14.InequalityNothingSeparates': WHATEVER THE INPUT: true; the input reads as it did. -/
def inequalityNothingSeparatesSpec : ChangeSpec := { name := "inequalityNothingSeparates", fn := fun _ => fun
  | [d1, d2] => { results := [.lit (.bool true)], args := [d1, d2] }
  | _ => none }
def inequalityNothingSeparatesRow : OpenClaim := { program := "ytcgamkldlmmdnaa", sum := "a9dbbc9216ee84df16ae14c105440d0da81edfcec551c3fd1439c5004685549d", func := "railplan/railplanlaw14.InequalityNothingSeparates", spec := "inequalityNothingSeparates", apart := false }
def InequalityNothingSeparatesSaid : Prop := inequalityNothingSeparatesRow.holds Try.pinned (OpenSpec.ofChange inequalityNothingSeparatesSpec)

/-- ITS FALSE NEIGHBOUR: 'it returns false'. Refute it at one input. -/
def inequalityNothingSeparatesWrong : ChangeSpec := { name := "inequalityNothingSeparates", fn := fun _ => fun
  | [d1, d2] => { results := [.lit (.bool false)], args := [d1, d2] }
  | _ => none }
def InequalityNothingSeparatesWrongFalsely : Prop := inequalityNothingSeparatesRow.holds Try.pinned (OpenSpec.ofChange inequalityNothingSeparatesWrong)

/-- 'railplanlaw14.InequalityGapIsLeast': WHATEVER THE INPUT: true; the input reads as it did. -/
def inequalityGapIsLeastSpec : ChangeSpec := { name := "inequalityGapIsLeast", fn := fun _ => fun
  | [d1, d2, d3] => { results := [.lit (.bool true)], args := [d1, d2, d3] }
  | _ => none }
def inequalityGapIsLeastRow : OpenClaim := { program := "ytcgamkldlmmdnaa", sum := "a9dbbc9216ee84df16ae14c105440d0da81edfcec551c3fd1439c5004685549d", func := "railplan/railplanlaw14.InequalityGapIsLeast", spec := "inequalityGapIsLeast", apart := false }
def InequalityGapIsLeastSaid : Prop := inequalityGapIsLeastRow.holds Try.pinned (OpenSpec.ofChange inequalityGapIsLeastSpec)

/-- ITS FALSE NEIGHBOUR: 'it returns false'. Refute it at one input. -/
def inequalityGapIsLeastWrong : ChangeSpec := { name := "inequalityGapIsLeast", fn := fun _ => fun
  | [d1, d2, d3] => { results := [.lit (.bool false)], args := [d1, d2, d3] }
  | _ => none }
def InequalityGapIsLeastWrongFalsely : Prop := inequalityGapIsLeastRow.holds Try.pinned (OpenSpec.ofChange inequalityGapIsLeastWrong)

/-- 'railplanlaw14.InequalityReverse': WHATEVER THE INPUT: true; the input reads as it did. -/
def inequalityReverseSpec : ChangeSpec := { name := "inequalityReverse", fn := fun _ => fun
  | [d1, d2] => { results := [.lit (.bool true)], args := [d1, d2] }
  | _ => none }
def inequalityReverseRow : OpenClaim := { program := "ytcgamkldlmmdnaa", sum := "a9dbbc9216ee84df16ae14c105440d0da81edfcec551c3fd1439c5004685549d", func := "railplan/railplanlaw14.InequalityReverse", spec := "inequalityReverse", apart := false }
def InequalityReverseSaid : Prop := inequalityReverseRow.holds Try.pinned (OpenSpec.ofChange inequalityReverseSpec)

/-- ITS FALSE NEIGHBOUR: 'it returns false'. Refute it at one input. -/
def inequalityReverseWrong : ChangeSpec := { name := "inequalityReverse", fn := fun _ => fun
  | [d1, d2] => { results := [.lit (.bool false)], args := [d1, d2] }
  | _ => none }
def InequalityReverseWrongFalsely : Prop := inequalityReverseRow.holds Try.pinned (OpenSpec.ofChange inequalityReverseWrong)

/-- 'railplanlaw14.InequalityExamples': WHATEVER THE INPUT: true; the input reads as it did. -/
def inequalityExamplesSpec : ChangeSpec := { name := "inequalityExamples", fn := fun _ => fun
  | [] => { results := [.lit (.bool true)], args := [] }
  | _ => none }
def inequalityExamplesRow : OpenClaim := { program := "ytcgamkldlmmdnaa", sum := "a9dbbc9216ee84df16ae14c105440d0da81edfcec551c3fd1439c5004685549d", func := "railplan/railplanlaw14.InequalityExamples", spec := "inequalityExamples", apart := false }
def InequalityExamplesSaid : Prop := inequalityExamplesRow.holds Try.pinned (OpenSpec.ofChange inequalityExamplesSpec)

/-- ITS FALSE NEIGHBOUR: 'it returns false'. Refute it at one input. -/
def inequalityExamplesWrong : ChangeSpec := { name := "inequalityExamples", fn := fun _ => fun
  | [] => { results := [.lit (.bool false)], args := [] }
  | _ => none }
def InequalityExamplesWrongFalsely : Prop := inequalityExamplesRow.holds Try.pinned (OpenSpec.ofChange inequalityExamplesWrong)

/-- 'railplanlaw14.InequalityGenerated': WHATEVER THE INPUT: true; the input reads as it did. -/
def inequalityGeneratedSpec : ChangeSpec := { name := "inequalityGenerated", fn := fun _ => fun
  | [d1, d2, d3] => { results := [.lit (.bool true)], args := [d1, d2, d3] }
  | _ => none }
def inequalityGeneratedRow : OpenClaim := { program := "ytcgamkldlmmdnaa", sum := "a9dbbc9216ee84df16ae14c105440d0da81edfcec551c3fd1439c5004685549d", func := "railplan/railplanlaw14.InequalityGenerated", spec := "inequalityGenerated", apart := false }
def InequalityGeneratedSaid : Prop := inequalityGeneratedRow.holds Try.pinned (OpenSpec.ofChange inequalityGeneratedSpec)

/-- ITS FALSE NEIGHBOUR: 'it returns false'. Refute it at one input. -/
def inequalityGeneratedWrong : ChangeSpec := { name := "inequalityGenerated", fn := fun _ => fun
  | [d1, d2, d3] => { results := [.lit (.bool false)], args := [d1, d2, d3] }
  | _ => none }
def InequalityGeneratedWrongFalsely : Prop := inequalityGeneratedRow.holds Try.pinned (OpenSpec.ofChange inequalityGeneratedWrong)

/-- 'railplanlaw14.InequalityRaw': WHATEVER THE INPUT: true; the input reads as it did. -/
def inequalityRawSpec : ChangeSpec := { name := "inequalityRaw", fn := fun _ => fun
  | [d1, d2, d3, d4] => { results := [.lit (.bool true)], args := [d1, d2, d3, d4] }
  | _ => none }
def inequalityRawRow : OpenClaim := { program := "ytcgamkldlmmdnaa", sum := "a9dbbc9216ee84df16ae14c105440d0da81edfcec551c3fd1439c5004685549d", func := "railplan/railplanlaw14.InequalityRaw", spec := "inequalityRaw", apart := false }
def InequalityRawSaid : Prop := inequalityRawRow.holds Try.pinned (OpenSpec.ofChange inequalityRawSpec)

/-- ITS FALSE NEIGHBOUR: 'it returns false'. Refute it at one input. -/
def inequalityRawWrong : ChangeSpec := { name := "inequalityRaw", fn := fun _ => fun
  | [d1, d2, d3, d4] => { results := [.lit (.bool false)], args := [d1, d2, d3, d4] }
  | _ => none }
def InequalityRawWrongFalsely : Prop := inequalityRawRow.holds Try.pinned (OpenSpec.ofChange inequalityRawWrong)

/- THE SECOND FORM. 'bulk': how many values and letters a reading holds, each counted each time it is reached (what is shared counts as often as it is met; a slice's spare places count too). A statement '..UptoSaid' is the law's where the arguments, and the package variables that the reading takes, are together of bulk at most 1048576: NARROWER than '..Said'. Prove '..Said' where nothing that the law and all that it calls make is longer than what came in: it says more and counts as full. Else prove '..UptoSaid'. A law counts once. -/
mutual
def uptoBulk {H : Type} : DataW H → Nat
  | .lit (.string bytes) => bytes.length + 1
  | .lit _ => 1
  | .nil => 1
  | .ptr d => uptoBulk d + 1
  | .slice elems spare => uptoBulkAll elems + uptoBulkAll spare + 1
  | .agg parts => uptoBulkAll parts + 1
  | .iface _ d => uptoBulk d + 1
  | .map entries => uptoBulkEntries entries + 1
  | .held _ => 1
def uptoBulkAll {H : Type} : List (DataW H) → Nat
  | [] => 0
  | d :: r => uptoBulk d + uptoBulkAll r
def uptoBulkEntries {H : Type} : List (Lit × DataW H) → Nat
  | [] => 0
  | x :: r => uptoBulkEntry x + uptoBulkEntries r
def uptoBulkEntry {H : Type} : Lit × DataW H → Nat
  | (.string bytes, d) => bytes.length + uptoBulk d + 1
  | (_, d) => uptoBulk d + 1
 end
def uptoSmall : (H : Type) → List (DataW H) → Bool := fun _ ds => decide (uptoBulkAll ds ≤ 1048576)
def OpenSpec.upto (s : _root_.Go.ChangeSpec) : _root_.Go.OpenSpec := { _root_.Go.OpenSpec.ofChange s with cond := some uptoSmall }

/-- 'railplanlaw14.InequalityNachtigall', WHERE WHAT IT READS IS OF BULK AT MOST 1048576: true; the input reads as it did. -/
def inequalityNachtigallUptoRow : OpenClaim := { program := "ytcgamkldlmmdnaa", sum := "a9dbbc9216ee84df16ae14c105440d0da81edfcec551c3fd1439c5004685549d", func := "railplan/railplanlaw14.InequalityNachtigall", spec := "inequalityNachtigall", apart := false, narrowed := true }
def InequalityNachtigallUptoSaid : Prop := inequalityNachtigallUptoRow.holds Try.pinned (OpenSpec.upto inequalityNachtigallSpec)

/-- 'railplanlaw14.InequalityOdijk', WHERE WHAT IT READS IS OF BULK AT MOST 1048576: true; the input reads as it did. -/
def inequalityOdijkUptoRow : OpenClaim := { program := "ytcgamkldlmmdnaa", sum := "a9dbbc9216ee84df16ae14c105440d0da81edfcec551c3fd1439c5004685549d", func := "railplan/railplanlaw14.InequalityOdijk", spec := "inequalityOdijk", apart := false, narrowed := true }
def InequalityOdijkUptoSaid : Prop := inequalityOdijkUptoRow.holds Try.pinned (OpenSpec.upto inequalityOdijkSpec)

/-- 'railplanlaw14.InequalitySeparates', WHERE WHAT IT READS IS OF BULK AT MOST 1048576: true; the input reads as it did. -/
def inequalitySeparatesUptoRow : OpenClaim := { program := "ytcgamkldlmmdnaa", sum := "a9dbbc9216ee84df16ae14c105440d0da81edfcec551c3fd1439c5004685549d", func := "railplan/railplanlaw14.InequalitySeparates", spec := "inequalitySeparates", apart := false, narrowed := true }
def InequalitySeparatesUptoSaid : Prop := inequalitySeparatesUptoRow.holds Try.pinned (OpenSpec.upto inequalitySeparatesSpec)

/-- 'railplanlaw14.InequalityNothingSeparates', WHERE WHAT IT READS IS OF BULK AT MOST 1048576: true; the input reads as it did. -/
def inequalityNothingSeparatesUptoRow : OpenClaim := { program := "ytcgamkldlmmdnaa", sum := "a9dbbc9216ee84df16ae14c105440d0da81edfcec551c3fd1439c5004685549d", func := "railplan/railplanlaw14.InequalityNothingSeparates", spec := "inequalityNothingSeparates", apart := false, narrowed := true }
def InequalityNothingSeparatesUptoSaid : Prop := inequalityNothingSeparatesUptoRow.holds Try.pinned (OpenSpec.upto inequalityNothingSeparatesSpec)

/-- 'railplanlaw14.InequalityGapIsLeast', WHERE WHAT IT READS IS OF BULK AT MOST 1048576: true; the input reads as it did. -/
def inequalityGapIsLeastUptoRow : OpenClaim := { program := "ytcgamkldlmmdnaa", sum := "a9dbbc9216ee84df16ae14c105440d0da81edfcec551c3fd1439c5004685549d", func := "railplan/railplanlaw14.InequalityGapIsLeast", spec := "inequalityGapIsLeast", apart := false, narrowed := true }
def InequalityGapIsLeastUptoSaid : Prop := inequalityGapIsLeastUptoRow.holds Try.pinned (OpenSpec.upto inequalityGapIsLeastSpec)

/-- 'railplanlaw14.InequalityReverse', WHERE WHAT IT READS IS OF BULK AT MOST 1048576: true; the input reads as it did. -/
def inequalityReverseUptoRow : OpenClaim := { program := "ytcgamkldlmmdnaa", sum := "a9dbbc9216ee84df16ae14c105440d0da81edfcec551c3fd1439c5004685549d", func := "railplan/railplanlaw14.InequalityReverse", spec := "inequalityReverse", apart := false, narrowed := true }
def InequalityReverseUptoSaid : Prop := inequalityReverseUptoRow.holds Try.pinned (OpenSpec.upto inequalityReverseSpec)

/-- 'railplanlaw14.InequalityExamples', WHERE WHAT IT READS IS OF BULK AT MOST 1048576: true; the input reads as it did. -/
def inequalityExamplesUptoRow : OpenClaim := { program := "ytcgamkldlmmdnaa", sum := "a9dbbc9216ee84df16ae14c105440d0da81edfcec551c3fd1439c5004685549d", func := "railplan/railplanlaw14.InequalityExamples", spec := "inequalityExamples", apart := false, narrowed := true }
def InequalityExamplesUptoSaid : Prop := inequalityExamplesUptoRow.holds Try.pinned (OpenSpec.upto inequalityExamplesSpec)

/-- 'railplanlaw14.InequalityGenerated', WHERE WHAT IT READS IS OF BULK AT MOST 1048576: true; the input reads as it did. -/
def inequalityGeneratedUptoRow : OpenClaim := { program := "ytcgamkldlmmdnaa", sum := "a9dbbc9216ee84df16ae14c105440d0da81edfcec551c3fd1439c5004685549d", func := "railplan/railplanlaw14.InequalityGenerated", spec := "inequalityGenerated", apart := false, narrowed := true }
def InequalityGeneratedUptoSaid : Prop := inequalityGeneratedUptoRow.holds Try.pinned (OpenSpec.upto inequalityGeneratedSpec)

/-- 'railplanlaw14.InequalityRaw', WHERE WHAT IT READS IS OF BULK AT MOST 1048576: true; the input reads as it did. -/
def inequalityRawUptoRow : OpenClaim := { program := "ytcgamkldlmmdnaa", sum := "a9dbbc9216ee84df16ae14c105440d0da81edfcec551c3fd1439c5004685549d", func := "railplan/railplanlaw14.InequalityRaw", spec := "inequalityRaw", apart := false, narrowed := true }
def InequalityRawUptoSaid : Prop := inequalityRawUptoRow.holds Try.pinned (OpenSpec.upto inequalityRawSpec)

end Rows
end Go.Proofs.Ytcgamkldlmmdnaa
