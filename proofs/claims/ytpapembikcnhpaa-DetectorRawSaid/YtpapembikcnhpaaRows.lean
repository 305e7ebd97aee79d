/-
  No cell of these rows narrows 'for every input' (looked for: loops, veiled, ifaces, maps, wideKeys, modest, calm, conditions, laid).
  DERIVED. THE GIVEN ROWS OF THIS SEAT. 8 by the template 'for every input the law returns true; each argument reads behind the call as it read before'; 0 by the template 'total and deterministic' (their statements: YtpapembikcnhpaaTotals.lean).
  GIVEN WITH THE SEED: the statements are not yours to turn. If you find one false, say at which input.
  Laid BY PROGRAM, IN A SANDBOX (cutbox-rows.mjs): the forced cells as the released guide's own fill.sh prints them over the translation 7a9fc2c305816098… (all of the seat's roots in one cut). By AI agents, Wed Nov 11 2026. No macro, syntax, notation, axiom, sorry.
-/
import Derived.Test.YtpapembikcnhpaaChecked
import GoSem.Claim
import GoSem.ClaimJoined
import GoSem.ClaimMapViews
import Derived.JoinedTies
import Derived.KernelRfl
namespace Go.Proofs.Ytpapembikcnhpaa
/- THE CELL 'sum', in the pinned program and in every row, IS THE sha256 OF THE DUMP (.gsa) THAT YtpapembikcnhpaaProg.lean LOADS. Nothing in Lean hashes anything: it is a label: what it is worth is what the hold of that sum in a sandbox is worth. -/
noncomputable def Try.pinned : Pinned := { name := "ytpapembikcnhpaa", sum := "7a9fc2c305816098a35484dc8928a4ab5d5492f960f1671eaa41b774dfdabe5a", checked := Try.checked }
namespace Rows
def none {H : Type} : Left H := { results := [], args := [] }

/-- 'railplanlaw31.DetectorExact': WHATEVER THE INPUT: true; the input reads as it did. -/
def detectorExactSpec : ChangeSpec := { name := "detectorExact", fn := fun _ => fun
  | [d] => { results := [.lit (.bool true)], args := [d] }
  | _ => none }
def detectorExactRow : OpenClaim := { program := "ytpapembikcnhpaa", sum := "7a9fc2c305816098a35484dc8928a4ab5d5492f960f1671eaa41b774dfdabe5a", func := "railplan/railplanlaw31.DetectorExact", spec := "detectorExact", apart := false }
def DetectorExactSaid : Prop := detectorExactRow.holds Try.pinned (OpenSpec.ofChange detectorExactSpec)

/-- ITS FALSE NEIGHBOUR: 'it returns false'. Refute it at one input. -/
def detectorExactWrong : ChangeSpec := { name := "detectorExact", fn := fun _ => fun
  | [d] => { results := [.lit (.bool false)], args := [d] }
  | _ => none }
def DetectorExactWrongFalsely : Prop := detectorExactRow.holds Try.pinned (OpenSpec.ofChange detectorExactWrong)

/-- 'railplanlaw31.DetectorLimits': WHATEVER THE INPUT: true; the input reads as it did. -/
def detectorLimitsSpec : ChangeSpec := { name := "detectorLimits", fn := fun _ => fun
  | [d1, d2] => { results := [.lit (.bool true)], args := [d1, d2] }
  | _ => none }
def detectorLimitsRow : OpenClaim := { program := "ytpapembikcnhpaa", sum := "7a9fc2c305816098a35484dc8928a4ab5d5492f960f1671eaa41b774dfdabe5a", func := "railplan/railplanlaw31.DetectorLimits", spec := "detectorLimits", apart := false }
def DetectorLimitsSaid : Prop := detectorLimitsRow.holds Try.pinned (OpenSpec.ofChange detectorLimitsSpec)

/-- ITS FALSE NEIGHBOUR: 'it returns false'. Refute it at one input. -/
def detectorLimitsWrong : ChangeSpec := { name := "detectorLimits", fn := fun _ => fun
  | [d1, d2] => { results := [.lit (.bool false)], args := [d1, d2] }
  | _ => none }
def DetectorLimitsWrongFalsely : Prop := detectorLimitsRow.holds Try.pinned (OpenSpec.ofChange detectorLimitsWrong)

/-- 'railplanlaw31.DetectorExample': WHATEVER THE INPUT: true; the input reads as it did. -/
def detectorExampleSpec : ChangeSpec := { name := "detectorExample", fn := fun _ => fun
  | [] => { results := [.lit (.bool true)], args := [] }
  | _ => none }
def detectorExampleRow : OpenClaim := { program := "ytpapembikcnhpaa", sum := "7a9fc2c305816098a35484dc8928a4ab5d5492f960f1671eaa41b774dfdabe5a", func := "railplan/railplanlaw31.DetectorExample", spec := "detectorExample", apart := false }
def DetectorExampleSaid : Prop := detectorExampleRow.holds Try.pinned (OpenSpec.ofChange detectorExampleSpec)

/-- ITS FALSE NEIGHBOUR: 'it returns false'. Refute it at one input. -/
def detectorExampleWrong : ChangeSpec := { name := "detectorExample", fn := fun _ => fun
  | [] => { results := [.lit (.bool false)], args := [] }
  | _ => none }
def DetectorExampleWrongFalsely : Prop := detectorExampleRow.holds Try.pinned (OpenSpec.ofChange detectorExampleWrong)

/-- 'railplanlaw31.DetectorSmall': WHATEVER THE INPUT: true; the input reads as it did. -/
def detectorSmallSpec : ChangeSpec := { name := "detectorSmall", fn := fun _ => fun
  | [d1, d2, d3, d4, d5, d6] => { results := [.lit (.bool true)], args := [d1, d2, d3, d4, d5, d6] }
  | _ => none }
def detectorSmallRow : OpenClaim := { program := "ytpapembikcnhpaa", sum := "7a9fc2c305816098a35484dc8928a4ab5d5492f960f1671eaa41b774dfdabe5a", func := "railplan/railplanlaw31.DetectorSmall", spec := "detectorSmall", apart := false }
def DetectorSmallSaid : Prop := detectorSmallRow.holds Try.pinned (OpenSpec.ofChange detectorSmallSpec)

/-- ITS FALSE NEIGHBOUR: 'it returns false'. Refute it at one input. -/
def detectorSmallWrong : ChangeSpec := { name := "detectorSmall", fn := fun _ => fun
  | [d1, d2, d3, d4, d5, d6] => { results := [.lit (.bool false)], args := [d1, d2, d3, d4, d5, d6] }
  | _ => none }
def DetectorSmallWrongFalsely : Prop := detectorSmallRow.holds Try.pinned (OpenSpec.ofChange detectorSmallWrong)

/-- 'railplanlaw31.DetectorSafe': WHATEVER THE INPUT: true; the input reads as it did. -/
def detectorSafeSpec : ChangeSpec := { name := "detectorSafe", fn := fun _ => fun
  | [d] => { results := [.lit (.bool true)], args := [d] }
  | _ => none }
def detectorSafeRow : OpenClaim := { program := "ytpapembikcnhpaa", sum := "7a9fc2c305816098a35484dc8928a4ab5d5492f960f1671eaa41b774dfdabe5a", func := "railplan/railplanlaw31.DetectorSafe", spec := "detectorSafe", apart := false }
def DetectorSafeSaid : Prop := detectorSafeRow.holds Try.pinned (OpenSpec.ofChange detectorSafeSpec)

/-- ITS FALSE NEIGHBOUR: 'it returns false'. Refute it at one input. -/
def detectorSafeWrong : ChangeSpec := { name := "detectorSafe", fn := fun _ => fun
  | [d] => { results := [.lit (.bool false)], args := [d] }
  | _ => none }
def DetectorSafeWrongFalsely : Prop := detectorSafeRow.holds Try.pinned (OpenSpec.ofChange detectorSafeWrong)

/-- 'railplanlaw31.DetectorLatch': WHATEVER THE INPUT: true; the input reads as it did. -/
def detectorLatchSpec : ChangeSpec := { name := "detectorLatch", fn := fun _ => fun
  | [d1, d2, d3] => { results := [.lit (.bool true)], args := [d1, d2, d3] }
  | _ => none }
def detectorLatchRow : OpenClaim := { program := "ytpapembikcnhpaa", sum := "7a9fc2c305816098a35484dc8928a4ab5d5492f960f1671eaa41b774dfdabe5a", func := "railplan/railplanlaw31.DetectorLatch", spec := "detectorLatch", apart := false }
def DetectorLatchSaid : Prop := detectorLatchRow.holds Try.pinned (OpenSpec.ofChange detectorLatchSpec)

/-- ITS FALSE NEIGHBOUR: 'it returns false'. Refute it at one input. -/
def detectorLatchWrong : ChangeSpec := { name := "detectorLatch", fn := fun _ => fun
  | [d1, d2, d3] => { results := [.lit (.bool false)], args := [d1, d2, d3] }
  | _ => none }
def DetectorLatchWrongFalsely : Prop := detectorLatchRow.holds Try.pinned (OpenSpec.ofChange detectorLatchWrong)

/-- 'railplanlaw31.DetectorRun': WHATEVER THE INPUT: true; the input reads as it did. -/
def detectorRunSpec : ChangeSpec := { name := "detectorRun", fn := fun _ => fun
  | [d] => { results := [.lit (.bool true)], args := [d] }
  | _ => none }
def detectorRunRow : OpenClaim := { program := "ytpapembikcnhpaa", sum := "7a9fc2c305816098a35484dc8928a4ab5d5492f960f1671eaa41b774dfdabe5a", func := "railplan/railplanlaw31.DetectorRun", spec := "detectorRun", apart := false }
def DetectorRunSaid : Prop := detectorRunRow.holds Try.pinned (OpenSpec.ofChange detectorRunSpec)

/-- ITS FALSE NEIGHBOUR: 'it returns false'. Refute it at one input. -/
def detectorRunWrong : ChangeSpec := { name := "detectorRun", fn := fun _ => fun
  | [d] => { results := [.lit (.bool false)], args := [d] }
  | _ => none }
def DetectorRunWrongFalsely : Prop := detectorRunRow.holds Try.pinned (OpenSpec.ofChange detectorRunWrong)

/-- 'railplanlaw31.DetectorRaw': WHATEVER THE INPUT: true; the input reads as it did. -/
def detectorRawSpec : ChangeSpec := { name := "detectorRaw", fn := fun _ => fun
  | [d1, d2, d3, d4] => { results := [.lit (.bool true)], args := [d1, d2, d3, d4] }
  | _ => none }
def detectorRawRow : OpenClaim := { program := "ytpapembikcnhpaa", sum := "7a9fc2c305816098a35484dc8928a4ab5d5492f960f1671eaa41b774dfdabe5a", func := "railplan/railplanlaw31.DetectorRaw", spec := "detectorRaw", apart := false }
def DetectorRawSaid : Prop := detectorRawRow.holds Try.pinned (OpenSpec.ofChange detectorRawSpec)

/-- ITS FALSE NEIGHBOUR: 'it returns false'. Refute it at one input. -/
def detectorRawWrong : ChangeSpec := { name := "detectorRaw", fn := fun _ => fun
  | [d1, d2, d3, d4] => { results := [.lit (.bool false)], args := [d1, d2, d3, d4] }
  | _ => none }
def DetectorRawWrongFalsely : Prop := detectorRawRow.holds Try.pinned (OpenSpec.ofChange detectorRawWrong)

/- THE SECOND FORM. 'bulk': how many values and letters a reading holds, each counted each time it is reached (what is shared counts as often as it is met; a slice's spare places count too). A statement '..UptoSaid' is the law's where the arguments, and the package variables that the reading takes, are together of bulk at most 1048576: NARROWER than '..Said'. Prove '..Said' where nothing that the law and all that it calls make is longer than what came in: it says more and counts as full. Else prove '..UptoSaid'. A law counts once. -/
mutual
def uptoBulk {H : Type} : DataW H → Nat
  | .lit (.string bytes) => bytes.length + 1
  | .lit _ => 1
  | .nil => 1
  | .ptr d => uptoBulk d + 1
  | .slice elems spare => uptoBulkAll elems + uptoBulkAll spare + 1
  | .agg parts => uptoBulkAll parts + 1
  | .iface _ d => uptoBulk d + 1
  | .map entries => uptoBulkEntries entries + 1
  | .held _ => 1
def uptoBulkAll {H : Type} : List (DataW H) → Nat
  | [] => 0
  | d :: r => uptoBulk d + uptoBulkAll r
def uptoBulkEntries {H : Type} : List (Lit × DataW H) → Nat
  | [] => 0
  | x :: r => uptoBulkEntry x + uptoBulkEntries r
def uptoBulkEntry {H : Type} : Lit × DataW H → Nat
  | (.string bytes, d) => bytes.length + uptoBulk d + 1
  | (_, d) => uptoBulk d + 1
 end
def uptoSmall : (H : Type) → List (DataW H) → Bool := fun _ ds => decide (uptoBulkAll ds ≤ 1048576)
def OpenSpec.upto (s : _root_.Go.ChangeSpec) : _root_.Go.OpenSpec := { _root_.Go.OpenSpec.ofChange s with cond := some uptoSmall }

/-- 'railplanlaw31.DetectorExact', WHERE WHAT IT READS IS OF BULK AT MOST 1048576: true; the input reads as it did. -/
def detectorExactUptoRow : OpenClaim := { program := "ytpapembikcnhpaa", sum := "7a9fc2c305816098a35484dc8928a4ab5d5492f960f1671eaa41b774dfdabe5a", func := "railplan/railplanlaw31.DetectorExact", spec := "detectorExact", apart := false, narrowed := true }
def DetectorExactUptoSaid : Prop := detectorExactUptoRow.holds Try.pinned (OpenSpec.upto detectorExactSpec)

/-- 'railplanlaw31.DetectorLimits', WHERE WHAT IT READS IS OF BULK AT MOST 1048576: true; the input reads as it did. -/
def detectorLimitsUptoRow : OpenClaim := { program := "ytpapembikcnhpaa", sum := "7a9fc2c305816098a35484dc8928a4ab5d5492f960f1671eaa41b774dfdabe5a", func := "railplan/railplanlaw31.DetectorLimits", spec := "detectorLimits", apart := false, narrowed := true }
def DetectorLimitsUptoSaid : Prop := detectorLimitsUptoRow.holds Try.pinned (OpenSpec.upto detectorLimitsSpec)

/-- 'railplanlaw31.DetectorExample', WHERE WHAT IT READS IS OF BULK AT MOST 1048576: true; the input reads as it did. -/
def detectorExampleUptoRow : OpenClaim := { program := "ytpapembikcnhpaa", sum := "7a9fc2c305816098a35484dc8928a4ab5d5492f960f1671eaa41b774dfdabe5a", func := "railplan/railplanlaw31.DetectorExample", spec := "detectorExample", apart := false, narrowed := true }
def DetectorExampleUptoSaid : Prop := detectorExampleUptoRow.holds Try.pinned (OpenSpec.upto detectorExampleSpec)

/-- 'railplanlaw31.DetectorSmall', WHERE WHAT IT READS IS OF BULK AT MOST 1048576: true; the input reads as it did. -/
def detectorSmallUptoRow : OpenClaim := { program := "ytpapembikcnhpaa", sum := "7a9fc2c305816098a35484dc8928a4ab5d5492f960f1671eaa41b774dfdabe5a", func := "railplan/railplanlaw31.DetectorSmall", spec := "detectorSmall", apart := false, narrowed := true }
def DetectorSmallUptoSaid : Prop := detectorSmallUptoRow.holds Try.pinned (OpenSpec.upto detectorSmallSpec)

/-- 'railplanlaw31.DetectorSafe', WHERE WHAT IT READS IS OF BULK AT MOST 1048576: true; the input reads as it did. -/
def detectorSafeUptoRow : OpenClaim := { program := "ytpapembikcnhpaa", sum := "7a9fc2c305816098a35484dc8928a4ab5d5492f960f1671eaa41b774dfdabe5a", func := "railplan/railplanlaw31.DetectorSafe", spec := "detectorSafe", apart := false, narrowed := true }
def DetectorSafeUptoSaid : Prop := detectorSafeUptoRow.holds Try.pinned (OpenSpec.upto detectorSafeSpec)

/-- 'railplanlaw31.DetectorLatch', WHERE WHAT IT READS IS OF BULK AT MOST 1048576: true; the input reads as it did. -/
def detectorLatchUptoRow : OpenClaim := { program := "ytpapembikcnhpaa", sum := "7a9fc2c305816098a35484dc8928a4ab5d5492f960f1671eaa41b774dfdabe5a", func := "railplan/railplanlaw31.DetectorLatch", spec := "detectorLatch", apart := false, narrowed := true }
def DetectorLatchUptoSaid : Prop := detectorLatchUptoRow.holds Try.pinned (OpenSpec.upto detectorLatchSpec)

/-- 'railplanlaw31.DetectorRun', WHERE WHAT IT READS IS OF BULK AT MOST 1048576: true; the input reads as it did. -/
def detectorRunUptoRow : OpenClaim := { program := "ytpapembikcnhpaa", sum := "7a9fc2c305816098a35484dc8928a4ab5d5492f960f1671eaa41b774dfdabe5a", func := "railplan/railplanlaw31.DetectorRun", spec := "detectorRun", apart := false, narrowed := true }
def DetectorRunUptoSaid : Prop := detectorRunUptoRow.holds Try.pinned (OpenSpec.upto detectorRunSpec)

/-- 'railplanlaw31.DetectorRaw', WHERE WHAT IT READS IS OF BULK AT MOST 1048576: true; the input reads as it did. -/
def detectorRawUptoRow : OpenClaim := { program := "ytpapembikcnhpaa", sum := "7a9fc2c305816098a35484dc8928a4ab5d5492f960f1671eaa41b774dfdabe5a", func := "railplan/railplanlaw31.DetectorRaw", spec := "detectorRaw", apart := false, narrowed := true }
def DetectorRawUptoSaid : Prop := detectorRawUptoRow.holds Try.pinned (OpenSpec.upto detectorRawSpec)

end Rows
end Go.Proofs.Ytpapembikcnhpaa
