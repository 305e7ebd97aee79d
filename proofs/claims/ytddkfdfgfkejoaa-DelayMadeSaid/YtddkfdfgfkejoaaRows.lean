/-
  No cell of these rows narrows 'for every input' (looked for: loops, veiled, ifaces, maps, wideKeys, modest, calm, conditions, laid).
  DERIVED. THE GIVEN ROWS OF THIS SEAT. 9 by the template 'for every input the law returns true; each argument reads behind the call as it read before'; 0 by the template 'total and deterministic' (their statements: YtddkfdfgfkejoaaTotals.lean).
  GIVEN WITH THE SEED: the statements are not yours to turn. If you find one false, say at which input.
  Laid BY PROGRAM, IN A SANDBOX (cutbox-rows.mjs): the forced cells as the released guide's own fill.sh prints them over the translation d74aa5a9444f3a1e… (all of the seat's roots in one cut). By AI agents, Wed Nov 11 2026. No macro, syntax, notation, axiom, sorry.
-/
import Derived.Test.YtddkfdfgfkejoaaChecked
import GoSem.Claim
import GoSem.ClaimJoined
import GoSem.ClaimMapViews
import Derived.JoinedTies
import Derived.KernelRfl
namespace Go.Proofs.Ytddkfdfgfkejoaa
/- THE CELL 'sum', in the pinned program and in every row, IS THE sha256 OF THE DUMP (.gsa) THAT YtddkfdfgfkejoaaProg.lean LOADS. Nothing in Lean hashes anything: it is a label: what it is worth is what the hold of that sum in a sandbox is worth. -/
noncomputable def Try.pinned : Pinned := { name := "ytddkfdfgfkejoaa", sum := "d74aa5a9444f3a1e29eb6e6470670674329b04d4c3c1936fc2f61d5b7bfaffc7", checked := Try.checked }
namespace Rows
def none {H : Type} : Left H := { results := [], args := [] }

/-- 'railplanlaw34.DelayWaits': WHATEVER THE INPUT: true; the input reads as it did. -/
def delayWaitsSpec : ChangeSpec := { name := "delayWaits", fn := fun _ => fun
  | [d] => { results := [.lit (.bool true)], args := [d] }
  | _ => none }
def delayWaitsRow : OpenClaim := { program := "ytddkfdfgfkejoaa", sum := "d74aa5a9444f3a1e29eb6e6470670674329b04d4c3c1936fc2f61d5b7bfaffc7", func := "railplan/railplanlaw34.DelayWaits", spec := "delayWaits", unfollowed := true, recurses := true, apart := false }
def DelayWaitsSaid : Prop := delayWaitsRow.holds Try.pinned (OpenSpec.ofChange delayWaitsSpec)

/-- ITS FALSE NEIGHBOUR: 'it returns false'. Refute it at one input. -/
def delayWaitsWrong : ChangeSpec := { name := "delayWaits", fn := fun _ => fun
  | [d] => { results := [.lit (.bool false)], args := [d] }
  | _ => none }
def DelayWaitsWrongFalsely : Prop := delayWaitsRow.holds Try.pinned (OpenSpec.ofChange delayWaitsWrong)

/-- 'railplanlaw34.DelayLeast': WHATEVER THE INPUT: true; the input reads as it did. -/
def delayLeastSpec : ChangeSpec := { name := "delayLeast", fn := fun _ => fun
  | [d] => { results := [.lit (.bool true)], args := [d] }
  | _ => none }
def delayLeastRow : OpenClaim := { program := "ytddkfdfgfkejoaa", sum := "d74aa5a9444f3a1e29eb6e6470670674329b04d4c3c1936fc2f61d5b7bfaffc7", func := "railplan/railplanlaw34.DelayLeast", spec := "delayLeast", unfollowed := true, recurses := true, apart := false }
def DelayLeastSaid : Prop := delayLeastRow.holds Try.pinned (OpenSpec.ofChange delayLeastSpec)

/-- ITS FALSE NEIGHBOUR: 'it returns false'. Refute it at one input. -/
def delayLeastWrong : ChangeSpec := { name := "delayLeast", fn := fun _ => fun
  | [d] => { results := [.lit (.bool false)], args := [d] }
  | _ => none }
def DelayLeastWrongFalsely : Prop := delayLeastRow.holds Try.pinned (OpenSpec.ofChange delayLeastWrong)

/-- 'railplanlaw34.DelayMonotone': WHATEVER THE INPUT: true; the input reads as it did. -/
def delayMonotoneSpec : ChangeSpec := { name := "delayMonotone", fn := fun _ => fun
  | [d1, d2, d3] => { results := [.lit (.bool true)], args := [d1, d2, d3] }
  | _ => none }
def delayMonotoneRow : OpenClaim := { program := "ytddkfdfgfkejoaa", sum := "d74aa5a9444f3a1e29eb6e6470670674329b04d4c3c1936fc2f61d5b7bfaffc7", func := "railplan/railplanlaw34.DelayMonotone", spec := "delayMonotone", unfollowed := true, recurses := true, apart := false }
def DelayMonotoneSaid : Prop := delayMonotoneRow.holds Try.pinned (OpenSpec.ofChange delayMonotoneSpec)

/-- ITS FALSE NEIGHBOUR: 'it returns false'. Refute it at one input. -/
def delayMonotoneWrong : ChangeSpec := { name := "delayMonotone", fn := fun _ => fun
  | [d1, d2, d3] => { results := [.lit (.bool false)], args := [d1, d2, d3] }
  | _ => none }
def DelayMonotoneWrongFalsely : Prop := delayMonotoneRow.holds Try.pinned (OpenSpec.ofChange delayMonotoneWrong)

/-- 'railplanlaw34.DelayOnTime': WHATEVER THE INPUT: true; the input reads as it did. -/
def delayOnTimeSpec : ChangeSpec := { name := "delayOnTime", fn := fun _ => fun
  | [d] => { results := [.lit (.bool true)], args := [d] }
  | _ => none }
def delayOnTimeRow : OpenClaim := { program := "ytddkfdfgfkejoaa", sum := "d74aa5a9444f3a1e29eb6e6470670674329b04d4c3c1936fc2f61d5b7bfaffc7", func := "railplan/railplanlaw34.DelayOnTime", spec := "delayOnTime", unfollowed := true, recurses := true, apart := false }
def DelayOnTimeSaid : Prop := delayOnTimeRow.holds Try.pinned (OpenSpec.ofChange delayOnTimeSpec)

/-- ITS FALSE NEIGHBOUR: 'it returns false'. Refute it at one input. -/
def delayOnTimeWrong : ChangeSpec := { name := "delayOnTime", fn := fun _ => fun
  | [d] => { results := [.lit (.bool false)], args := [d] }
  | _ => none }
def DelayOnTimeWrongFalsely : Prop := delayOnTimeRow.holds Try.pinned (OpenSpec.ofChange delayOnTimeWrong)

/-- 'railplanlaw34.DelayLateness': WHATEVER THE INPUT: true; the input reads as it did. -/
def delayLatenessSpec : ChangeSpec := { name := "delayLateness", fn := fun _ => fun
  | [d1, d2, d3] => { results := [.lit (.bool true)], args := [d1, d2, d3] }
  | _ => none }
def delayLatenessRow : OpenClaim := { program := "ytddkfdfgfkejoaa", sum := "d74aa5a9444f3a1e29eb6e6470670674329b04d4c3c1936fc2f61d5b7bfaffc7", func := "railplan/railplanlaw34.DelayLateness", spec := "delayLateness", unfollowed := true, recurses := true, apart := false }
def DelayLatenessSaid : Prop := delayLatenessRow.holds Try.pinned (OpenSpec.ofChange delayLatenessSpec)

/-- ITS FALSE NEIGHBOUR: 'it returns false'. Refute it at one input. -/
def delayLatenessWrong : ChangeSpec := { name := "delayLateness", fn := fun _ => fun
  | [d1, d2, d3] => { results := [.lit (.bool false)], args := [d1, d2, d3] }
  | _ => none }
def DelayLatenessWrongFalsely : Prop := delayLatenessRow.holds Try.pinned (OpenSpec.ofChange delayLatenessWrong)

/-- 'railplanlaw34.DelayRaw': WHATEVER THE INPUT: true; the input reads as it did. -/
def delayRawSpec : ChangeSpec := { name := "delayRaw", fn := fun _ => fun
  | [d1, d2, d3, d4] => { results := [.lit (.bool true)], args := [d1, d2, d3, d4] }
  | _ => none }
def delayRawRow : OpenClaim := { program := "ytddkfdfgfkejoaa", sum := "d74aa5a9444f3a1e29eb6e6470670674329b04d4c3c1936fc2f61d5b7bfaffc7", func := "railplan/railplanlaw34.DelayRaw", spec := "delayRaw", unfollowed := true, recurses := true, apart := false }
def DelayRawSaid : Prop := delayRawRow.holds Try.pinned (OpenSpec.ofChange delayRawSpec)

/-- ITS FALSE NEIGHBOUR: 'it returns false'. Refute it at one input. -/
def delayRawWrong : ChangeSpec := { name := "delayRaw", fn := fun _ => fun
  | [d1, d2, d3, d4] => { results := [.lit (.bool false)], args := [d1, d2, d3, d4] }
  | _ => none }
def DelayRawWrongFalsely : Prop := delayRawRow.holds Try.pinned (OpenSpec.ofChange delayRawWrong)

/-- 'railplanlaw34.DelayMade': WHATEVER THE INPUT: true; the input reads as it did. -/
def delayMadeSpec : ChangeSpec := { name := "delayMade", fn := fun _ => fun
  | [d1, d2, d3, d4] => { results := [.lit (.bool true)], args := [d1, d2, d3, d4] }
  | _ => none }
def delayMadeRow : OpenClaim := { program := "ytddkfdfgfkejoaa", sum := "d74aa5a9444f3a1e29eb6e6470670674329b04d4c3c1936fc2f61d5b7bfaffc7", func := "railplan/railplanlaw34.DelayMade", spec := "delayMade", unfollowed := true, recurses := true, apart := false }
def DelayMadeSaid : Prop := delayMadeRow.holds Try.pinned (OpenSpec.ofChange delayMadeSpec)

/-- ITS FALSE NEIGHBOUR: 'it returns false'. Refute it at one input. -/
def delayMadeWrong : ChangeSpec := { name := "delayMade", fn := fun _ => fun
  | [d1, d2, d3, d4] => { results := [.lit (.bool false)], args := [d1, d2, d3, d4] }
  | _ => none }
def DelayMadeWrongFalsely : Prop := delayMadeRow.holds Try.pinned (OpenSpec.ofChange delayMadeWrong)

/-- 'railplanlaw34.DelayCause': WHATEVER THE INPUT: true; the input reads as it did. -/
def delayCauseSpec : ChangeSpec := { name := "delayCause", fn := fun _ => fun
  | [d1, d2] => { results := [.lit (.bool true)], args := [d1, d2] }
  | _ => none }
def delayCauseRow : OpenClaim := { program := "ytddkfdfgfkejoaa", sum := "d74aa5a9444f3a1e29eb6e6470670674329b04d4c3c1936fc2f61d5b7bfaffc7", func := "railplan/railplanlaw34.DelayCause", spec := "delayCause", unfollowed := true, recurses := true, apart := false }
def DelayCauseSaid : Prop := delayCauseRow.holds Try.pinned (OpenSpec.ofChange delayCauseSpec)

/-- ITS FALSE NEIGHBOUR: 'it returns false'. Refute it at one input. -/
def delayCauseWrong : ChangeSpec := { name := "delayCause", fn := fun _ => fun
  | [d1, d2] => { results := [.lit (.bool false)], args := [d1, d2] }
  | _ => none }
def DelayCauseWrongFalsely : Prop := delayCauseRow.holds Try.pinned (OpenSpec.ofChange delayCauseWrong)

/-- 'railplanlaw34.DelayExample': WHATEVER THE INPUT: true; the input reads as it did. -/
def delayExampleSpec : ChangeSpec := { name := "delayExample", fn := fun _ => fun
  | [] => { results := [.lit (.bool true)], args := [] }
  | _ => none }
def delayExampleRow : OpenClaim := { program := "ytddkfdfgfkejoaa", sum := "d74aa5a9444f3a1e29eb6e6470670674329b04d4c3c1936fc2f61d5b7bfaffc7", func := "railplan/railplanlaw34.DelayExample", spec := "delayExample", unfollowed := true, recurses := true, apart := false }
def DelayExampleSaid : Prop := delayExampleRow.holds Try.pinned (OpenSpec.ofChange delayExampleSpec)

/-- ITS FALSE NEIGHBOUR: 'it returns false'. Refute it at one input. -/
def delayExampleWrong : ChangeSpec := { name := "delayExample", fn := fun _ => fun
  | [] => { results := [.lit (.bool false)], args := [] }
  | _ => none }
def DelayExampleWrongFalsely : Prop := delayExampleRow.holds Try.pinned (OpenSpec.ofChange delayExampleWrong)

/- THE SECOND FORM. 'bulk': how many values and letters a reading holds, each counted each time it is reached (what is shared counts as often as it is met; a slice's spare places count too). A statement '..UptoSaid' is the law's where the arguments, and the package variables that the reading takes, are together of bulk at most 1048576: NARROWER than '..Said'. Prove '..Said' where nothing that the law and all that it calls make is longer than what came in: it says more and counts as full. Else prove '..UptoSaid'. A law counts once. -/
mutual
def uptoBulk {H : Type} : DataW H → Nat
  | .lit (.string bytes) => bytes.length + 1
  | .lit _ => 1
  | .nil => 1
  | .ptr d => uptoBulk d + 1
  | .slice elems spare => uptoBulkAll elems + uptoBulkAll spare + 1
  | .agg parts => uptoBulkAll parts + 1
  | .iface _ d => uptoBulk d + 1
  | .map entries => uptoBulkEntries entries + 1
  | .held _ => 1
def uptoBulkAll {H : Type} : List (DataW H) → Nat
  | [] => 0
  | d :: r => uptoBulk d + uptoBulkAll r
def uptoBulkEntries {H : Type} : List (Lit × DataW H) → Nat
  | [] => 0
  | x :: r => uptoBulkEntry x + uptoBulkEntries r
def uptoBulkEntry {H : Type} : Lit × DataW H → Nat
  | (.string bytes, d) => bytes.length + uptoBulk d + 1
  | (_, d) => uptoBulk d + 1
 end
def uptoSmall : (H : Type) → List (DataW H) → Bool := fun _ ds => decide (uptoBulkAll ds ≤ 1048576)
def OpenSpec.upto (s : _root_.Go.ChangeSpec) : _root_.Go.OpenSpec := { _root_.Go.OpenSpec.ofChange s with cond := some uptoSmall }

/-- 'railplanlaw34.DelayWaits', WHERE WHAT IT READS IS OF BULK AT MOST 1048576: true; the input reads as it did. -/
def delayWaitsUptoRow : OpenClaim := { program := "ytddkfdfgfkejoaa", sum := "d74aa5a9444f3a1e29eb6e6470670674329b04d4c3c1936fc2f61d5b7bfaffc7", func := "railplan/railplanlaw34.DelayWaits", spec := "delayWaits", unfollowed := true, recurses := true, apart := false, narrowed := true }
def DelayWaitsUptoSaid : Prop := delayWaitsUptoRow.holds Try.pinned (OpenSpec.upto delayWaitsSpec)

/-- 'railplanlaw34.DelayLeast', WHERE WHAT IT READS IS OF BULK AT MOST 1048576: true; the input reads as it did. -/
def delayLeastUptoRow : OpenClaim := { program := "ytddkfdfgfkejoaa", sum := "d74aa5a9444f3a1e29eb6e6470670674329b04d4c3c1936fc2f61d5b7bfaffc7", func := "railplan/railplanlaw34.DelayLeast", spec := "delayLeast", unfollowed := true, recurses := true, apart := false, narrowed := true }
def DelayLeastUptoSaid : Prop := delayLeastUptoRow.holds Try.pinned (OpenSpec.upto delayLeastSpec)

/-- 'railplanlaw34.DelayMonotone', WHERE WHAT IT READS IS OF BULK AT MOST 1048576: true; the input reads as it did. -/
def delayMonotoneUptoRow : OpenClaim := { program := "ytddkfdfgfkejoaa", sum := "d74aa5a9444f3a1e29eb6e6470670674329b04d4c3c1936fc2f61d5b7bfaffc7", func := "railplan/railplanlaw34.DelayMonotone", spec := "delayMonotone", unfollowed := true, recurses := true, apart := false, narrowed := true }
def DelayMonotoneUptoSaid : Prop := delayMonotoneUptoRow.holds Try.pinned (OpenSpec.upto delayMonotoneSpec)

/-- 'railplanlaw34.DelayOnTime', WHERE WHAT IT READS IS OF BULK AT MOST 1048576: true; the input reads as it did. -/
def delayOnTimeUptoRow : OpenClaim := { program := "ytddkfdfgfkejoaa", sum := "d74aa5a9444f3a1e29eb6e6470670674329b04d4c3c1936fc2f61d5b7bfaffc7", func := "railplan/railplanlaw34.DelayOnTime", spec := "delayOnTime", unfollowed := true, recurses := true, apart := false, narrowed := true }
def DelayOnTimeUptoSaid : Prop := delayOnTimeUptoRow.holds Try.pinned (OpenSpec.upto delayOnTimeSpec)

/-- 'railplanlaw34.DelayLateness', WHERE WHAT IT READS IS OF BULK AT MOST 1048576: true; the input reads as it did. -/
def delayLatenessUptoRow : OpenClaim := { program := "ytddkfdfgfkejoaa", sum := "d74aa5a9444f3a1e29eb6e6470670674329b04d4c3c1936fc2f61d5b7bfaffc7", func := "railplan/railplanlaw34.DelayLateness", spec := "delayLateness", unfollowed := true, recurses := true, apart := false, narrowed := true }
def DelayLatenessUptoSaid : Prop := delayLatenessUptoRow.holds Try.pinned (OpenSpec.upto delayLatenessSpec)

/-- 'railplanlaw34.DelayRaw', WHERE WHAT IT READS IS OF BULK AT MOST 1048576: true; the input reads as it did. -/
def delayRawUptoRow : OpenClaim := { program := "ytddkfdfgfkejoaa", sum := "d74aa5a9444f3a1e29eb6e6470670674329b04d4c3c1936fc2f61d5b7bfaffc7", func := "railplan/railplanlaw34.DelayRaw", spec := "delayRaw", unfollowed := true, recurses := true, apart := false, narrowed := true }
def DelayRawUptoSaid : Prop := delayRawUptoRow.holds Try.pinned (OpenSpec.upto delayRawSpec)

/-- 'railplanlaw34.DelayMade', WHERE WHAT IT READS IS OF BULK AT MOST 1048576: true; the input reads as it did. -/
def delayMadeUptoRow : OpenClaim := { program := "ytddkfdfgfkejoaa", sum := "d74aa5a9444f3a1e29eb6e6470670674329b04d4c3c1936fc2f61d5b7bfaffc7", func := "railplan/railplanlaw34.DelayMade", spec := "delayMade", unfollowed := true, recurses := true, apart := false, narrowed := true }
def DelayMadeUptoSaid : Prop := delayMadeUptoRow.holds Try.pinned (OpenSpec.upto delayMadeSpec)

/-- 'railplanlaw34.DelayCause', WHERE WHAT IT READS IS OF BULK AT MOST 1048576: true; the input reads as it did. -/
def delayCauseUptoRow : OpenClaim := { program := "ytddkfdfgfkejoaa", sum := "d74aa5a9444f3a1e29eb6e6470670674329b04d4c3c1936fc2f61d5b7bfaffc7", func := "railplan/railplanlaw34.DelayCause", spec := "delayCause", unfollowed := true, recurses := true, apart := false, narrowed := true }
def DelayCauseUptoSaid : Prop := delayCauseUptoRow.holds Try.pinned (OpenSpec.upto delayCauseSpec)

/-- 'railplanlaw34.DelayExample', WHERE WHAT IT READS IS OF BULK AT MOST 1048576: true; the input reads as it did. -/
def delayExampleUptoRow : OpenClaim := { program := "ytddkfdfgfkejoaa", sum := "d74aa5a9444f3a1e29eb6e6470670674329b04d4c3c1936fc2f61d5b7bfaffc7", func := "railplan/railplanlaw34.DelayExample", spec := "delayExample", unfollowed := true, recurses := true, apart := false, narrowed := true }
def DelayExampleUptoSaid : Prop := delayExampleUptoRow.holds Try.pinned (OpenSpec.upto delayExampleSpec)

end Rows
end Go.Proofs.Ytddkfdfgfkejoaa
