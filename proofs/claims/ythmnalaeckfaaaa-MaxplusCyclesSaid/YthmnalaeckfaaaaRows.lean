/-
  No cell of these rows narrows 'for every input' (looked for: loops, veiled, ifaces, maps, wideKeys, modest, calm, conditions, laid).
  DERIVED. THE GIVEN ROWS OF THIS SEAT. 10 by the template 'for every input the law returns true; each argument reads behind the call as it read before'; 0 by the template 'total and deterministic' (their statements: YthmnalaeckfaaaaTotals.lean).
  GIVEN WITH THE SEED: the statements are not yours to turn. If you find one false, say at which input.
  Laid BY PROGRAM, IN A SANDBOX (cutbox-rows.mjs): the forced cells as the released guide's own fill.sh prints them over the translation a5957ea122bb7f73… (all of the seat's roots in one cut). By AI agents, Wed Nov 11 2026. No macro, syntax, notation, axiom, sorry.
-/
import Derived.Test.YthmnalaeckfaaaaChecked
import GoSem.Claim
import GoSem.ClaimJoined
import GoSem.ClaimMapViews
import Derived.JoinedTies
import Derived.KernelRfl
namespace Go.Proofs.Ythmnalaeckfaaaa
/- THE CELL 'sum', in the pinned program and in every row, IS THE sha256 OF THE DUMP (.gsa) THAT YthmnalaeckfaaaaProg.lean LOADS. Nothing in Lean hashes anything: it is a label: what it is worth is what the hold of that sum in a sandbox is worth. -/
noncomputable def Try.pinned : Pinned := { name := "ythmnalaeckfaaaa", sum := "a5957ea122bb7f73ad2f142e2a50d546d053f0d1665752547be17108df987ba0", checked := Try.checked }
namespace Rows
def none {H : Type} : Left H := { results := [], args := [] }

/-- 'railplanlaw33.MaxplusCycles': WHATEVER THE INPUT: true; the input reads as it did. -/
def maxplusCyclesSpec : ChangeSpec := { name := "maxplusCycles", fn := fun _ => fun
  | [d1, d2] => { results := [.lit (.bool true)], args := [d1, d2] }
  | _ => none }
def maxplusCyclesRow : OpenClaim := { program := "ythmnalaeckfaaaa", sum := "a5957ea122bb7f73ad2f142e2a50d546d053f0d1665752547be17108df987ba0", func := "railplan/railplanlaw33.MaxplusCycles", spec := "maxplusCycles", recurses := true, apart := false }
def MaxplusCyclesSaid : Prop := maxplusCyclesRow.holds Try.pinned (OpenSpec.ofChange maxplusCyclesSpec)

/-- ITS FALSE NEIGHBOUR: 'it returns false'. Refute it at one input. -/
def maxplusCyclesWrong : ChangeSpec := { name := "maxplusCycles", fn := fun _ => fun
  | [d1, d2] => { results := [.lit (.bool false)], args := [d1, d2] }
  | _ => none }
def MaxplusCyclesWrongFalsely : Prop := maxplusCyclesRow.holds Try.pinned (OpenSpec.ofChange maxplusCyclesWrong)

/-- 'railplanlaw33.MaxplusRecover': WHATEVER THE INPUT: true; the input reads as it did. -/
def maxplusRecoverSpec : ChangeSpec := { name := "maxplusRecover", fn := fun _ => fun
  | [d1, d2, d3, d4, d5] => { results := [.lit (.bool true)], args := [d1, d2, d3, d4, d5] }
  | _ => none }
def maxplusRecoverRow : OpenClaim := { program := "ythmnalaeckfaaaa", sum := "a5957ea122bb7f73ad2f142e2a50d546d053f0d1665752547be17108df987ba0", func := "railplan/railplanlaw33.MaxplusRecover", spec := "maxplusRecover", apart := false }
def MaxplusRecoverSaid : Prop := maxplusRecoverRow.holds Try.pinned (OpenSpec.ofChange maxplusRecoverSpec)

/-- ITS FALSE NEIGHBOUR: 'it returns false'. Refute it at one input. -/
def maxplusRecoverWrong : ChangeSpec := { name := "maxplusRecover", fn := fun _ => fun
  | [d1, d2, d3, d4, d5] => { results := [.lit (.bool false)], args := [d1, d2, d3, d4, d5] }
  | _ => none }
def MaxplusRecoverWrongFalsely : Prop := maxplusRecoverRow.holds Try.pinned (OpenSpec.ofChange maxplusRecoverWrong)

/-- 'railplanlaw33.MaxplusLate': WHATEVER THE INPUT: true; the input reads as it did. -/
def maxplusLateSpec : ChangeSpec := { name := "maxplusLate", fn := fun _ => fun
  | [d1, d2, d3, d4] => { results := [.lit (.bool true)], args := [d1, d2, d3, d4] }
  | _ => none }
def maxplusLateRow : OpenClaim := { program := "ythmnalaeckfaaaa", sum := "a5957ea122bb7f73ad2f142e2a50d546d053f0d1665752547be17108df987ba0", func := "railplan/railplanlaw33.MaxplusLate", spec := "maxplusLate", apart := false }
def MaxplusLateSaid : Prop := maxplusLateRow.holds Try.pinned (OpenSpec.ofChange maxplusLateSpec)

/-- ITS FALSE NEIGHBOUR: 'it returns false'. Refute it at one input. -/
def maxplusLateWrong : ChangeSpec := { name := "maxplusLate", fn := fun _ => fun
  | [d1, d2, d3, d4] => { results := [.lit (.bool false)], args := [d1, d2, d3, d4] }
  | _ => none }
def MaxplusLateWrongFalsely : Prop := maxplusLateRow.holds Try.pinned (OpenSpec.ofChange maxplusLateWrong)

/-- 'railplanlaw33.MaxplusPower': WHATEVER THE INPUT: true; the input reads as it did. -/
def maxplusPowerSpec : ChangeSpec := { name := "maxplusPower", fn := fun _ => fun
  | [d1, d2, d3, d4] => { results := [.lit (.bool true)], args := [d1, d2, d3, d4] }
  | _ => none }
def maxplusPowerRow : OpenClaim := { program := "ythmnalaeckfaaaa", sum := "a5957ea122bb7f73ad2f142e2a50d546d053f0d1665752547be17108df987ba0", func := "railplan/railplanlaw33.MaxplusPower", spec := "maxplusPower", apart := false }
def MaxplusPowerSaid : Prop := maxplusPowerRow.holds Try.pinned (OpenSpec.ofChange maxplusPowerSpec)

/-- ITS FALSE NEIGHBOUR: 'it returns false'. Refute it at one input. -/
def maxplusPowerWrong : ChangeSpec := { name := "maxplusPower", fn := fun _ => fun
  | [d1, d2, d3, d4] => { results := [.lit (.bool false)], args := [d1, d2, d3, d4] }
  | _ => none }
def MaxplusPowerWrongFalsely : Prop := maxplusPowerRow.holds Try.pinned (OpenSpec.ofChange maxplusPowerWrong)

/-- 'railplanlaw33.MaxplusExample': WHATEVER THE INPUT: true; the input reads as it did. -/
def maxplusExampleSpec : ChangeSpec := { name := "maxplusExample", fn := fun _ => fun
  | [] => { results := [.lit (.bool true)], args := [] }
  | _ => none }
def maxplusExampleRow : OpenClaim := { program := "ythmnalaeckfaaaa", sum := "a5957ea122bb7f73ad2f142e2a50d546d053f0d1665752547be17108df987ba0", func := "railplan/railplanlaw33.MaxplusExample", spec := "maxplusExample", apart := false }
def MaxplusExampleSaid : Prop := maxplusExampleRow.holds Try.pinned (OpenSpec.ofChange maxplusExampleSpec)

/-- ITS FALSE NEIGHBOUR: 'it returns false'. Refute it at one input. -/
def maxplusExampleWrong : ChangeSpec := { name := "maxplusExample", fn := fun _ => fun
  | [] => { results := [.lit (.bool false)], args := [] }
  | _ => none }
def MaxplusExampleWrongFalsely : Prop := maxplusExampleRow.holds Try.pinned (OpenSpec.ofChange maxplusExampleWrong)

/-- 'railplanlaw33.MaxplusRaw': WHATEVER THE INPUT: true; the input reads as it did. -/
def maxplusRawSpec : ChangeSpec := { name := "maxplusRaw", fn := fun _ => fun
  | [d1, d2, d3, d4, d5, d6, d7, d8] => { results := [.lit (.bool true)], args := [d1, d2, d3, d4, d5, d6, d7, d8] }
  | _ => none }
def maxplusRawRow : OpenClaim := { program := "ythmnalaeckfaaaa", sum := "a5957ea122bb7f73ad2f142e2a50d546d053f0d1665752547be17108df987ba0", func := "railplan/railplanlaw33.MaxplusRaw", spec := "maxplusRaw", apart := false }
def MaxplusRawSaid : Prop := maxplusRawRow.holds Try.pinned (OpenSpec.ofChange maxplusRawSpec)

/-- ITS FALSE NEIGHBOUR: 'it returns false'. Refute it at one input. -/
def maxplusRawWrong : ChangeSpec := { name := "maxplusRaw", fn := fun _ => fun
  | [d1, d2, d3, d4, d5, d6, d7, d8] => { results := [.lit (.bool false)], args := [d1, d2, d3, d4, d5, d6, d7, d8] }
  | _ => none }
def MaxplusRawWrongFalsely : Prop := maxplusRawRow.holds Try.pinned (OpenSpec.ofChange maxplusRawWrong)

/-- 'railplanlaw33.MaxplusAssociative': WHATEVER THE INPUT: true; the input reads as it did. -/
def maxplusAssociativeSpec : ChangeSpec := { name := "maxplusAssociative", fn := fun _ => fun
  | [d1, d2, d3, d4, d5] => { results := [.lit (.bool true)], args := [d1, d2, d3, d4, d5] }
  | _ => none }
def maxplusAssociativeRow : OpenClaim := { program := "ythmnalaeckfaaaa", sum := "a5957ea122bb7f73ad2f142e2a50d546d053f0d1665752547be17108df987ba0", func := "railplan/railplanlaw33.MaxplusAssociative", spec := "maxplusAssociative", apart := false }
def MaxplusAssociativeSaid : Prop := maxplusAssociativeRow.holds Try.pinned (OpenSpec.ofChange maxplusAssociativeSpec)

/-- ITS FALSE NEIGHBOUR: 'it returns false'. Refute it at one input. -/
def maxplusAssociativeWrong : ChangeSpec := { name := "maxplusAssociative", fn := fun _ => fun
  | [d1, d2, d3, d4, d5] => { results := [.lit (.bool false)], args := [d1, d2, d3, d4, d5] }
  | _ => none }
def MaxplusAssociativeWrongFalsely : Prop := maxplusAssociativeRow.holds Try.pinned (OpenSpec.ofChange maxplusAssociativeWrong)

/-- 'railplanlaw33.MaxplusStar': WHATEVER THE INPUT: true; the input reads as it did. -/
def maxplusStarSpec : ChangeSpec := { name := "maxplusStar", fn := fun _ => fun
  | [d1, d2] => { results := [.lit (.bool true)], args := [d1, d2] }
  | _ => none }
def maxplusStarRow : OpenClaim := { program := "ythmnalaeckfaaaa", sum := "a5957ea122bb7f73ad2f142e2a50d546d053f0d1665752547be17108df987ba0", func := "railplan/railplanlaw33.MaxplusStar", spec := "maxplusStar", apart := false }
def MaxplusStarSaid : Prop := maxplusStarRow.holds Try.pinned (OpenSpec.ofChange maxplusStarSpec)

/-- ITS FALSE NEIGHBOUR: 'it returns false'. Refute it at one input. -/
def maxplusStarWrong : ChangeSpec := { name := "maxplusStar", fn := fun _ => fun
  | [d1, d2] => { results := [.lit (.bool false)], args := [d1, d2] }
  | _ => none }
def MaxplusStarWrongFalsely : Prop := maxplusStarRow.holds Try.pinned (OpenSpec.ofChange maxplusStarWrong)

/-- 'railplanlaw33.MaxplusMade': WHATEVER THE INPUT: true; the input reads as it did. -/
def maxplusMadeSpec : ChangeSpec := { name := "maxplusMade", fn := fun _ => fun
  | [d1, d2, d3] => { results := [.lit (.bool true)], args := [d1, d2, d3] }
  | _ => none }
def maxplusMadeRow : OpenClaim := { program := "ythmnalaeckfaaaa", sum := "a5957ea122bb7f73ad2f142e2a50d546d053f0d1665752547be17108df987ba0", func := "railplan/railplanlaw33.MaxplusMade", spec := "maxplusMade", apart := false }
def MaxplusMadeSaid : Prop := maxplusMadeRow.holds Try.pinned (OpenSpec.ofChange maxplusMadeSpec)

/-- ITS FALSE NEIGHBOUR: 'it returns false'. Refute it at one input. -/
def maxplusMadeWrong : ChangeSpec := { name := "maxplusMade", fn := fun _ => fun
  | [d1, d2, d3] => { results := [.lit (.bool false)], args := [d1, d2, d3] }
  | _ => none }
def MaxplusMadeWrongFalsely : Prop := maxplusMadeRow.holds Try.pinned (OpenSpec.ofChange maxplusMadeWrong)

/-- 'railplanlaw33.MaxplusEmpty': WHATEVER THE INPUT: true; the input reads as it did. -/
def maxplusEmptySpec : ChangeSpec := { name := "maxplusEmpty", fn := fun _ => fun
  | [d] => { results := [.lit (.bool true)], args := [d] }
  | _ => none }
def maxplusEmptyRow : OpenClaim := { program := "ythmnalaeckfaaaa", sum := "a5957ea122bb7f73ad2f142e2a50d546d053f0d1665752547be17108df987ba0", func := "railplan/railplanlaw33.MaxplusEmpty", spec := "maxplusEmpty", apart := false }
def MaxplusEmptySaid : Prop := maxplusEmptyRow.holds Try.pinned (OpenSpec.ofChange maxplusEmptySpec)

/-- ITS FALSE NEIGHBOUR: 'it returns false'. Refute it at one input. -/
def maxplusEmptyWrong : ChangeSpec := { name := "maxplusEmpty", fn := fun _ => fun
  | [d] => { results := [.lit (.bool false)], args := [d] }
  | _ => none }
def MaxplusEmptyWrongFalsely : Prop := maxplusEmptyRow.holds Try.pinned (OpenSpec.ofChange maxplusEmptyWrong)

/- THE SECOND FORM. 'bulk': how many values and letters a reading holds, each counted each time it is reached (what is shared counts as often as it is met; a slice's spare places count too). A statement '..UptoSaid' is the law's where the arguments, and the package variables that the reading takes, are together of bulk at most 1048576: NARROWER than '..Said'. Prove '..Said' where nothing that the law and all that it calls make is longer than what came in: it says more and counts as full. Else prove '..UptoSaid'. A law counts once. -/
mutual
def uptoBulk {H : Type} : DataW H → Nat
  | .lit (.string bytes) => bytes.length + 1
  | .lit _ => 1
  | .nil => 1
  | .ptr d => uptoBulk d + 1
  | .slice elems spare => uptoBulkAll elems + uptoBulkAll spare + 1
  | .agg parts => uptoBulkAll parts + 1
  | .iface _ d => uptoBulk d + 1
  | .map entries => uptoBulkEntries entries + 1
  | .held _ => 1
def uptoBulkAll {H : Type} : List (DataW H) → Nat
  | [] => 0
  | d :: r => uptoBulk d + uptoBulkAll r
def uptoBulkEntries {H : Type} : List (Lit × DataW H) → Nat
  | [] => 0
  | x :: r => uptoBulkEntry x + uptoBulkEntries r
def uptoBulkEntry {H : Type} : Lit × DataW H → Nat
  | (.string bytes, d) => bytes.length + uptoBulk d + 1
  | (_, d) => uptoBulk d + 1
 end
def uptoSmall : (H : Type) → List (DataW H) → Bool := fun _ ds => decide (uptoBulkAll ds ≤ 1048576)
def OpenSpec.upto (s : _root_.Go.ChangeSpec) : _root_.Go.OpenSpec := { _root_.Go.OpenSpec.ofChange s with cond := some uptoSmall }

/-- 'railplanlaw33.MaxplusCycles', WHERE WHAT IT READS IS OF BULK AT MOST 1048576: true; the input reads as it did. -/
def maxplusCyclesUptoRow : OpenClaim := { program := "ythmnalaeckfaaaa", sum := "a5957ea122bb7f73ad2f142e2a50d546d053f0d1665752547be17108df987ba0", func := "railplan/railplanlaw33.MaxplusCycles", spec := "maxplusCycles", recurses := true, apart := false, narrowed := true }
def MaxplusCyclesUptoSaid : Prop := maxplusCyclesUptoRow.holds Try.pinned (OpenSpec.upto maxplusCyclesSpec)

/-- 'railplanlaw33.MaxplusRecover', WHERE WHAT IT READS IS OF BULK AT MOST 1048576: true; the input reads as it did. -/
def maxplusRecoverUptoRow : OpenClaim := { program := "ythmnalaeckfaaaa", sum := "a5957ea122bb7f73ad2f142e2a50d546d053f0d1665752547be17108df987ba0", func := "railplan/railplanlaw33.MaxplusRecover", spec := "maxplusRecover", apart := false, narrowed := true }
def MaxplusRecoverUptoSaid : Prop := maxplusRecoverUptoRow.holds Try.pinned (OpenSpec.upto maxplusRecoverSpec)

/-- 'railplanlaw33.MaxplusLate', WHERE WHAT IT READS IS OF BULK AT MOST 1048576: true; the input reads as it did. -/
def maxplusLateUptoRow : OpenClaim := { program := "ythmnalaeckfaaaa", sum := "a5957ea122bb7f73ad2f142e2a50d546d053f0d1665752547be17108df987ba0", func := "railplan/railplanlaw33.MaxplusLate", spec := "maxplusLate", apart := false, narrowed := true }
def MaxplusLateUptoSaid : Prop := maxplusLateUptoRow.holds Try.pinned (OpenSpec.upto maxplusLateSpec)

/-- 'railplanlaw33.MaxplusPower', WHERE WHAT IT READS IS OF BULK AT MOST 1048576: true; the input reads as it did. -/
def maxplusPowerUptoRow : OpenClaim := { program := "ythmnalaeckfaaaa", sum := "a5957ea122bb7f73ad2f142e2a50d546d053f0d1665752547be17108df987ba0", func := "railplan/railplanlaw33.MaxplusPower", spec := "maxplusPower", apart := false, narrowed := true }
def MaxplusPowerUptoSaid : Prop := maxplusPowerUptoRow.holds Try.pinned (OpenSpec.upto maxplusPowerSpec)

/-- 'railplanlaw33.MaxplusExample', WHERE WHAT IT READS IS OF BULK AT MOST 1048576: true; the input reads as it did. -/
def maxplusExampleUptoRow : OpenClaim := { program := "ythmnalaeckfaaaa", sum := "a5957ea122bb7f73ad2f142e2a50d546d053f0d1665752547be17108df987ba0", func := "railplan/railplanlaw33.MaxplusExample", spec := "maxplusExample", apart := false, narrowed := true }
def MaxplusExampleUptoSaid : Prop := maxplusExampleUptoRow.holds Try.pinned (OpenSpec.upto maxplusExampleSpec)

/-- 'railplanlaw33.MaxplusRaw', WHERE WHAT IT READS IS OF BULK AT MOST 1048576: true; the input reads as it did. -/
def maxplusRawUptoRow : OpenClaim := { program := "ythmnalaeckfaaaa", sum := "a5957ea122bb7f73ad2f142e2a50d546d053f0d1665752547be17108df987ba0", func := "railplan/railplanlaw33.MaxplusRaw", spec := "maxplusRaw", apart := false, narrowed := true }
def MaxplusRawUptoSaid : Prop := maxplusRawUptoRow.holds Try.pinned (OpenSpec.upto maxplusRawSpec)

/-- 'railplanlaw33.MaxplusAssociative', WHERE WHAT IT READS IS OF BULK AT MOST 1048576: true; the input reads as it did. -/
def maxplusAssociativeUptoRow : OpenClaim := { program := "ythmnalaeckfaaaa", sum := "a5957ea122bb7f73ad2f142e2a50d546d053f0d1665752547be17108df987ba0", func := "railplan/railplanlaw33.MaxplusAssociative", spec := "maxplusAssociative", apart := false, narrowed := true }
def MaxplusAssociativeUptoSaid : Prop := maxplusAssociativeUptoRow.holds Try.pinned (OpenSpec.upto maxplusAssociativeSpec)

/-- 'railplanlaw33.MaxplusStar', WHERE WHAT IT READS IS OF BULK AT MOST 1048576: true; the input reads as it did. -/
def maxplusStarUptoRow : OpenClaim := { program := "ythmnalaeckfaaaa", sum := "a5957ea122bb7f73ad2f142e2a50d546d053f0d1665752547be17108df987ba0", func := "railplan/railplanlaw33.MaxplusStar", spec := "maxplusStar", apart := false, narrowed := true }
def MaxplusStarUptoSaid : Prop := maxplusStarUptoRow.holds Try.pinned (OpenSpec.upto maxplusStarSpec)

/-- 'railplanlaw33.MaxplusMade', WHERE WHAT IT READS IS OF BULK AT MOST 1048576: true; the input reads as it did. -/
def maxplusMadeUptoRow : OpenClaim := { program := "ythmnalaeckfaaaa", sum := "a5957ea122bb7f73ad2f142e2a50d546d053f0d1665752547be17108df987ba0", func := "railplan/railplanlaw33.MaxplusMade", spec := "maxplusMade", apart := false, narrowed := true }
def MaxplusMadeUptoSaid : Prop := maxplusMadeUptoRow.holds Try.pinned (OpenSpec.upto maxplusMadeSpec)

/-- 'railplanlaw33.MaxplusEmpty', WHERE WHAT IT READS IS OF BULK AT MOST 1048576: true; the input reads as it did. -/
def maxplusEmptyUptoRow : OpenClaim := { program := "ythmnalaeckfaaaa", sum := "a5957ea122bb7f73ad2f142e2a50d546d053f0d1665752547be17108df987ba0", func := "railplan/railplanlaw33.MaxplusEmpty", spec := "maxplusEmpty", apart := false, narrowed := true }
def MaxplusEmptyUptoSaid : Prop := maxplusEmptyUptoRow.holds Try.pinned (OpenSpec.upto maxplusEmptySpec)

end Rows
end Go.Proofs.Ythmnalaeckfaaaa
