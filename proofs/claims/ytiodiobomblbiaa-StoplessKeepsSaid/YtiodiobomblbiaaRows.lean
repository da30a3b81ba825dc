/-
  No cell of these rows narrows 'for every input' (looked for: loops, veiled, ifaces, maps, wideKeys, modest, calm, conditions, laid).
  DERIVED. THE GIVEN ROWS OF THIS SEAT. 4 by the template 'for every input the law returns true; each argument reads behind the call as it read before'; 0 by the template 'total and deterministic' (their statements: YtiodiobomblbiaaTotals.lean).
  GIVEN WITH THE SEED: the statements are not yours to turn. If you find one false, say at which input.
  Laid BY PROGRAM, IN A SANDBOX (cutbox-rows.mjs): the forced cells as the released guide's own fill.sh prints them over the translation 8976c145433321c3… (all of the seat's roots in one cut). By AI agents, Wed Nov 11 2026. No macro, syntax, notation, axiom, sorry.
-/
import Derived.Test.YtiodiobomblbiaaChecked
import GoSem.Claim
import GoSem.ClaimJoined
import GoSem.ClaimMapViews
import Derived.JoinedTies
import Derived.KernelRfl
namespace Go.Proofs.Ytiodiobomblbiaa
/- THE CELL 'sum', in the pinned program and in every row, IS THE sha256 OF THE DUMP (.gsa) THAT YtiodiobomblbiaaProg.lean LOADS. Nothing in Lean hashes anything: it is a label: what it is worth is what the hold of that sum in a sandbox is worth. -/
noncomputable def Try.pinned : Pinned := { name := "ytiodiobomblbiaa", sum := "8976c145433321c328d430f43d8d0a7f774e7c15134d01d4b0adcfbe9cbc9eae", checked := Try.checked }
namespace Rows
def none {H : Type} : Left H := { results := [], args := [] }

/-- 'flitlaw15.StoplessReads': WHATEVER THE INPUT: true; the input reads as it did. -/
def stoplessReadsSpec : ChangeSpec := { name := "stoplessReads", fn := fun _ => fun
  | [d1, d2, d3] => { results := [.lit (.bool true)], args := [d1, d2, d3] }
  | _ => none }
def stoplessReadsRow : OpenClaim := { program := "ytiodiobomblbiaa", sum := "8976c145433321c328d430f43d8d0a7f774e7c15134d01d4b0adcfbe9cbc9eae", func := "flit/flitlaw15.StoplessReads", spec := "stoplessReads", unfollowed := true, recurses := true, apart := false }
def StoplessReadsSaid : Prop := stoplessReadsRow.holds Try.pinned (OpenSpec.ofChange stoplessReadsSpec)

/-- ITS FALSE NEIGHBOUR: 'it returns false'. Refute it at one input. -/
def stoplessReadsWrong : ChangeSpec := { name := "stoplessReads", fn := fun _ => fun
  | [d1, d2, d3] => { results := [.lit (.bool false)], args := [d1, d2, d3] }
  | _ => none }
def StoplessReadsWrongFalsely : Prop := stoplessReadsRow.holds Try.pinned (OpenSpec.ofChange stoplessReadsWrong)

/-- 'flitlaw15.StoplessSwaps': WHATEVER THE INPUT: true; the input reads as it did. -/
def stoplessSwapsSpec : ChangeSpec := { name := "stoplessSwaps", fn := fun _ => fun
  | [d1, d2, d3] => { results := [.lit (.bool true)], args := [d1, d2, d3] }
  | _ => none }
def stoplessSwapsRow : OpenClaim := { program := "ytiodiobomblbiaa", sum := "8976c145433321c328d430f43d8d0a7f774e7c15134d01d4b0adcfbe9cbc9eae", func := "flit/flitlaw15.StoplessSwaps", spec := "stoplessSwaps", unfollowed := true, recurses := true, apart := false }
def StoplessSwapsSaid : Prop := stoplessSwapsRow.holds Try.pinned (OpenSpec.ofChange stoplessSwapsSpec)

/-- ITS FALSE NEIGHBOUR: 'it returns false'. Refute it at one input. -/
def stoplessSwapsWrong : ChangeSpec := { name := "stoplessSwaps", fn := fun _ => fun
  | [d1, d2, d3] => { results := [.lit (.bool false)], args := [d1, d2, d3] }
  | _ => none }
def StoplessSwapsWrongFalsely : Prop := stoplessSwapsRow.holds Try.pinned (OpenSpec.ofChange stoplessSwapsWrong)

/-- 'flitlaw15.StoplessWrites': WHATEVER THE INPUT: true; the input reads as it did. -/
def stoplessWritesSpec : ChangeSpec := { name := "stoplessWrites", fn := fun _ => fun
  | [d1, d2] => { results := [.lit (.bool true)], args := [d1, d2] }
  | _ => none }
def stoplessWritesRow : OpenClaim := { program := "ytiodiobomblbiaa", sum := "8976c145433321c328d430f43d8d0a7f774e7c15134d01d4b0adcfbe9cbc9eae", func := "flit/flitlaw15.StoplessWrites", spec := "stoplessWrites", unfollowed := true, recurses := true, apart := false }
def StoplessWritesSaid : Prop := stoplessWritesRow.holds Try.pinned (OpenSpec.ofChange stoplessWritesSpec)

/-- ITS FALSE NEIGHBOUR: 'it returns false'. Refute it at one input. -/
def stoplessWritesWrong : ChangeSpec := { name := "stoplessWrites", fn := fun _ => fun
  | [d1, d2] => { results := [.lit (.bool false)], args := [d1, d2] }
  | _ => none }
def StoplessWritesWrongFalsely : Prop := stoplessWritesRow.holds Try.pinned (OpenSpec.ofChange stoplessWritesWrong)

/-- 'flitlaw15.StoplessKeeps': WHATEVER THE INPUT: true; the input reads as it did. -/
def stoplessKeepsSpec : ChangeSpec := { name := "stoplessKeeps", fn := fun _ => fun
  | [d1, d2, d3] => { results := [.lit (.bool true)], args := [d1, d2, d3] }
  | _ => none }
def stoplessKeepsRow : OpenClaim := { program := "ytiodiobomblbiaa", sum := "8976c145433321c328d430f43d8d0a7f774e7c15134d01d4b0adcfbe9cbc9eae", func := "flit/flitlaw15.StoplessKeeps", spec := "stoplessKeeps", unfollowed := true, recurses := true, apart := false }
def StoplessKeepsSaid : Prop := stoplessKeepsRow.holds Try.pinned (OpenSpec.ofChange stoplessKeepsSpec)

/-- ITS FALSE NEIGHBOUR: 'it returns false'. Refute it at one input. -/
def stoplessKeepsWrong : ChangeSpec := { name := "stoplessKeeps", fn := fun _ => fun
  | [d1, d2, d3] => { results := [.lit (.bool false)], args := [d1, d2, d3] }
  | _ => none }
def StoplessKeepsWrongFalsely : Prop := stoplessKeepsRow.holds Try.pinned (OpenSpec.ofChange stoplessKeepsWrong)

/- THE SECOND FORM. 'bulk': how many values and letters a reading holds, each counted each time it is reached (what is shared counts as often as it is met; a slice's spare places count too). A statement '..UptoSaid' is the law's where the arguments, and the package variables that the reading takes, are together of bulk at most 1048576: NARROWER than '..Said'. Prove '..Said' where nothing that the law and all that it calls make is longer than what came in: it says more and counts as full. Else prove '..UptoSaid'. A law counts once. -/
mutual
def uptoBulk {H : Type} : DataW H → Nat
  | .lit (.string bytes) => bytes.length + 1
  | .lit _ => 1
  | .nil => 1
  | .ptr d => uptoBulk d + 1
  | .slice elems spare => uptoBulkAll elems + uptoBulkAll spare + 1
  | .agg parts => uptoBulkAll parts + 1
  | .iface _ d => uptoBulk d + 1
  | .map entries => uptoBulkEntries entries + 1
  | .held _ => 1
def uptoBulkAll {H : Type} : List (DataW H) → Nat
  | [] => 0
  | d :: r => uptoBulk d + uptoBulkAll r
def uptoBulkEntries {H : Type} : List (Lit × DataW H) → Nat
  | [] => 0
  | x :: r => uptoBulkEntry x + uptoBulkEntries r
def uptoBulkEntry {H : Type} : Lit × DataW H → Nat
  | (.string bytes, d) => bytes.length + uptoBulk d + 1
  | (_, d) => uptoBulk d + 1
 end
def uptoSmall : (H : Type) → List (DataW H) → Bool := fun _ ds => decide (uptoBulkAll ds ≤ 1048576)
def OpenSpec.upto (s : _root_.Go.ChangeSpec) : _root_.Go.OpenSpec := { _root_.Go.OpenSpec.ofChange s with cond := some uptoSmall }

/-- 'flitlaw15.StoplessReads', WHERE WHAT IT READS IS OF BULK AT MOST 1048576: true; the input reads as it did. -/
def stoplessReadsUptoRow : OpenClaim := { program := "ytiodiobomblbiaa", sum := "8976c145433321c328d430f43d8d0a7f774e7c15134d01d4b0adcfbe9cbc9eae", func := "flit/flitlaw15.StoplessReads", spec := "stoplessReads", unfollowed := true, recurses := true, apart := false, narrowed := true }
def StoplessReadsUptoSaid : Prop := stoplessReadsUptoRow.holds Try.pinned (OpenSpec.upto stoplessReadsSpec)

/-- 'flitlaw15.StoplessSwaps', WHERE WHAT IT READS IS OF BULK AT MOST 1048576: true; the input reads as it did. -/
def stoplessSwapsUptoRow : OpenClaim := { program := "ytiodiobomblbiaa", sum := "8976c145433321c328d430f43d8d0a7f774e7c15134d01d4b0adcfbe9cbc9eae", func := "flit/flitlaw15.StoplessSwaps", spec := "stoplessSwaps", unfollowed := true, recurses := true, apart := false, narrowed := true }
def StoplessSwapsUptoSaid : Prop := stoplessSwapsUptoRow.holds Try.pinned (OpenSpec.upto stoplessSwapsSpec)

/-- 'flitlaw15.StoplessWrites', WHERE WHAT IT READS IS OF BULK AT MOST 1048576: true; the input reads as it did. -/
def stoplessWritesUptoRow : OpenClaim := { program := "ytiodiobomblbiaa", sum := "8976c145433321c328d430f43d8d0a7f774e7c15134d01d4b0adcfbe9cbc9eae", func := "flit/flitlaw15.StoplessWrites", spec := "stoplessWrites", unfollowed := true, recurses := true, apart := false, narrowed := true }
def StoplessWritesUptoSaid : Prop := stoplessWritesUptoRow.holds Try.pinned (OpenSpec.upto stoplessWritesSpec)

/-- 'flitlaw15.StoplessKeeps', WHERE WHAT IT READS IS OF BULK AT MOST 1048576: true; the input reads as it did. -/
def stoplessKeepsUptoRow : OpenClaim := { program := "ytiodiobomblbiaa", sum := "8976c145433321c328d430f43d8d0a7f774e7c15134d01d4b0adcfbe9cbc9eae", func := "flit/flitlaw15.StoplessKeeps", spec := "stoplessKeeps", unfollowed := true, recurses := true, apart := false, narrowed := true }
def StoplessKeepsUptoSaid : Prop := stoplessKeepsUptoRow.holds Try.pinned (OpenSpec.upto stoplessKeepsSpec)

end Rows
end Go.Proofs.Ytiodiobomblbiaa
