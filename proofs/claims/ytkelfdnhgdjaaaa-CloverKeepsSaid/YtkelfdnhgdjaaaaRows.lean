/-
  No cell of these rows narrows 'for every input' (looked for: loops, veiled, ifaces, maps, wideKeys, modest, calm, conditions, laid).
  DERIVED. THE GIVEN ROWS OF THIS SEAT. 3 by the template 'for every input the law returns true; each argument reads behind the call as it read before'; 0 by the template 'total and deterministic' (their statements: YtkelfdnhgdjaaaaTotals.lean).
  GIVEN WITH THE SEED: the statements are not yours to turn. If you find one false, say at which input.
  Laid BY PROGRAM, IN A SANDBOX (cutbox-rows.mjs): the forced cells as the released guide's own fill.sh prints them over the translation a3d47c7ca1c02b81… (all of the seat's roots in one cut). By AI agents, Wed Nov 11 2026. No macro, syntax, notation, axiom, sorry.
-/
import Derived.Test.YtkelfdnhgdjaaaaChecked
import GoSem.Claim
import GoSem.ClaimJoined
import GoSem.ClaimMapViews
import Derived.JoinedTies
import Derived.KernelRfl
namespace Go.Proofs.Ytkelfdnhgdjaaaa
/- THE CELL 'sum', in the pinned program and in every row, IS THE sha256 OF THE DUMP (.gsa) THAT YtkelfdnhgdjaaaaProg.lean LOADS. Nothing in Lean hashes anything: it is a label: what it is worth is what the hold of that sum in a sandbox is worth. -/
noncomputable def Try.pinned : Pinned := { name := "ytkelfdnhgdjaaaa", sum := "a3d47c7ca1c02b8178653dfb9259fe79a2af900414e1dd882fe855e97d7c1f4a", checked := Try.checked }
namespace Rows
def none {H : Type} : Left H := { results := [], args := [] }

/-- 'flitlaw14.CloverReads': WHATEVER THE INPUT: true; the input reads as it did. -/
def cloverReadsSpec : ChangeSpec := { name := "cloverReads", fn := fun _ => fun
  | [d1, d2, d3] => { results := [.lit (.bool true)], args := [d1, d2, d3] }
  | _ => none }
def cloverReadsRow : OpenClaim := { program := "ytkelfdnhgdjaaaa", sum := "a3d47c7ca1c02b8178653dfb9259fe79a2af900414e1dd882fe855e97d7c1f4a", func := "flit/flitlaw14.CloverReads", spec := "cloverReads", unfollowed := true, recurses := true, apart := false }
def CloverReadsSaid : Prop := cloverReadsRow.holds Try.pinned (OpenSpec.ofChange cloverReadsSpec)

/-- ITS FALSE NEIGHBOUR: 'it returns false'. Refute it at one input. -/
def cloverReadsWrong : ChangeSpec := { name := "cloverReads", fn := fun _ => fun
  | [d1, d2, d3] => { results := [.lit (.bool false)], args := [d1, d2, d3] }
  | _ => none }
def CloverReadsWrongFalsely : Prop := cloverReadsRow.holds Try.pinned (OpenSpec.ofChange cloverReadsWrong)

/-- 'flitlaw14.CloverWaits': WHATEVER THE INPUT: true; the input reads as it did. -/
def cloverWaitsSpec : ChangeSpec := { name := "cloverWaits", fn := fun _ => fun
  | [d1, d2] => { results := [.lit (.bool true)], args := [d1, d2] }
  | _ => none }
def cloverWaitsRow : OpenClaim := { program := "ytkelfdnhgdjaaaa", sum := "a3d47c7ca1c02b8178653dfb9259fe79a2af900414e1dd882fe855e97d7c1f4a", func := "flit/flitlaw14.CloverWaits", spec := "cloverWaits", unfollowed := true, recurses := true, apart := false }
def CloverWaitsSaid : Prop := cloverWaitsRow.holds Try.pinned (OpenSpec.ofChange cloverWaitsSpec)

/-- ITS FALSE NEIGHBOUR: 'it returns false'. Refute it at one input. -/
def cloverWaitsWrong : ChangeSpec := { name := "cloverWaits", fn := fun _ => fun
  | [d1, d2] => { results := [.lit (.bool false)], args := [d1, d2] }
  | _ => none }
def CloverWaitsWrongFalsely : Prop := cloverWaitsRow.holds Try.pinned (OpenSpec.ofChange cloverWaitsWrong)

/-- 'flitlaw14.CloverKeeps': WHATEVER THE INPUT: true; the input reads as it did. -/
def cloverKeepsSpec : ChangeSpec := { name := "cloverKeeps", fn := fun _ => fun
  | [d1, d2, d3] => { results := [.lit (.bool true)], args := [d1, d2, d3] }
  | _ => none }
def cloverKeepsRow : OpenClaim := { program := "ytkelfdnhgdjaaaa", sum := "a3d47c7ca1c02b8178653dfb9259fe79a2af900414e1dd882fe855e97d7c1f4a", func := "flit/flitlaw14.CloverKeeps", spec := "cloverKeeps", unfollowed := true, recurses := true, apart := false }
def CloverKeepsSaid : Prop := cloverKeepsRow.holds Try.pinned (OpenSpec.ofChange cloverKeepsSpec)

/-- ITS FALSE NEIGHBOUR: 'it returns false'. Refute it at one input. -/
def cloverKeepsWrong : ChangeSpec := { name := "cloverKeeps", fn := fun _ => fun
  | [d1, d2, d3] => { results := [.lit (.bool false)], args := [d1, d2, d3] }
  | _ => none }
def CloverKeepsWrongFalsely : Prop := cloverKeepsRow.holds Try.pinned (OpenSpec.ofChange cloverKeepsWrong)

/- THE SECOND FORM. 'bulk': how many values and letters a reading holds, each counted each time it is reached (what is shared counts as often as it is met; a slice's spare places count too). A statement '..UptoSaid' is the law's where the arguments, and the package variables that the reading takes, are together of bulk at most 1048576: NARROWER than '..Said'. Prove '..Said' where nothing that the law and all that it calls make is longer than what came in: it says more and counts as full. Else prove '..UptoSaid'. A law counts once. -/
mutual
def uptoBulk {H : Type} : DataW H → Nat
  | .lit (.string bytes) => bytes.length + 1
  | .lit _ => 1
  | .nil => 1
  | .ptr d => uptoBulk d + 1
  | .slice elems spare => uptoBulkAll elems + uptoBulkAll spare + 1
  | .agg parts => uptoBulkAll parts + 1
  | .iface _ d => uptoBulk d + 1
  | .map entries => uptoBulkEntries entries + 1
  | .held _ => 1
def uptoBulkAll {H : Type} : List (DataW H) → Nat
  | [] => 0
  | d :: r => uptoBulk d + uptoBulkAll r
def uptoBulkEntries {H : Type} : List (Lit × DataW H) → Nat
  | [] => 0
  | x :: r => uptoBulkEntry x + uptoBulkEntries r
def uptoBulkEntry {H : Type} : Lit × DataW H → Nat
  | (.string bytes, d) => bytes.length + uptoBulk d + 1
  | (_, d) => uptoBulk d + 1
 end
def uptoSmall : (H : Type) → List (DataW H) → Bool := fun _ ds => decide (uptoBulkAll ds ≤ 1048576)
def OpenSpec.upto (s : _root_.Go.ChangeSpec) : _root_.Go.OpenSpec := { _root_.Go.OpenSpec.ofChange s with cond := some uptoSmall }

/-- 'flitlaw14.CloverReads', WHERE WHAT IT READS IS OF BULK AT MOST 1048576: true; the input reads as it did. -/
def cloverReadsUptoRow : OpenClaim := { program := "ytkelfdnhgdjaaaa", sum := "a3d47c7ca1c02b8178653dfb9259fe79a2af900414e1dd882fe855e97d7c1f4a", func := "flit/flitlaw14.CloverReads", spec := "cloverReads", unfollowed := true, recurses := true, apart := false, narrowed := true }
def CloverReadsUptoSaid : Prop := cloverReadsUptoRow.holds Try.pinned (OpenSpec.upto cloverReadsSpec)

/-- 'flitlaw14.CloverWaits', WHERE WHAT IT READS IS OF BULK AT MOST 1048576: true; the input reads as it did. -/
def cloverWaitsUptoRow : OpenClaim := { program := "ytkelfdnhgdjaaaa", sum := "a3d47c7ca1c02b8178653dfb9259fe79a2af900414e1dd882fe855e97d7c1f4a", func := "flit/flitlaw14.CloverWaits", spec := "cloverWaits", unfollowed := true, recurses := true, apart := false, narrowed := true }
def CloverWaitsUptoSaid : Prop := cloverWaitsUptoRow.holds Try.pinned (OpenSpec.upto cloverWaitsSpec)

/-- 'flitlaw14.CloverKeeps', WHERE WHAT IT READS IS OF BULK AT MOST 1048576: true; the input reads as it did. -/
def cloverKeepsUptoRow : OpenClaim := { program := "ytkelfdnhgdjaaaa", sum := "a3d47c7ca1c02b8178653dfb9259fe79a2af900414e1dd882fe855e97d7c1f4a", func := "flit/flitlaw14.CloverKeeps", spec := "cloverKeeps", unfollowed := true, recurses := true, apart := false, narrowed := true }
def CloverKeepsUptoSaid : Prop := cloverKeepsUptoRow.holds Try.pinned (OpenSpec.upto cloverKeepsSpec)

end Rows
end Go.Proofs.Ytkelfdnhgdjaaaa
