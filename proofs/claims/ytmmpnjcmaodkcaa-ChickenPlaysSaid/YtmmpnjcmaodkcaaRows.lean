/-
  No cell of these rows narrows 'for every input' (looked for: loops, veiled, ifaces, maps, wideKeys, modest, calm, conditions, laid).
  DERIVED. THE GIVEN ROWS OF THIS SEAT. 5 by the template 'for every input the law returns true; each argument reads behind the call as it read before'; 0 by the template 'total and deterministic' (their statements: YtmmpnjcmaodkcaaTotals.lean).
  GIVEN WITH THE SEED: the statements are not yours to turn. If you find one false, say at which input.
  Laid BY PROGRAM, IN A SANDBOX (cutbox-rows.mjs): the forced cells as the released guide's own fill.sh prints them over the translation dc65886b85f62b3f… (all of the seat's roots in one cut). By AI agents, Wed Nov 11 2026. No macro, syntax, notation, axiom, sorry.
-/
import Derived.Test.YtmmpnjcmaodkcaaChecked
import GoSem.Claim
import GoSem.ClaimJoined
import GoSem.ClaimMapViews
import Derived.JoinedTies
import Derived.KernelRfl
namespace Go.Proofs.Ytmmpnjcmaodkcaa
/- THE CELL 'sum', in the pinned program and in every row, IS THE sha256 OF THE DUMP (.gsa) THAT YtmmpnjcmaodkcaaProg.lean LOADS. Nothing in Lean hashes anything: it is a label: what it is worth is what the hold of that sum in a sandbox is worth. -/
noncomputable def Try.pinned : Pinned := { name := "ytmmpnjcmaodkcaa", sum := "dc65886b85f62b3f272e971f1ed3c87a018a5e6e7c7b5282ff14c64386a8f6b8", checked := Try.checked }
namespace Rows
def none {H : Type} : Left H := { results := [], args := [] }

/-- 'flitlaw13.ChickenReads': WHATEVER THE INPUT: true; the input reads as it did. -/
def chickenReadsSpec : ChangeSpec := { name := "chickenReads", fn := fun _ => fun
  | [d1, d2, d3] => { results := [.lit (.bool true)], args := [d1, d2, d3] }
  | _ => none }
def chickenReadsRow : OpenClaim := { program := "ytmmpnjcmaodkcaa", sum := "dc65886b85f62b3f272e971f1ed3c87a018a5e6e7c7b5282ff14c64386a8f6b8", func := "flit/flitlaw13.ChickenReads", spec := "chickenReads", unfollowed := true, recurses := true, apart := false }
def ChickenReadsSaid : Prop := chickenReadsRow.holds Try.pinned (OpenSpec.ofChange chickenReadsSpec)

/-- ITS FALSE NEIGHBOUR: 'it returns false'. Refute it at one input. -/
def chickenReadsWrong : ChangeSpec := { name := "chickenReads", fn := fun _ => fun
  | [d1, d2, d3] => { results := [.lit (.bool false)], args := [d1, d2, d3] }
  | _ => none }
def ChickenReadsWrongFalsely : Prop := chickenReadsRow.holds Try.pinned (OpenSpec.ofChange chickenReadsWrong)

/-- 'flitlaw13.ChickenAborts': WHATEVER THE INPUT: true; the input reads as it did. -/
def chickenAbortsSpec : ChangeSpec := { name := "chickenAborts", fn := fun _ => fun
  | [d1, d2] => { results := [.lit (.bool true)], args := [d1, d2] }
  | _ => none }
def chickenAbortsRow : OpenClaim := { program := "ytmmpnjcmaodkcaa", sum := "dc65886b85f62b3f272e971f1ed3c87a018a5e6e7c7b5282ff14c64386a8f6b8", func := "flit/flitlaw13.ChickenAborts", spec := "chickenAborts", unfollowed := true, recurses := true, apart := false }
def ChickenAbortsSaid : Prop := chickenAbortsRow.holds Try.pinned (OpenSpec.ofChange chickenAbortsSpec)

/-- ITS FALSE NEIGHBOUR: 'it returns false'. Refute it at one input. -/
def chickenAbortsWrong : ChangeSpec := { name := "chickenAborts", fn := fun _ => fun
  | [d1, d2] => { results := [.lit (.bool false)], args := [d1, d2] }
  | _ => none }
def ChickenAbortsWrongFalsely : Prop := chickenAbortsRow.holds Try.pinned (OpenSpec.ofChange chickenAbortsWrong)

/-- 'flitlaw13.ChickenMoved': WHATEVER THE INPUT: true; the input reads as it did. -/
def chickenMovedSpec : ChangeSpec := { name := "chickenMoved", fn := fun _ => fun
  | [d1, d2, d3] => { results := [.lit (.bool true)], args := [d1, d2, d3] }
  | _ => none }
def chickenMovedRow : OpenClaim := { program := "ytmmpnjcmaodkcaa", sum := "dc65886b85f62b3f272e971f1ed3c87a018a5e6e7c7b5282ff14c64386a8f6b8", func := "flit/flitlaw13.ChickenMoved", spec := "chickenMoved", unfollowed := true, recurses := true, apart := false }
def ChickenMovedSaid : Prop := chickenMovedRow.holds Try.pinned (OpenSpec.ofChange chickenMovedSpec)

/-- ITS FALSE NEIGHBOUR: 'it returns false'. Refute it at one input. -/
def chickenMovedWrong : ChangeSpec := { name := "chickenMoved", fn := fun _ => fun
  | [d1, d2, d3] => { results := [.lit (.bool false)], args := [d1, d2, d3] }
  | _ => none }
def ChickenMovedWrongFalsely : Prop := chickenMovedRow.holds Try.pinned (OpenSpec.ofChange chickenMovedWrong)

/-- 'flitlaw13.ChickenKeeps': WHATEVER THE INPUT: true; the input reads as it did. -/
def chickenKeepsSpec : ChangeSpec := { name := "chickenKeeps", fn := fun _ => fun
  | [d1, d2, d3] => { results := [.lit (.bool true)], args := [d1, d2, d3] }
  | _ => none }
def chickenKeepsRow : OpenClaim := { program := "ytmmpnjcmaodkcaa", sum := "dc65886b85f62b3f272e971f1ed3c87a018a5e6e7c7b5282ff14c64386a8f6b8", func := "flit/flitlaw13.ChickenKeeps", spec := "chickenKeeps", unfollowed := true, recurses := true, apart := false }
def ChickenKeepsSaid : Prop := chickenKeepsRow.holds Try.pinned (OpenSpec.ofChange chickenKeepsSpec)

/-- ITS FALSE NEIGHBOUR: 'it returns false'. Refute it at one input. -/
def chickenKeepsWrong : ChangeSpec := { name := "chickenKeeps", fn := fun _ => fun
  | [d1, d2, d3] => { results := [.lit (.bool false)], args := [d1, d2, d3] }
  | _ => none }
def ChickenKeepsWrongFalsely : Prop := chickenKeepsRow.holds Try.pinned (OpenSpec.ofChange chickenKeepsWrong)

/-- 'flitlaw13.ChickenPlays': WHATEVER THE INPUT: true; the input reads as it did. -/
def chickenPlaysSpec : ChangeSpec := { name := "chickenPlays", fn := fun _ => fun
  | [d1, d2, d3] => { results := [.lit (.bool true)], args := [d1, d2, d3] }
  | _ => none }
def chickenPlaysRow : OpenClaim := { program := "ytmmpnjcmaodkcaa", sum := "dc65886b85f62b3f272e971f1ed3c87a018a5e6e7c7b5282ff14c64386a8f6b8", func := "flit/flitlaw13.ChickenPlays", spec := "chickenPlays", unfollowed := true, recurses := true, apart := false }
def ChickenPlaysSaid : Prop := chickenPlaysRow.holds Try.pinned (OpenSpec.ofChange chickenPlaysSpec)

/-- ITS FALSE NEIGHBOUR: 'it returns false'. Refute it at one input. -/
def chickenPlaysWrong : ChangeSpec := { name := "chickenPlays", fn := fun _ => fun
  | [d1, d2, d3] => { results := [.lit (.bool false)], args := [d1, d2, d3] }
  | _ => none }
def ChickenPlaysWrongFalsely : Prop := chickenPlaysRow.holds Try.pinned (OpenSpec.ofChange chickenPlaysWrong)

/- THE SECOND FORM. 'bulk': how many values and letters a reading holds, each counted each time it is reached (what is shared counts as often as it is met; a slice's spare places count too). A statement '..UptoSaid' is the law's where the arguments, and the package variables that the reading takes, are together of bulk at most 1048576: NARROWER than '..Said'. Prove '..Said' where nothing that the law and all that it calls make is longer than what came in: it says more and counts as full. Else prove '..UptoSaid'. A law counts once. -/
mutual
def uptoBulk {H : Type} : DataW H → Nat
  | .lit (.string bytes) => bytes.length + 1
  | .lit _ => 1
  | .nil => 1
  | .ptr d => uptoBulk d + 1
  | .slice elems spare => uptoBulkAll elems + uptoBulkAll spare + 1
  | .agg parts => uptoBulkAll parts + 1
  | .iface _ d => uptoBulk d + 1
  | .map entries => uptoBulkEntries entries + 1
  | .held _ => 1
def uptoBulkAll {H : Type} : List (DataW H) → Nat
  | [] => 0
  | d :: r => uptoBulk d + uptoBulkAll r
def uptoBulkEntries {H : Type} : List (Lit × DataW H) → Nat
  | [] => 0
  | x :: r => uptoBulkEntry x + uptoBulkEntries r
def uptoBulkEntry {H : Type} : Lit × DataW H → Nat
  | (.string bytes, d) => bytes.length + uptoBulk d + 1
  | (_, d) => uptoBulk d + 1
 end
def uptoSmall : (H : Type) → List (DataW H) → Bool := fun _ ds => decide (uptoBulkAll ds ≤ 1048576)
def OpenSpec.upto (s : _root_.Go.ChangeSpec) : _root_.Go.OpenSpec := { _root_.Go.OpenSpec.ofChange s with cond := some uptoSmall }

/-- 'flitlaw13.ChickenReads', WHERE WHAT IT READS IS OF BULK AT MOST 1048576: true; the input reads as it did. -/
def chickenReadsUptoRow : OpenClaim := { program := "ytmmpnjcmaodkcaa", sum := "dc65886b85f62b3f272e971f1ed3c87a018a5e6e7c7b5282ff14c64386a8f6b8", func := "flit/flitlaw13.ChickenReads", spec := "chickenReads", unfollowed := true, recurses := true, apart := false, narrowed := true }
def ChickenReadsUptoSaid : Prop := chickenReadsUptoRow.holds Try.pinned (OpenSpec.upto chickenReadsSpec)

/-- 'flitlaw13.ChickenAborts', WHERE WHAT IT READS IS OF BULK AT MOST 1048576: true; the input reads as it did. -/
def chickenAbortsUptoRow : OpenClaim := { program := "ytmmpnjcmaodkcaa", sum := "dc65886b85f62b3f272e971f1ed3c87a018a5e6e7c7b5282ff14c64386a8f6b8", func := "flit/flitlaw13.ChickenAborts", spec := "chickenAborts", unfollowed := true, recurses := true, apart := false, narrowed := true }
def ChickenAbortsUptoSaid : Prop := chickenAbortsUptoRow.holds Try.pinned (OpenSpec.upto chickenAbortsSpec)

/-- 'flitlaw13.ChickenMoved', WHERE WHAT IT READS IS OF BULK AT MOST 1048576: true; the input reads as it did. -/
def chickenMovedUptoRow : OpenClaim := { program := "ytmmpnjcmaodkcaa", sum := "dc65886b85f62b3f272e971f1ed3c87a018a5e6e7c7b5282ff14c64386a8f6b8", func := "flit/flitlaw13.ChickenMoved", spec := "chickenMoved", unfollowed := true, recurses := true, apart := false, narrowed := true }
def ChickenMovedUptoSaid : Prop := chickenMovedUptoRow.holds Try.pinned (OpenSpec.upto chickenMovedSpec)

/-- 'flitlaw13.ChickenKeeps', WHERE WHAT IT READS IS OF BULK AT MOST 1048576: true; the input reads as it did. -/
def chickenKeepsUptoRow : OpenClaim := { program := "ytmmpnjcmaodkcaa", sum := "dc65886b85f62b3f272e971f1ed3c87a018a5e6e7c7b5282ff14c64386a8f6b8", func := "flit/flitlaw13.ChickenKeeps", spec := "chickenKeeps", unfollowed := true, recurses := true, apart := false, narrowed := true }
def ChickenKeepsUptoSaid : Prop := chickenKeepsUptoRow.holds Try.pinned (OpenSpec.upto chickenKeepsSpec)

/-- 'flitlaw13.ChickenPlays', WHERE WHAT IT READS IS OF BULK AT MOST 1048576: true; the input reads as it did. -/
def chickenPlaysUptoRow : OpenClaim := { program := "ytmmpnjcmaodkcaa", sum := "dc65886b85f62b3f272e971f1ed3c87a018a5e6e7c7b5282ff14c64386a8f6b8", func := "flit/flitlaw13.ChickenPlays", spec := "chickenPlays", unfollowed := true, recurses := true, apart := false, narrowed := true }
def ChickenPlaysUptoSaid : Prop := chickenPlaysUptoRow.holds Try.pinned (OpenSpec.upto chickenPlaysSpec)

end Rows
end Go.Proofs.Ytmmpnjcmaodkcaa
