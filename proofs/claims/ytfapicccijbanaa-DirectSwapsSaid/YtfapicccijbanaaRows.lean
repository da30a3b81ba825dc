/-
  No cell of these rows narrows 'for every input' (looked for: loops, veiled, ifaces, maps, wideKeys, modest, calm, conditions, laid).
  DERIVED. THE GIVEN ROWS OF THIS SEAT. 6 by the template 'for every input the law returns true; each argument reads behind the call as it read before'; 0 by the template 'total and deterministic' (their statements: YtfapicccijbanaaTotals.lean).
  GIVEN WITH THE SEED: the statements are not yours to turn. If you find one false, say at which input.
  Laid BY PROGRAM, IN A SANDBOX (cutbox-rows.mjs): the forced cells as the released guide's own fill.sh prints them over the translation 1bc37a53448d22bc… (all of the seat's roots in one cut). By AI agents, Wed Nov 11 2026. No macro, syntax, notation, axiom, sorry.
-/
import Derived.Test.YtfapicccijbanaaChecked
import GoSem.Claim
import GoSem.ClaimJoined
import GoSem.ClaimMapViews
import Derived.JoinedTies
import Derived.KernelRfl
namespace Go.Proofs.Ytfapicccijbanaa
/- THE CELL 'sum', in the pinned program and in every row, IS THE sha256 OF THE DUMP (.gsa) THAT YtfapicccijbanaaProg.lean LOADS. Nothing in Lean hashes anything: it is a label: what it is worth is what the hold of that sum in a sandbox is worth. -/
noncomputable def Try.pinned : Pinned := { name := "ytfapicccijbanaa", sum := "1bc37a53448d22bcf24101df9d25623ff3f86ae29b0659799d0e62cbf413ab42", checked := Try.checked }
namespace Rows
def none {H : Type} : Left H := { results := [], args := [] }

/-- 'flitlaw12.DirectAlone': WHATEVER THE INPUT: true; the input reads as it did. -/
def directAloneSpec : ChangeSpec := { name := "directAlone", fn := fun _ => fun
  | [d1, d2] => { results := [.lit (.bool true)], args := [d1, d2] }
  | _ => none }
def directAloneRow : OpenClaim := { program := "ytfapicccijbanaa", sum := "1bc37a53448d22bcf24101df9d25623ff3f86ae29b0659799d0e62cbf413ab42", func := "flit/flitlaw12.DirectAlone", spec := "directAlone", unfollowed := true, recurses := true, apart := false }
def DirectAloneSaid : Prop := directAloneRow.holds Try.pinned (OpenSpec.ofChange directAloneSpec)

/-- ITS FALSE NEIGHBOUR: 'it returns false'. Refute it at one input. -/
def directAloneWrong : ChangeSpec := { name := "directAlone", fn := fun _ => fun
  | [d1, d2] => { results := [.lit (.bool false)], args := [d1, d2] }
  | _ => none }
def DirectAloneWrongFalsely : Prop := directAloneRow.holds Try.pinned (OpenSpec.ofChange directAloneWrong)

/-- 'flitlaw12.DirectSwaps': WHATEVER THE INPUT: true; the input reads as it did. -/
def directSwapsSpec : ChangeSpec := { name := "directSwaps", fn := fun _ => fun
  | [d1, d2, d3] => { results := [.lit (.bool true)], args := [d1, d2, d3] }
  | _ => none }
def directSwapsRow : OpenClaim := { program := "ytfapicccijbanaa", sum := "1bc37a53448d22bcf24101df9d25623ff3f86ae29b0659799d0e62cbf413ab42", func := "flit/flitlaw12.DirectSwaps", spec := "directSwaps", unfollowed := true, recurses := true, apart := false }
def DirectSwapsSaid : Prop := directSwapsRow.holds Try.pinned (OpenSpec.ofChange directSwapsSpec)

/-- ITS FALSE NEIGHBOUR: 'it returns false'. Refute it at one input. -/
def directSwapsWrong : ChangeSpec := { name := "directSwaps", fn := fun _ => fun
  | [d1, d2, d3] => { results := [.lit (.bool false)], args := [d1, d2, d3] }
  | _ => none }
def DirectSwapsWrongFalsely : Prop := directSwapsRow.holds Try.pinned (OpenSpec.ofChange directSwapsWrong)

/-- 'flitlaw12.DirectFixes': WHATEVER THE INPUT: true; the input reads as it did. -/
def directFixesSpec : ChangeSpec := { name := "directFixes", fn := fun _ => fun
  | [d1, d2, d3] => { results := [.lit (.bool true)], args := [d1, d2, d3] }
  | _ => none }
def directFixesRow : OpenClaim := { program := "ytfapicccijbanaa", sum := "1bc37a53448d22bcf24101df9d25623ff3f86ae29b0659799d0e62cbf413ab42", func := "flit/flitlaw12.DirectFixes", spec := "directFixes", unfollowed := true, recurses := true, apart := false }
def DirectFixesSaid : Prop := directFixesRow.holds Try.pinned (OpenSpec.ofChange directFixesSpec)

/-- ITS FALSE NEIGHBOUR: 'it returns false'. Refute it at one input. -/
def directFixesWrong : ChangeSpec := { name := "directFixes", fn := fun _ => fun
  | [d1, d2, d3] => { results := [.lit (.bool false)], args := [d1, d2, d3] }
  | _ => none }
def DirectFixesWrongFalsely : Prop := directFixesRow.holds Try.pinned (OpenSpec.ofChange directFixesWrong)

/-- 'flitlaw12.DirectCanon': WHATEVER THE INPUT: true; the input reads as it did. -/
def directCanonSpec : ChangeSpec := { name := "directCanon", fn := fun _ => fun
  | [d1, d2, d3] => { results := [.lit (.bool true)], args := [d1, d2, d3] }
  | _ => none }
def directCanonRow : OpenClaim := { program := "ytfapicccijbanaa", sum := "1bc37a53448d22bcf24101df9d25623ff3f86ae29b0659799d0e62cbf413ab42", func := "flit/flitlaw12.DirectCanon", spec := "directCanon", unfollowed := true, recurses := true, apart := false }
def DirectCanonSaid : Prop := directCanonRow.holds Try.pinned (OpenSpec.ofChange directCanonSpec)

/-- ITS FALSE NEIGHBOUR: 'it returns false'. Refute it at one input. -/
def directCanonWrong : ChangeSpec := { name := "directCanon", fn := fun _ => fun
  | [d1, d2, d3] => { results := [.lit (.bool false)], args := [d1, d2, d3] }
  | _ => none }
def DirectCanonWrongFalsely : Prop := directCanonRow.holds Try.pinned (OpenSpec.ofChange directCanonWrong)

/-- 'flitlaw12.DirectSame': WHATEVER THE INPUT: true; the input reads as it did. -/
def directSameSpec : ChangeSpec := { name := "directSame", fn := fun _ => fun
  | [d1, d2, d3] => { results := [.lit (.bool true)], args := [d1, d2, d3] }
  | _ => none }
def directSameRow : OpenClaim := { program := "ytfapicccijbanaa", sum := "1bc37a53448d22bcf24101df9d25623ff3f86ae29b0659799d0e62cbf413ab42", func := "flit/flitlaw12.DirectSame", spec := "directSame", unfollowed := true, recurses := true, apart := false }
def DirectSameSaid : Prop := directSameRow.holds Try.pinned (OpenSpec.ofChange directSameSpec)

/-- ITS FALSE NEIGHBOUR: 'it returns false'. Refute it at one input. -/
def directSameWrong : ChangeSpec := { name := "directSame", fn := fun _ => fun
  | [d1, d2, d3] => { results := [.lit (.bool false)], args := [d1, d2, d3] }
  | _ => none }
def DirectSameWrongFalsely : Prop := directSameRow.holds Try.pinned (OpenSpec.ofChange directSameWrong)

/-- 'flitlaw12.DirectPlays': WHATEVER THE INPUT: true; the input reads as it did. -/
def directPlaysSpec : ChangeSpec := { name := "directPlays", fn := fun _ => fun
  | [d1, d2, d3] => { results := [.lit (.bool true)], args := [d1, d2, d3] }
  | _ => none }
def directPlaysRow : OpenClaim := { program := "ytfapicccijbanaa", sum := "1bc37a53448d22bcf24101df9d25623ff3f86ae29b0659799d0e62cbf413ab42", func := "flit/flitlaw12.DirectPlays", spec := "directPlays", unfollowed := true, recurses := true, apart := false }
def DirectPlaysSaid : Prop := directPlaysRow.holds Try.pinned (OpenSpec.ofChange directPlaysSpec)

/-- ITS FALSE NEIGHBOUR: 'it returns false'. Refute it at one input. -/
def directPlaysWrong : ChangeSpec := { name := "directPlays", fn := fun _ => fun
  | [d1, d2, d3] => { results := [.lit (.bool false)], args := [d1, d2, d3] }
  | _ => none }
def DirectPlaysWrongFalsely : Prop := directPlaysRow.holds Try.pinned (OpenSpec.ofChange directPlaysWrong)

/- THE SECOND FORM. 'bulk': how many values and letters a reading holds, each counted each time it is reached (what is shared counts as often as it is met; a slice's spare places count too). A statement '..UptoSaid' is the law's where the arguments, and the package variables that the reading takes, are together of bulk at most 1048576: NARROWER than '..Said'. Prove '..Said' where nothing that the law and all that it calls make is longer than what came in: it says more and counts as full. Else prove '..UptoSaid'. A law counts once. -/
mutual
def uptoBulk {H : Type} : DataW H → Nat
  | .lit (.string bytes) => bytes.length + 1
  | .lit _ => 1
  | .nil => 1
  | .ptr d => uptoBulk d + 1
  | .slice elems spare => uptoBulkAll elems + uptoBulkAll spare + 1
  | .agg parts => uptoBulkAll parts + 1
  | .iface _ d => uptoBulk d + 1
  | .map entries => uptoBulkEntries entries + 1
  | .held _ => 1
def uptoBulkAll {H : Type} : List (DataW H) → Nat
  | [] => 0
  | d :: r => uptoBulk d + uptoBulkAll r
def uptoBulkEntries {H : Type} : List (Lit × DataW H) → Nat
  | [] => 0
  | x :: r => uptoBulkEntry x + uptoBulkEntries r
def uptoBulkEntry {H : Type} : Lit × DataW H → Nat
  | (.string bytes, d) => bytes.length + uptoBulk d + 1
  | (_, d) => uptoBulk d + 1
 end
def uptoSmall : (H : Type) → List (DataW H) → Bool := fun _ ds => decide (uptoBulkAll ds ≤ 1048576)
def OpenSpec.upto (s : _root_.Go.ChangeSpec) : _root_.Go.OpenSpec := { _root_.Go.OpenSpec.ofChange s with cond := some uptoSmall }

/-- 'flitlaw12.DirectAlone', WHERE WHAT IT READS IS OF BULK AT MOST 1048576: true; the input reads as it did. -/
def directAloneUptoRow : OpenClaim := { program := "ytfapicccijbanaa", sum := "1bc37a53448d22bcf24101df9d25623ff3f86ae29b0659799d0e62cbf413ab42", func := "flit/flitlaw12.DirectAlone", spec := "directAlone", unfollowed := true, recurses := true, apart := false, narrowed := true }
def DirectAloneUptoSaid : Prop := directAloneUptoRow.holds Try.pinned (OpenSpec.upto directAloneSpec)

/-- 'flitlaw12.DirectSwaps', WHERE WHAT IT READS IS OF BULK AT MOST 1048576: true; the input reads as it did. -/
def directSwapsUptoRow : OpenClaim := { program := "ytfapicccijbanaa", sum := "1bc37a53448d22bcf24101df9d25623ff3f86ae29b0659799d0e62cbf413ab42", func := "flit/flitlaw12.DirectSwaps", spec := "directSwaps", unfollowed := true, recurses := true, apart := false, narrowed := true }
def DirectSwapsUptoSaid : Prop := directSwapsUptoRow.holds Try.pinned (OpenSpec.upto directSwapsSpec)

/-- 'flitlaw12.DirectFixes', WHERE WHAT IT READS IS OF BULK AT MOST 1048576: true; the input reads as it did. -/
def directFixesUptoRow : OpenClaim := { program := "ytfapicccijbanaa", sum := "1bc37a53448d22bcf24101df9d25623ff3f86ae29b0659799d0e62cbf413ab42", func := "flit/flitlaw12.DirectFixes", spec := "directFixes", unfollowed := true, recurses := true, apart := false, narrowed := true }
def DirectFixesUptoSaid : Prop := directFixesUptoRow.holds Try.pinned (OpenSpec.upto directFixesSpec)

/-- 'flitlaw12.DirectCanon', WHERE WHAT IT READS IS OF BULK AT MOST 1048576: true; the input reads as it did. -/
def directCanonUptoRow : OpenClaim := { program := "ytfapicccijbanaa", sum := "1bc37a53448d22bcf24101df9d25623ff3f86ae29b0659799d0e62cbf413ab42", func := "flit/flitlaw12.DirectCanon", spec := "directCanon", unfollowed := true, recurses := true, apart := false, narrowed := true }
def DirectCanonUptoSaid : Prop := directCanonUptoRow.holds Try.pinned (OpenSpec.upto directCanonSpec)

/-- 'flitlaw12.DirectSame', WHERE WHAT IT READS IS OF BULK AT MOST 1048576: true; the input reads as it did. -/
def directSameUptoRow : OpenClaim := { program := "ytfapicccijbanaa", sum := "1bc37a53448d22bcf24101df9d25623ff3f86ae29b0659799d0e62cbf413ab42", func := "flit/flitlaw12.DirectSame", spec := "directSame", unfollowed := true, recurses := true, apart := false, narrowed := true }
def DirectSameUptoSaid : Prop := directSameUptoRow.holds Try.pinned (OpenSpec.upto directSameSpec)

/-- 'flitlaw12.DirectPlays', WHERE WHAT IT READS IS OF BULK AT MOST 1048576: true; the input reads as it did. -/
def directPlaysUptoRow : OpenClaim := { program := "ytfapicccijbanaa", sum := "1bc37a53448d22bcf24101df9d25623ff3f86ae29b0659799d0e62cbf413ab42", func := "flit/flitlaw12.DirectPlays", spec := "directPlays", unfollowed := true, recurses := true, apart := false, narrowed := true }
def DirectPlaysUptoSaid : Prop := directPlaysUptoRow.holds Try.pinned (OpenSpec.upto directPlaysSpec)

end Rows
end Go.Proofs.Ytfapicccijbanaa
