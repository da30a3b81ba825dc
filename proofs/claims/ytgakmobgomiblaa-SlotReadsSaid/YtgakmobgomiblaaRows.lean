/-
  No cell of these rows narrows 'for every input' (looked for: loops, veiled, ifaces, maps, wideKeys, modest, calm, conditions, laid).
  DERIVED. THE GIVEN ROWS OF THIS SEAT. 9 by the template 'for every input the law returns true; each argument reads behind the call as it read before'; 0 by the template 'total and deterministic' (their statements: YtgakmobgomiblaaTotals.lean).
  GIVEN WITH THE SEED: the statements are not yours to turn. If you find one false, say at which input.
  Laid BY PROGRAM, IN A SANDBOX (cutbox-rows.mjs): the forced cells as the released guide's own fill.sh prints them over the translation 8ceb6e7a2d4d33eb… (all of the seat's roots in one cut). By AI agents, Wed Nov 11 2026. No macro, syntax, notation, axiom, sorry.
-/
import Derived.Test.YtgakmobgomiblaaChecked
import GoSem.Claim
import GoSem.ClaimJoined
import GoSem.ClaimMapViews
import Derived.JoinedTies
import Derived.KernelRfl
namespace Go.Proofs.Ytgakmobgomiblaa
/- THE CELL 'sum', in the pinned program and in every row, IS THE sha256 OF THE DUMP (.gsa) THAT YtgakmobgomiblaaProg.lean LOADS. Nothing in Lean hashes anything: it is a label: what it is worth is what the hold of that sum in a sandbox is worth. -/
noncomputable def Try.pinned : Pinned := { name := "ytgakmobgomiblaa", sum := "8ceb6e7a2d4d33eb177c87651862b70876b7d02f267a610373a06cdcddd8497a", checked := Try.checked }
namespace Rows
def none {H : Type} : Left H := { results := [], args := [] }

/-- 'flitlaw01.SlotPacks': WHATEVER THE INPUT: true; the input reads as it did. -/
def slotPacksSpec : ChangeSpec := { name := "slotPacks", fn := fun _ => fun
  | [d] => { results := [.lit (.bool true)], args := [d] }
  | _ => none }
def slotPacksRow : OpenClaim := { program := "ytgakmobgomiblaa", sum := "8ceb6e7a2d4d33eb177c87651862b70876b7d02f267a610373a06cdcddd8497a", func := "flit/flitlaw01.SlotPacks", spec := "slotPacks", apart := false }
def SlotPacksSaid : Prop := slotPacksRow.holds Try.pinned (OpenSpec.ofChange slotPacksSpec)

/-- ITS FALSE NEIGHBOUR: 'it returns false'. Refute it at one input. -/
def slotPacksWrong : ChangeSpec := { name := "slotPacks", fn := fun _ => fun
  | [d] => { results := [.lit (.bool false)], args := [d] }
  | _ => none }
def SlotPacksWrongFalsely : Prop := slotPacksRow.holds Try.pinned (OpenSpec.ofChange slotPacksWrong)

/-- 'flitlaw01.SlotReads': WHATEVER THE INPUT: true; the input reads as it did. -/
def slotReadsSpec : ChangeSpec := { name := "slotReads", fn := fun _ => fun
  | [d] => { results := [.lit (.bool true)], args := [d] }
  | _ => none }
def slotReadsRow : OpenClaim := { program := "ytgakmobgomiblaa", sum := "8ceb6e7a2d4d33eb177c87651862b70876b7d02f267a610373a06cdcddd8497a", func := "flit/flitlaw01.SlotReads", spec := "slotReads", apart := false }
def SlotReadsSaid : Prop := slotReadsRow.holds Try.pinned (OpenSpec.ofChange slotReadsSpec)

/-- ITS FALSE NEIGHBOUR: 'it returns false'. Refute it at one input. -/
def slotReadsWrong : ChangeSpec := { name := "slotReads", fn := fun _ => fun
  | [d] => { results := [.lit (.bool false)], args := [d] }
  | _ => none }
def SlotReadsWrongFalsely : Prop := slotReadsRow.holds Try.pinned (OpenSpec.ofChange slotReadsWrong)

/-- 'flitlaw01.SlotFreezes': WHATEVER THE INPUT: true; the input reads as it did. -/
def slotFreezesSpec : ChangeSpec := { name := "slotFreezes", fn := fun _ => fun
  | [d] => { results := [.lit (.bool true)], args := [d] }
  | _ => none }
def slotFreezesRow : OpenClaim := { program := "ytgakmobgomiblaa", sum := "8ceb6e7a2d4d33eb177c87651862b70876b7d02f267a610373a06cdcddd8497a", func := "flit/flitlaw01.SlotFreezes", spec := "slotFreezes", apart := false }
def SlotFreezesSaid : Prop := slotFreezesRow.holds Try.pinned (OpenSpec.ofChange slotFreezesSpec)

/-- ITS FALSE NEIGHBOUR: 'it returns false'. Refute it at one input. -/
def slotFreezesWrong : ChangeSpec := { name := "slotFreezes", fn := fun _ => fun
  | [d] => { results := [.lit (.bool false)], args := [d] }
  | _ => none }
def SlotFreezesWrongFalsely : Prop := slotFreezesRow.holds Try.pinned (OpenSpec.ofChange slotFreezesWrong)

/-- 'flitlaw01.SlotBack': WHATEVER THE INPUT: true; the input reads as it did. -/
def slotBackSpec : ChangeSpec := { name := "slotBack", fn := fun _ => fun
  | [d] => { results := [.lit (.bool true)], args := [d] }
  | _ => none }
def slotBackRow : OpenClaim := { program := "ytgakmobgomiblaa", sum := "8ceb6e7a2d4d33eb177c87651862b70876b7d02f267a610373a06cdcddd8497a", func := "flit/flitlaw01.SlotBack", spec := "slotBack", apart := false }
def SlotBackSaid : Prop := slotBackRow.holds Try.pinned (OpenSpec.ofChange slotBackSpec)

/-- ITS FALSE NEIGHBOUR: 'it returns false'. Refute it at one input. -/
def slotBackWrong : ChangeSpec := { name := "slotBack", fn := fun _ => fun
  | [d] => { results := [.lit (.bool false)], args := [d] }
  | _ => none }
def SlotBackWrongFalsely : Prop := slotBackRow.holds Try.pinned (OpenSpec.ofChange slotBackWrong)

/-- 'flitlaw01.SlotSame': WHATEVER THE INPUT: true; the input reads as it did. -/
def slotSameSpec : ChangeSpec := { name := "slotSame", fn := fun _ => fun
  | [d] => { results := [.lit (.bool true)], args := [d] }
  | _ => none }
def slotSameRow : OpenClaim := { program := "ytgakmobgomiblaa", sum := "8ceb6e7a2d4d33eb177c87651862b70876b7d02f267a610373a06cdcddd8497a", func := "flit/flitlaw01.SlotSame", spec := "slotSame", apart := false }
def SlotSameSaid : Prop := slotSameRow.holds Try.pinned (OpenSpec.ofChange slotSameSpec)

/-- ITS FALSE NEIGHBOUR: 'it returns false'. Refute it at one input. -/
def slotSameWrong : ChangeSpec := { name := "slotSame", fn := fun _ => fun
  | [d] => { results := [.lit (.bool false)], args := [d] }
  | _ => none }
def SlotSameWrongFalsely : Prop := slotSameRow.holds Try.pinned (OpenSpec.ofChange slotSameWrong)

/-- 'flitlaw01.SlotApart': WHATEVER THE INPUT: true; the input reads as it did. -/
def slotApartSpec : ChangeSpec := { name := "slotApart", fn := fun _ => fun
  | [d1, d2] => { results := [.lit (.bool true)], args := [d1, d2] }
  | _ => none }
def slotApartRow : OpenClaim := { program := "ytgakmobgomiblaa", sum := "8ceb6e7a2d4d33eb177c87651862b70876b7d02f267a610373a06cdcddd8497a", func := "flit/flitlaw01.SlotApart", spec := "slotApart", apart := false }
def SlotApartSaid : Prop := slotApartRow.holds Try.pinned (OpenSpec.ofChange slotApartSpec)

/-- ITS FALSE NEIGHBOUR: 'it returns false'. Refute it at one input. -/
def slotApartWrong : ChangeSpec := { name := "slotApart", fn := fun _ => fun
  | [d1, d2] => { results := [.lit (.bool false)], args := [d1, d2] }
  | _ => none }
def SlotApartWrongFalsely : Prop := slotApartRow.holds Try.pinned (OpenSpec.ofChange slotApartWrong)

/-- 'flitlaw01.SlotLow': WHATEVER THE INPUT: true; the input reads as it did. -/
def slotLowSpec : ChangeSpec := { name := "slotLow", fn := fun _ => fun
  | [d] => { results := [.lit (.bool true)], args := [d] }
  | _ => none }
def slotLowRow : OpenClaim := { program := "ytgakmobgomiblaa", sum := "8ceb6e7a2d4d33eb177c87651862b70876b7d02f267a610373a06cdcddd8497a", func := "flit/flitlaw01.SlotLow", spec := "slotLow", apart := false }
def SlotLowSaid : Prop := slotLowRow.holds Try.pinned (OpenSpec.ofChange slotLowSpec)

/-- ITS FALSE NEIGHBOUR: 'it returns false'. Refute it at one input. -/
def slotLowWrong : ChangeSpec := { name := "slotLow", fn := fun _ => fun
  | [d] => { results := [.lit (.bool false)], args := [d] }
  | _ => none }
def SlotLowWrongFalsely : Prop := slotLowRow.holds Try.pinned (OpenSpec.ofChange slotLowWrong)

/-- 'flitlaw01.SlotBits': WHATEVER THE INPUT: true; the input reads as it did. -/
def slotBitsSpec : ChangeSpec := { name := "slotBits", fn := fun _ => fun
  | [d1, d2] => { results := [.lit (.bool true)], args := [d1, d2] }
  | _ => none }
def slotBitsRow : OpenClaim := { program := "ytgakmobgomiblaa", sum := "8ceb6e7a2d4d33eb177c87651862b70876b7d02f267a610373a06cdcddd8497a", func := "flit/flitlaw01.SlotBits", spec := "slotBits", apart := false }
def SlotBitsSaid : Prop := slotBitsRow.holds Try.pinned (OpenSpec.ofChange slotBitsSpec)

/-- ITS FALSE NEIGHBOUR: 'it returns false'. Refute it at one input. -/
def slotBitsWrong : ChangeSpec := { name := "slotBits", fn := fun _ => fun
  | [d1, d2] => { results := [.lit (.bool false)], args := [d1, d2] }
  | _ => none }
def SlotBitsWrongFalsely : Prop := slotBitsRow.holds Try.pinned (OpenSpec.ofChange slotBitsWrong)

/-- 'flitlaw01.SlotThaws': WHATEVER THE INPUT: true; the input reads as it did. -/
def slotThawsSpec : ChangeSpec := { name := "slotThaws", fn := fun _ => fun
  | [d1, d2] => { results := [.lit (.bool true)], args := [d1, d2] }
  | _ => none }
def slotThawsRow : OpenClaim := { program := "ytgakmobgomiblaa", sum := "8ceb6e7a2d4d33eb177c87651862b70876b7d02f267a610373a06cdcddd8497a", func := "flit/flitlaw01.SlotThaws", spec := "slotThaws", apart := false }
def SlotThawsSaid : Prop := slotThawsRow.holds Try.pinned (OpenSpec.ofChange slotThawsSpec)

/-- ITS FALSE NEIGHBOUR: 'it returns false'. Refute it at one input. -/
def slotThawsWrong : ChangeSpec := { name := "slotThaws", fn := fun _ => fun
  | [d1, d2] => { results := [.lit (.bool false)], args := [d1, d2] }
  | _ => none }
def SlotThawsWrongFalsely : Prop := slotThawsRow.holds Try.pinned (OpenSpec.ofChange slotThawsWrong)

/- THE SECOND FORM. 'bulk': how many values and letters a reading holds, each counted each time it is reached (what is shared counts as often as it is met; a slice's spare places count too). A statement '..UptoSaid' is the law's where the arguments, and the package variables that the reading takes, are together of bulk at most 1048576: NARROWER than '..Said'. Prove '..Said' where nothing that the law and all that it calls make is longer than what came in: it says more and counts as full. Else prove '..UptoSaid'. A law counts once. -/
mutual
def uptoBulk {H : Type} : DataW H → Nat
  | .lit (.string bytes) => bytes.length + 1
  | .lit _ => 1
  | .nil => 1
  | .ptr d => uptoBulk d + 1
  | .slice elems spare => uptoBulkAll elems + uptoBulkAll spare + 1
  | .agg parts => uptoBulkAll parts + 1
  | .iface _ d => uptoBulk d + 1
  | .map entries => uptoBulkEntries entries + 1
  | .held _ => 1
def uptoBulkAll {H : Type} : List (DataW H) → Nat
  | [] => 0
  | d :: r => uptoBulk d + uptoBulkAll r
def uptoBulkEntries {H : Type} : List (Lit × DataW H) → Nat
  | [] => 0
  | x :: r => uptoBulkEntry x + uptoBulkEntries r
def uptoBulkEntry {H : Type} : Lit × DataW H → Nat
  | (.string bytes, d) => bytes.length + uptoBulk d + 1
  | (_, d) => uptoBulk d + 1
 end
def uptoSmall : (H : Type) → List (DataW H) → Bool := fun _ ds => decide (uptoBulkAll ds ≤ 1048576)
def OpenSpec.upto (s : _root_.Go.ChangeSpec) : _root_.Go.OpenSpec := { _root_.Go.OpenSpec.ofChange s with cond := some uptoSmall }

/-- 'flitlaw01.SlotPacks', WHERE WHAT IT READS IS OF BULK AT MOST 1048576: true; the input reads as it did. -/
def slotPacksUptoRow : OpenClaim := { program := "ytgakmobgomiblaa", sum := "8ceb6e7a2d4d33eb177c87651862b70876b7d02f267a610373a06cdcddd8497a", func := "flit/flitlaw01.SlotPacks", spec := "slotPacks", apart := false, narrowed := true }
def SlotPacksUptoSaid : Prop := slotPacksUptoRow.holds Try.pinned (OpenSpec.upto slotPacksSpec)

/-- 'flitlaw01.SlotReads', WHERE WHAT IT READS IS OF BULK AT MOST 1048576: true; the input reads as it did. -/
def slotReadsUptoRow : OpenClaim := { program := "ytgakmobgomiblaa", sum := "8ceb6e7a2d4d33eb177c87651862b70876b7d02f267a610373a06cdcddd8497a", func := "flit/flitlaw01.SlotReads", spec := "slotReads", apart := false, narrowed := true }
def SlotReadsUptoSaid : Prop := slotReadsUptoRow.holds Try.pinned (OpenSpec.upto slotReadsSpec)

/-- 'flitlaw01.SlotFreezes', WHERE WHAT IT READS IS OF BULK AT MOST 1048576: true; the input reads as it did. -/
def slotFreezesUptoRow : OpenClaim := { program := "ytgakmobgomiblaa", sum := "8ceb6e7a2d4d33eb177c87651862b70876b7d02f267a610373a06cdcddd8497a", func := "flit/flitlaw01.SlotFreezes", spec := "slotFreezes", apart := false, narrowed := true }
def SlotFreezesUptoSaid : Prop := slotFreezesUptoRow.holds Try.pinned (OpenSpec.upto slotFreezesSpec)

/-- 'flitlaw01.SlotBack', WHERE WHAT IT READS IS OF BULK AT MOST 1048576: true; the input reads as it did. -/
def slotBackUptoRow : OpenClaim := { program := "ytgakmobgomiblaa", sum := "8ceb6e7a2d4d33eb177c87651862b70876b7d02f267a610373a06cdcddd8497a", func := "flit/flitlaw01.SlotBack", spec := "slotBack", apart := false, narrowed := true }
def SlotBackUptoSaid : Prop := slotBackUptoRow.holds Try.pinned (OpenSpec.upto slotBackSpec)

/-- 'flitlaw01.SlotSame', WHERE WHAT IT READS IS OF BULK AT MOST 1048576: true; the input reads as it did. -/
def slotSameUptoRow : OpenClaim := { program := "ytgakmobgomiblaa", sum := "8ceb6e7a2d4d33eb177c87651862b70876b7d02f267a610373a06cdcddd8497a", func := "flit/flitlaw01.SlotSame", spec := "slotSame", apart := false, narrowed := true }
def SlotSameUptoSaid : Prop := slotSameUptoRow.holds Try.pinned (OpenSpec.upto slotSameSpec)

/-- 'flitlaw01.SlotApart', WHERE WHAT IT READS IS OF BULK AT MOST 1048576: true; the input reads as it did. -/
def slotApartUptoRow : OpenClaim := { program := "ytgakmobgomiblaa", sum := "8ceb6e7a2d4d33eb177c87651862b70876b7d02f267a610373a06cdcddd8497a", func := "flit/flitlaw01.SlotApart", spec := "slotApart", apart := false, narrowed := true }
def SlotApartUptoSaid : Prop := slotApartUptoRow.holds Try.pinned (OpenSpec.upto slotApartSpec)

/-- 'flitlaw01.SlotLow', WHERE WHAT IT READS IS OF BULK AT MOST 1048576: true; the input reads as it did. -/
def slotLowUptoRow : OpenClaim := { program := "ytgakmobgomiblaa", sum := "8ceb6e7a2d4d33eb177c87651862b70876b7d02f267a610373a06cdcddd8497a", func := "flit/flitlaw01.SlotLow", spec := "slotLow", apart := false, narrowed := true }
def SlotLowUptoSaid : Prop := slotLowUptoRow.holds Try.pinned (OpenSpec.upto slotLowSpec)

/-- 'flitlaw01.SlotBits', WHERE WHAT IT READS IS OF BULK AT MOST 1048576: true; the input reads as it did. -/
def slotBitsUptoRow : OpenClaim := { program := "ytgakmobgomiblaa", sum := "8ceb6e7a2d4d33eb177c87651862b70876b7d02f267a610373a06cdcddd8497a", func := "flit/flitlaw01.SlotBits", spec := "slotBits", apart := false, narrowed := true }
def SlotBitsUptoSaid : Prop := slotBitsUptoRow.holds Try.pinned (OpenSpec.upto slotBitsSpec)

/-- 'flitlaw01.SlotThaws', WHERE WHAT IT READS IS OF BULK AT MOST 1048576: true; the input reads as it did. -/
def slotThawsUptoRow : OpenClaim := { program := "ytgakmobgomiblaa", sum := "8ceb6e7a2d4d33eb177c87651862b70876b7d02f267a610373a06cdcddd8497a", func := "flit/flitlaw01.SlotThaws", spec := "slotThaws", apart := false, narrowed := true }
def SlotThawsUptoSaid : Prop := slotThawsUptoRow.holds Try.pinned (OpenSpec.upto slotThawsSpec)

end Rows
end Go.Proofs.Ytgakmobgomiblaa
