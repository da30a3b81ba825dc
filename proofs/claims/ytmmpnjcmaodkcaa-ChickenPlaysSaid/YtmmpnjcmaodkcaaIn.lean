/- What is proved: nothing; what arguments that are slices of numbers or of values are. Conditions: none. -/
import Derived.Test.YtmmpnjcmaodkcaaSep
namespace Go.Proofs.Ytmmpnjcmaodkcaa.Mem
open Go
/-- A slice of whole numbers that can be read. -/
def IntsAt (w : World) (v : Value) (xs : List Int) : Prop := ∃ ao cap, v = .slice ao xs.length cap ∧ (∀ x ∈ xs, -9223372036854775808 ≤ x ∧ x ≤ 9223372036854775807) ∧
  (xs = [] ∨ ∃ b off, ao = some ⟨b, off, none⟩ ∧ ∀ i, i < xs.length → w.cell? ⟨b, off + i, none⟩ = some (.int .i64 (xs.getD i 0)))
/-- A slice of values (kind and number) that can be read. -/
def ValsAt (w : World) (v : Value) (xs : List (Int × Int)) : Prop := ∃ ao cap, v = .slice ao xs.length cap ∧ (∀ x ∈ xs, (-9223372036854775808 ≤ x.1 ∧ x.1 ≤ 9223372036854775807) ∧ (-9223372036854775808 ≤ x.2 ∧ x.2 ≤ 9223372036854775807)) ∧
  (xs = [] ∨ ∃ b off, ao = some ⟨b, off, none⟩ ∧ ∀ i, i < xs.length → w.cell? ⟨b, off + i * 2, none⟩ = some (.int .i64 (xs.getD i (0, 0)).1) ∧ w.cell? ⟨b, off + i * 2 + 1, none⟩ = some (.int .i64 (xs.getD i (0, 0)).2))
end Go.Proofs.Ytmmpnjcmaodkcaa.Mem
