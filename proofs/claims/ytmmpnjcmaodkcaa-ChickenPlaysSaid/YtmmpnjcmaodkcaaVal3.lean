/- What is proved: nothing; what a value of the statements of layers 13 to 15 is. Conditions: none. -/
import Derived.Test.YtmmpnjcmaodkcaaBits
namespace Go.Proofs.Ytmmpnjcmaodkcaa.Num
open Go
def opVal3 (k n : Int) : Int × Int :=
  if kindOf k 3 < 1 then (0, kindOf n 10) else if kindOf k 3 < 2 then (1, 0) else (1, if kindOf n 3 < 1 then 96 else if kindOf n 3 < 2 then 100 else 112)
theorem opVal3_1 (k n : Int) : 0 ≤ (opVal3 k n).1 ∧ (opVal3 k n).1 ≤ 1 := by
  unfold opVal3
  split
  · simp
  · split <;> simp
theorem opVal3_2 (k n : Int) : 0 ≤ (opVal3 k n).2 ∧ (opVal3 k n).2 ≤ 112 := by
  have h1 := kindOf_lo n 10 (by omega)
  have h2 := kindOf_hi n 10 (by omega)
  unfold opVal3
  split
  · simp only; omega
  · split
    · simp
    · simp only
      split
      · omega
      · split <;> omega
end Go.Proofs.Ytmmpnjcmaodkcaa.Num
