/- What is proved: frozen words: pure laws, and the contracts of the functions that freeze, thaw and ask. Conditions: that a word is one of 64 bits. -/
import Derived.Test.YtmmpnjcmaodkcaaNum
namespace Go.Proofs.Ytmmpnjcmaodkcaa.Num
open Go Go.RowKit
set_option maxRecDepth 100000
set_option linter.unusedVariables false
set_option linter.unusedSimpArgs false
/-- Whether a word is frozen (1); the word frozen; the word thawed. -/
def fzB (x : Int) : Int := x / 4 % 2
def frz (x : Int) : Int := x + (1 - x / 4 % 2) * 4
def thw (x : Int) : Int := x - x / 4 % 2 * 4
theorem frz_rng {x : Int} (h : 0 ≤ x ∧ x < 18446744073709551616) : 0 ≤ frz x ∧ frz x < 18446744073709551616 := by unfold frz; omega
theorem thw_rng {x : Int} (h : 0 ≤ x ∧ x < 18446744073709551616) : 0 ≤ thw x ∧ thw x < 18446744073709551616 := by unfold thw; omega
theorem fzB_rng (x : Int) : 0 ≤ fzB x ∧ fzB x ≤ 1 := by unfold fzB; omega
theorem frz_frz (x : Int) : frz (frz x) = frz x := by unfold frz; omega
theorem frz_thw (x : Int) : frz (thw x) = frz x := by unfold frz thw; omega
theorem thw_frz (x : Int) : thw (frz x) = thw x := by unfold frz thw; omega
theorem thw_thw (x : Int) : thw (thw x) = thw x := by unfold thw; omega
theorem fzB_frz (x : Int) : fzB (frz x) = 1 := by unfold frz fzB; omega
theorem fzB_thw (x : Int) : fzB (thw x) = 0 := by unfold thw fzB; omega
theorem fzB_sW (k n : Int) : fzB (sW k n) = 0 := by unfold sW fzB; omega
theorem thw_sW (k n : Int) : thw (sW k n) = sW k n := by unfold sW thw; omega
theorem vK_frz (x : Int) : vK (frz x) = vK x := by unfold vK frz; omega
theorem vN_frz (x : Int) : vN (frz x) = vN x := by unfold vN frz; omega
theorem thw_inj {x y : Int} (h : fzB x = fzB y) : thw x = thw y ↔ x = y := by unfold thw fzB at *; omega
end Go.Proofs.Ytmmpnjcmaodkcaa.Num
