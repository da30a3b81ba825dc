/- What is proved: an argument that can be read, a pair of values, is one as the walks want it. Conditions: that it can be read. -/
import Derived.Test.YtfapicccijbanaaOpen
namespace Go.Proofs.Ytfapicccijbanaa.Mem
open Go Go.RowKit Go.ChangeShapes Go.WideShapes Go.ChangeAt Go.Joins Go.Deep
set_option maxRecDepth 100000
set_option linter.unusedVariables false
section
variable {H : Type} {enc : TypeId × Value → H} {W : World} {base : Nat} {d : DataW H} {p : List MemPlace} {v : Value}
theorem val2_of {r : Reach} (hv : Value.okWide Try.prog W r base 56 v) (h : DataW.Trod enc Try.prog W 0 (fun _ => true) true 56 v d p) :
    ∃ a0 a1 b0 b1 : Int, v = .agg #[.int .i64 a0, .int .i64 a1, .int .i64 b0, .int .i64 b1] ∧ (-9223372036854775808 ≤ a0 ∧ a0 ≤ 9223372036854775807) ∧ (-9223372036854775808 ≤ a1 ∧ a1 ≤ 9223372036854775807) ∧ (-9223372036854775808 ≤ b0 ∧ b0 ≤ 9223372036854775807) ∧ (-9223372036854775808 ≤ b1 ∧ b1 ≤ 9223372036854775807) := by
  simp only [Value.okWide, Try.underlying56] at hv
  obtain ⟨cs, rfl, hsz, _⟩ := hv
  obtain ⟨fuel, hf⟩ := h
  obtain ⟨xs, m, _, _, hl, hn, hel⟩ := DataW.trod_array Try.underlying56 hf
  have hc : Try.prog.cellsOf 24 = 2 := by kernel_rfl
  have h0 := hel 0 (by omega)
  have h1 := hel 1 (by omega)
  obtain ⟨x0, x1, rfl⟩ : ∃ a b, xs = [a, b] := by
    match xs, hn with
    | [a, b], _ => exact ⟨a, b, rfl⟩
  rw [hc] at h0 h1
  obtain ⟨k0, n0, e0, w0, w1⟩ := val_of h0
  obtain ⟨k1, n1, e1, w2, w3⟩ := val_of h1
  refine ⟨k0, n0, k1, n1, ?_, rng_i64 w0, rng_i64 w1, rng_i64 w2, rng_i64 w3⟩
  have hl4 : cs.toList.length = 4 := by
    have : Try.prog.cellsOf 56 = 4 := by kernel_rfl
    rw [this] at hl
    simpa [Value.cells] using hl
  simp only [Value.cells] at e0 e1
  obtain ⟨l, hcs⟩ : ∃ l, cs = ⟨l⟩ := ⟨cs.toList, rfl⟩
  subst hcs
  simp only at e0 e1 hl4
  match l, hl4 with
  | [a, b, c, e], _ =>
    simp at e0 e1
    obtain ⟨rfl, rfl⟩ := e0
    obtain ⟨rfl, rfl⟩ := e1
    rfl
end
end Go.Proofs.Ytfapicccijbanaa.Mem
