/- What is proved: the plain law of SlotApart, over numbers alone. Conditions: each number is one of int. -/
import Derived.Test.YtgakmobgomiblaaPSlotApartx2
import Derived.Test.YtgakmobgomiblaaBits
namespace Go.Proofs.Ytgakmobgomiblaa.Pure
open Go.Proofs.Ytgakmobgomiblaa.Bits Go.RowKit Go.Proofs.Ytgakmobgomiblaa.PSlotApart Go.Proofs.YtgakmobgomiblaaW.PrintWords Go.Proofs.YtgakmobgomiblaaW.PrintLast

theorem shown_t : flitlaw01_shown.f = some true := by decide +kernel
theorem SlotApart (a b c d : Int) (wa : (Lit.int .i64 a).wf = true) (wb : (Lit.int .i64 b).wf = true) (wc : (Lit.int .i64 c).wf = true) (wd : (Lit.int .i64 d).wf = true) : ∃ k, flitlaw01_SlotApart.f k a b c d = some true := by
  obtain ⟨h0, h1⟩ := of_i64 wa
  obtain ⟨g0, g1⟩ := of_i64 wb
  obtain ⟨h2, h3⟩ := of_i64 wc
  obtain ⟨g2, g3⟩ := of_i64 wd
  refine ⟨1, ?_⟩
  have j1 : flitlaw01_SlotApart.j0 1 true true a b c d = some true := by simp only [flitlaw01_SlotApart.j0, if_true]
  unfold flitlaw01_SlotApart.f
  rw [shown_t]
  simp only [Option.bind_some, j1]
  by_cases c1 : a < 0
  · rw [if_pos c1]
  rw [if_neg c1]
  by_cases c2 : a > 3
  · rw [if_pos c2]
  rw [if_neg c2]
  by_cases c3 : b < 0
  · rw [if_pos c3]
  rw [if_neg c3]
  by_cases c4 : b ≥ 2305843009213693952
  · rw [if_pos c4]
  rw [if_neg c4]
  by_cases c5 : c < 0
  · rw [if_pos c5]
  rw [if_neg c5]
  by_cases c6 : c > 3
  · rw [if_pos c6]
  rw [if_neg c6]
  by_cases c7 : d < 0
  · rw [if_pos c7]
  rw [if_neg c7]
  by_cases c8 : d ≥ 2305843009213693952
  · rw [decide_eq_true c8, j1]
  rw [decide_eq_false c8]
  have e : a % 4 + b % 2305843009213693952 * 8 = a + b * 8 := by omega
  have e2 : c % 4 + d % 2305843009213693952 * 8 = c + d * 8 := by omega
  simp only [flitlaw01_SlotApart.j0, slot_Word.f, word1, Option.bind_some, if_true, e, e2]
  rw [if_neg (by simp)]
  congr 1; rw [Bool.eq_iff_iff]; simp; rw [Bool.eq_iff_iff]; simp; omega

end Go.Proofs.Ytgakmobgomiblaa.Pure
