/- What is proved: the kind is told by the two lowest bits alone, the number by those from bit 3 on, and the bit 2 tells whether a word is frozen, for any two words. Conditions: none but that the arguments are words of 64 bits. -/
import Derived.Test.YtgakmobgomiblaaPSlotBitsx2
import Derived.Test.YtgakmobgomiblaaBits
namespace Go.Proofs.Ytgakmobgomiblaa.Pure
open Go.Proofs.Ytgakmobgomiblaa.Bits Go.RowKit Go.Proofs.Ytgakmobgomiblaa.PSlotBits Go.Proofs.YtgakmobgomiblaaW.PrintWords Go.Proofs.YtgakmobgomiblaaW.PrintLast

theorem shown_t : flitlaw01_shown.f = some true := by decide +kernel
theorem SlotBits : flitlaw01_SlotBits.Pure := by
  intro a b wa wb
  obtain ⟨h0, h1⟩ := of_u64 wa
  obtain ⟨g0, g1⟩ := of_u64 wb
  unfold flitlaw01_SlotBits.f
  rw [shown_t]
  simp only [Option.bind_some, if_true, slot_Of.f, slot_Frozen.f, of1 a h0 h1, of2 a h0 h1, of1 b g0 g1, of2 b g0 g1, and4 a h0 h1]
  rw [Int.tmod_eq_emod_of_nonneg h0, Int.tmod_eq_emod_of_nonneg g0]
  simp only [beq_self_eq_true, if_true]
  rcases (by omega : a / 4 % 2 = 0 ∨ a / 4 % 2 = 1) with h | h <;> rw [h] <;> rfl

end Go.Proofs.Ytgakmobgomiblaa.Pure
