/- What is proved: any word is read by slot.Of as the reference reads it, for every word. Conditions: none but that the arguments are words of 64 bits. -/
import Derived.Test.YtgakmobgomiblaaPSlotReadsx2
import Derived.Test.YtgakmobgomiblaaBits
namespace Go.Proofs.Ytgakmobgomiblaa.Pure
open Go.Proofs.Ytgakmobgomiblaa.Bits Go.RowKit Go.Proofs.Ytgakmobgomiblaa.PSlotReads Go.Proofs.YtgakmobgomiblaaW.PrintWords Go.Proofs.YtgakmobgomiblaaW.PrintLast

theorem shown_t : flitlaw01_shown.f = some true := by decide +kernel
theorem SlotReads : flitlaw01_SlotReads.Pure := by
  intro a w
  obtain ⟨h0, h1⟩ := of_u64 w
  unfold flitlaw01_SlotReads.f
  rw [shown_t]
  simp only [Option.bind_some, if_true, slot_Of.f, flitref01_Of.f, flitref01_Bits.f]
  have e : shl .u64 1 2 = 4 := by decide +kernel
  rw [if_neg (by omega), if_pos (by omega), e, if_neg (by omega)]
  simp only [Option.bind_some, of1 a h0 h1, of2 a h0 h1]
  have e3 : wrap64 (Int.tmod a 4) = a % 4 := by rw [Int.tmod_eq_emod_of_nonneg h0]; unfold wrap64; omega
  rw [e3]; simp

end Go.Proofs.Ytgakmobgomiblaa.Pure
