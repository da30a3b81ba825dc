/- What is proved: what any word tells is packed as the word itself, thawed, for every word. Conditions: none but that the arguments are words of 64 bits. -/
import Derived.Test.YtgakmobgomiblaaPSlotLowx2
import Derived.Test.YtgakmobgomiblaaBits
namespace Go.Proofs.Ytgakmobgomiblaa.Pure
open Go.Proofs.Ytgakmobgomiblaa.Bits Go.RowKit Go.Proofs.Ytgakmobgomiblaa.PSlotLow Go.Proofs.YtgakmobgomiblaaW.PrintWords Go.Proofs.YtgakmobgomiblaaW.PrintLast

theorem shown_t : flitlaw01_shown.f = some true := by decide +kernel
theorem SlotLow : flitlaw01_SlotLow.Pure := by
  intro a w
  obtain ⟨h0, h1⟩ := of_u64 w
  unfold flitlaw01_SlotLow.f
  rw [shown_t]
  simp only [Option.bind_some, if_true, slot_Of.f, slot_Word.f, slot_Thaw.f, of1 a h0 h1, of2 a h0 h1, andNot4 a h0 h1, word1]
  simp; omega

end Go.Proofs.Ytgakmobgomiblaa.Pure
