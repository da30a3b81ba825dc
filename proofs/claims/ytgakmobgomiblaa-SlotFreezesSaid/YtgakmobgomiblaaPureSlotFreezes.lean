/- What is proved: any word is frozen, thawed and told to be frozen as the reference says, for every word. Conditions: none but that the arguments are words of 64 bits. -/
import Derived.Test.YtgakmobgomiblaaPSlotFreezesx2
import Derived.Test.YtgakmobgomiblaaBits
namespace Go.Proofs.Ytgakmobgomiblaa.Pure
open Go.Proofs.Ytgakmobgomiblaa.Bits Go.RowKit Go.Proofs.Ytgakmobgomiblaa.PSlotFreezes Go.Proofs.YtgakmobgomiblaaW.PrintWords Go.Proofs.YtgakmobgomiblaaW.PrintLast

theorem shown_t : flitlaw01_shown.f = some true := by decide +kernel
theorem SlotFreezes : flitlaw01_SlotFreezes.Pure := by
  intro a w
  obtain ⟨h0, h1⟩ := of_u64 w
  unfold flitlaw01_SlotFreezes.f
  rw [shown_t]
  have f : flitref01_Frozen.f a = some (decide (a / 4 % 2 = 1)) := by
    unfold flitref01_Frozen.f
    have e : Int.tmod (IntKind.u64.wrap (Int.tdiv a 4)) 2 = a / 4 % 2 := by
      rw [Int.tdiv_eq_ediv_of_nonneg h0, IntKind.wrap_u64, Int.tmod_eq_emod_of_nonneg (by omega)]; omega
    rw [e]; rfl
  simp only [Option.bind_some, if_true, slot_Frozen.f, slot_Freeze.f, slot_Thaw.f, flitref01_Freeze.f, flitref01_Thaw.f, f, frozen1 a h0 h1, or4 a h0 h1, andNot4 a h0 h1]
  by_cases h : a / 4 % 2 = 1
  · have e : IntKind.u64.wrap (a - 4) = a - 4 := by rw [IntKind.wrap_u64]; omega
    simp only [h, decide_true, beq_self_eq_true, if_true, Option.bind_some, e]
    rw [if_pos (by omega)]; simp
  · have h' : a / 4 % 2 = 0 := by omega
    have e : IntKind.u64.wrap (a + 4) = a + 4 := by rw [IntKind.wrap_u64]; omega
    simp only [h', beq_self_eq_true, if_true, e]
    simp

end Go.Proofs.Ytgakmobgomiblaa.Pure
