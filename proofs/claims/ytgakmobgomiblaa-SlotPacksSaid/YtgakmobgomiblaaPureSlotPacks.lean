/- What is proved: the plain law of SlotPacks, over numbers alone. Conditions: each number is one of int. -/
import Derived.Test.YtgakmobgomiblaaPSlotPacksx2
import Derived.Test.YtgakmobgomiblaaBits
namespace Go.Proofs.Ytgakmobgomiblaa.Pure
open Go.Proofs.Ytgakmobgomiblaa.Bits Go.RowKit Go.Proofs.Ytgakmobgomiblaa.PSlotPacks Go.Proofs.YtgakmobgomiblaaW.PrintWords Go.Proofs.YtgakmobgomiblaaW.PrintLast

theorem shown_t : flitlaw01_shown.f = some true := by decide +kernel
theorem SlotPacks (a b : Int) (wa : (Lit.int .i64 a).wf = true) (wb : (Lit.int .i64 b).wf = true) : flitlaw01_SlotPacks.f a b = some true := by
  obtain ⟨h0, h1⟩ := of_i64 wa
  obtain ⟨g0, g1⟩ := of_i64 wb
  unfold flitlaw01_SlotPacks.f
  rw [shown_t]
  have e : shl .u64 1 2 = 4 := by decide +kernel
  have e2 : shl .u64 1 61 = 2305843009213693952 := by decide +kernel
  have q1 : flitref01_Bits.f (IntKind.u64.wrap a) 2 = some (a % 4) := by
    unfold flitref01_Bits.f
    rw [if_neg (by omega), if_pos (by omega), e, if_neg (by omega), IntKind.wrap_u64, Int.tmod_eq_emod_of_nonneg (by omega)]; congr 1; omega
  have q2 : flitref01_Bits.f (IntKind.u64.wrap b) 61 = some (b % 2305843009213693952) := by
    unfold flitref01_Bits.f
    rw [if_neg (by omega), if_pos (by omega), e2, if_neg (by omega), IntKind.wrap_u64, Int.tmod_eq_emod_of_nonneg (by omega)]; congr 1; omega
  simp only [Option.bind_some, if_true, slot_Word.f, word1, flitref01_Word.f, q1, q2]
  simp only [IntKind.wrap_u64]; simp; omega

end Go.Proofs.Ytgakmobgomiblaa.Pure
