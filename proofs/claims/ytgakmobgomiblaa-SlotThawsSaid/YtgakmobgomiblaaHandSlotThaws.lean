/- What is proved: the walk of SlotThaws' (SlotSame's) own body over the callees' contracts. Conditions: stated as hypotheses that the plain law gives. -/
import Derived.Test.YtgakmobgomiblaaPSlotLowx2
import Derived.Test.YtgakmobgomiblaaBits
namespace Go.Proofs.Ytgakmobgomiblaa.HandThaws
open Go.Proofs.Ytgakmobgomiblaa.Bits Go.RowKit Go.Proofs.Ytgakmobgomiblaa.PSlotLow Go.Proofs.YtgakmobgomiblaaW.PrintWords Go.Proofs.YtgakmobgomiblaaW.PrintLast Go.Proofs.YtgakmobgomiblaaW.PrintMore
set_option linter.unusedVariables false
set_option linter.unusedSimpArgs false
attribute [local go_sem high] eqA23
theorem shown_t : flitlaw01_shown.f = some true := by decide +kernel
set_option maxHeartbeats 8000000 in
set_option maxRecDepth 100000 in
theorem body (a0 a1 ta tb pa qa pb qb fa fb : Int) (w : World) (HS : Aside0 (flitlaw01_shown.f = some true)) (A5 : Aside0 (slot_Thaw.f a0 = some ta)) (A6 : Aside0 (slot_Thaw.f a1 = some tb))
    (A7 : Aside0 (slot_Of.f a0 = some (pa, qa))) (A8 : Aside0 (slot_Of.f a1 = some (pb, qb))) (A9 : Aside0 (slot_Freeze.f a0 = some fa)) (A10 : Aside0 (slot_Freeze.f a1 = some fb))
    (c9b0 : ((ta == tb) == (pa == pb && (qa == qb))) = true) (c9b1 : decide ((ta == tb) = (pa == pb && (qa == qb))) = true) (C : Aside0 (((fa == fb) == (pa == pb && (qa == qb))) = true)) :
    Calls Try.prog 11 #[.int .u64 a0, .int .u64 a1] w fun e w' => e = .returned (.bool true) ∧ Below w.heap.size w w' := by
  have HB := Aside0.mk (Below.refl w.heap.size w)
  go_enter Try.func11, Try.ntmps11
  go_wp2_with (first | ((with_reducible refine gate_callee (f := 12) rfl ?_); refine goesL_ (some 6) rfl rfl Try.func12 (by kernel_rfl) rfl #[] rfl (by (try simp only [List.map_toArray, List.map_cons, List.map_nil]); first | done | rfl) ?_; (with_reducible refine (flitlaw01_shown.calls true _ HS.out).mono ?_); rintro e wa ⟨rfl, hb⟩; refine ⟨_, rfl, ?_⟩; (have n0_ := Aside0.mk (below_step (by repeat (first | (with_reducible first | exact HB.out | apply below_alloc | apply pw_below_drewN | apply below_drew1) | exact HB.out)) hb); clear HB; have HB := n0_; clear n0_; (try clear hb))) | (go_at_call 21; (with_reducible refine (slot_Thaw.calls a0 ta _ A5.out).mono ?_); rintro e w' ⟨rfl, ⟨nd, rfl⟩⟩) | (go_at_call 21; (with_reducible refine (slot_Thaw.calls a1 tb _ A6.out).mono ?_); rintro e w' ⟨rfl, ⟨nd, rfl⟩⟩) | (go_at_call 15; (with_reducible refine (slot_Of.calls a0 pa qa _ A7.out).mono ?_); rintro e w15 ⟨rfl, hb⟩; (have n0_ := Aside0.mk (below_step (by repeat (first | (with_reducible first | exact HB.out | apply below_alloc | apply pw_below_drewN | apply below_drew1) | exact HB.out)) hb); clear HB; have HB := n0_; clear n0_; (try clear hb))) | (go_at_call 15; (with_reducible refine (slot_Of.calls a1 pb qb _ A8.out).mono ?_); rintro e w16 ⟨rfl, hb⟩; (have n0_ := Aside0.mk (below_step (by repeat (first | (with_reducible first | exact HB.out | apply below_alloc | apply pw_below_drewN | apply below_drew1) | exact HB.out)) hb); clear HB; have HB := n0_; clear n0_; (try clear hb))) | (go_at_call 19; (with_reducible refine (slot_Freeze.calls a0 fa _ A9.out).mono ?_); rintro e w' ⟨rfl, ⟨nd, rfl⟩⟩) | (go_at_call 19; (with_reducible refine (slot_Freeze.calls a1 fb _ A10.out).mono ?_); rintro e w' ⟨rfl, ⟨nd, rfl⟩⟩))
  go_ret
  exact ⟨by show Ending.returned (.bool ((fa == fb) == (pa == pb && (qa == qb)))) = _; rw [C.out], by repeat (first | (with_reducible first | exact HB.out | apply below_alloc | apply pw_below_drewN | apply below_drew1) | exact HB.out)⟩

theorem walk (a b : Int) (w : World) (wa : (Lit.int .u64 a).wf = true) (wb : (Lit.int .u64 b).wf = true) :
    Calls Try.prog 11 #[.int .u64 a, .int .u64 b] w fun e w' => e = .returned (.bool true) ∧ Below w.heap.size w w' := by
  obtain ⟨h0, h1⟩ := of_u64 wa
  obtain ⟨g0, g1⟩ := of_u64 wb
  have e1 : (a - a / 4 % 2 * 4 == b - b / 4 % 2 * 4) = (a % 4 == b % 4 && a / 8 == b / 8) := by
    rw [Bool.eq_iff_iff]; simp; omega
  have e2 : (a + (1 - a / 4 % 2) * 4 == b + (1 - b / 4 % 2) * 4) = (a % 4 == b % 4 && a / 8 == b / 8) := by
    rw [Bool.eq_iff_iff]; simp; omega
  refine body a b (a - a / 4 % 2 * 4) (b - b / 4 % 2 * 4) (a % 4) (a / 8) (b % 4) (b / 8) (a + (1 - a / 4 % 2) * 4) (b + (1 - b / 4 % 2) * 4) w ⟨shown_t⟩ ⟨?_⟩ ⟨?_⟩ ⟨?_⟩ ⟨?_⟩ ⟨?_⟩ ⟨?_⟩ ?_ ?_ ⟨?_⟩
  · simp only [slot_Thaw.f, andNot4 a h0 h1]
  · simp only [slot_Thaw.f, andNot4 b g0 g1]
  · simp only [slot_Of.f, of1 a h0 h1, of2 a h0 h1]
  · simp only [slot_Of.f, of1 b g0 g1, of2 b g0 g1]
  · simp only [slot_Freeze.f, or4 a h0 h1]
  · simp only [slot_Freeze.f, or4 b g0 g1]
  · rw [e1]; simp
  · rw [e1]; simp
  · rw [e2]; simp
end Go.Proofs.Ytgakmobgomiblaa.HandThaws
