/- What is proved: the walk of SlotThaws' (SlotSame's) own body over the callees' contracts. Conditions: stated as hypotheses that the plain law gives. -/
import Derived.Test.YtgakmobgomiblaaPSlotLowx2
import Derived.Test.YtgakmobgomiblaaBits
namespace Go.Proofs.Ytgakmobgomiblaa.HandSame
open Go.Proofs.Ytgakmobgomiblaa.Bits Go.RowKit Go.Proofs.Ytgakmobgomiblaa.PSlotLow Go.Proofs.YtgakmobgomiblaaW.PrintWords Go.Proofs.YtgakmobgomiblaaW.PrintLast Go.Proofs.YtgakmobgomiblaaW.PrintMore
set_option linter.unusedVariables false
set_option linter.unusedSimpArgs false
attribute [local go_sem high] eqA23
theorem shown_t : flitlaw01_shown.f = some true := by decide +kernel
set_option maxHeartbeats 8000000 in
set_option maxRecDepth 100000 in
theorem body (a0 f t p q : Int) (w : World) (HS : Aside0 (flitlaw01_shown.f = some true)) (A3 : Aside0 (slot_Freeze.f a0 = some f)) (A4 : Aside0 (slot_Thaw.f a0 = some t))
    (A5 : Aside0 (slot_Of.f f = some (p, q))) (A6 : Aside0 (slot_Of.f a0 = some (p, q))) (A7 : Aside0 (slot_Of.f t = some (p, q)))
    (A8 : Aside0 (slot_Frozen.f f = some true)) (A9 : Aside0 (slot_Frozen.f t = some false)) (A10 : Aside0 (slot_Thaw.f f = some t)) (A11 : Aside0 (slot_Freeze.f t = some f)) (C : Aside0 (a0 = f ∨ a0 = t)) :
    Calls Try.prog 7 #[.int .u64 a0] w fun e w' => e = .returned (.bool true) ∧ Below w.heap.size w w' := by
  by_cases c : a0 = f
  · have cb : (a0 == f) = true := by simpa using c
    clear c C
    have HB := Aside0.mk (Below.refl w.heap.size w)
    go_enter Try.func7, Try.ntmps7
    go_wp2_with (first | ((with_reducible refine gate_callee (f := 12) rfl ?_); refine goesL_ (some 6) rfl rfl Try.func12 (by kernel_rfl) rfl #[] rfl (by (try simp only [List.map_toArray, List.map_cons, List.map_nil]); first | done | rfl) ?_; (with_reducible refine (flitlaw01_shown.calls true _ HS.out).mono ?_); rintro e wa ⟨rfl, hb⟩; refine ⟨_, rfl, ?_⟩; (have n0_ := Aside0.mk (below_step (by repeat (first | (with_reducible first | exact HB.out | apply below_alloc | apply pw_below_drewN | apply below_drew1) | exact HB.out)) hb); clear HB; have HB := n0_; clear n0_; (try clear hb))) | ((with_reducible refine gate_callee (f := 19) rfl ?_); refine goesL_ (some 8) rfl rfl Try.func19 (by kernel_rfl) rfl #[.int .u64 a0] rfl (by (try simp only [List.map_toArray, List.map_cons, List.map_nil]); first | done | rfl) ?_; (with_reducible refine (slot_Freeze.calls a0 f _ A3.out).mono ?_); rintro e w' ⟨rfl, ⟨nd, rfl⟩⟩; refine ⟨_, rfl, ?_⟩) | ((with_reducible refine gate_callee (f := 21) rfl ?_); refine goesL_ (some 10) rfl rfl Try.func21 (by kernel_rfl) rfl #[.int .u64 a0] rfl (by (try simp only [List.map_toArray, List.map_cons, List.map_nil]); first | done | rfl) ?_; (with_reducible refine (slot_Thaw.calls a0 t _ A4.out).mono ?_); rintro e w' ⟨rfl, ⟨nd, rfl⟩⟩; refine ⟨_, rfl, ?_⟩) | (go_at_call 19; (with_reducible refine (slot_Freeze.calls a0 f _ A3.out).mono ?_); rintro e w' ⟨rfl, ⟨nd, rfl⟩⟩) | (go_at_call 21; (with_reducible refine (slot_Thaw.calls a0 t _ A4.out).mono ?_); rintro e w' ⟨rfl, ⟨nd, rfl⟩⟩) | (go_at_call 15; (with_reducible refine (slot_Of.calls f p q _ A5.out).mono ?_); rintro e w15 ⟨rfl, hb⟩; (have n0_ := Aside0.mk (below_step (by repeat (first | (with_reducible first | exact HB.out | apply below_alloc | apply pw_below_drewN | apply below_drew1) | exact HB.out)) hb); clear HB; have HB := n0_; clear n0_; (try clear hb))) | (go_at_call 15; (with_reducible refine (slot_Of.calls a0 p q _ A6.out).mono ?_); rintro e w16 ⟨rfl, hb⟩; (have n0_ := Aside0.mk (below_step (by repeat (first | (with_reducible first | exact HB.out | apply below_alloc | apply pw_below_drewN | apply below_drew1) | exact HB.out)) hb); clear HB; have HB := n0_; clear n0_; (try clear hb))) | (go_at_call 15; (with_reducible refine (slot_Of.calls t p q _ A7.out).mono ?_); rintro e w17 ⟨rfl, hb⟩; (have n0_ := Aside0.mk (below_step (by repeat (first | (with_reducible first | exact HB.out | apply below_alloc | apply pw_below_drewN | apply below_drew1) | exact HB.out)) hb); clear HB; have HB := n0_; clear n0_; (try clear hb))) | (go_at_call 17; (with_reducible refine (slot_Frozen.calls f true _ A8.out).mono ?_); rintro e w' ⟨rfl, ⟨nd, rfl⟩⟩) | (go_at_call 17; (with_reducible refine (slot_Frozen.calls t false _ A9.out).mono ?_); rintro e w' ⟨rfl, ⟨nd, rfl⟩⟩) | (go_at_call 21; (with_reducible refine (slot_Thaw.calls f t _ A10.out).mono ?_); rintro e w' ⟨rfl, ⟨nd, rfl⟩⟩) | (go_at_call 19; (with_reducible refine (slot_Freeze.calls t f _ A11.out).mono ?_); rintro e w' ⟨rfl, ⟨nd, rfl⟩⟩))
    go_ret
    exact ⟨rfl, by repeat (first | (with_reducible first | exact HB.out | apply below_alloc | apply pw_below_drewN | apply below_drew1) | exact HB.out)⟩
  · have cb : (a0 == f) = false := by simpa using c
    have HB := Aside0.mk (Below.refl w.heap.size w)
    have D := Aside0.mk (C.out.resolve_left c)
    clear c C
    go_enter Try.func7, Try.ntmps7
    go_wp2_with (first | ((with_reducible refine gate_callee (f := 12) rfl ?_); refine goesL_ (some 6) rfl rfl Try.func12 (by kernel_rfl) rfl #[] rfl (by (try simp only [List.map_toArray, List.map_cons, List.map_nil]); first | done | rfl) ?_; (with_reducible refine (flitlaw01_shown.calls true _ HS.out).mono ?_); rintro e wa ⟨rfl, hb⟩; refine ⟨_, rfl, ?_⟩; (have n0_ := Aside0.mk (below_step (by repeat (first | (with_reducible first | exact HB.out | apply below_alloc | apply pw_below_drewN | apply below_drew1) | exact HB.out)) hb); clear HB; have HB := n0_; clear n0_; (try clear hb))) | ((with_reducible refine gate_callee (f := 19) rfl ?_); refine goesL_ (some 8) rfl rfl Try.func19 (by kernel_rfl) rfl #[.int .u64 a0] rfl (by (try simp only [List.map_toArray, List.map_cons, List.map_nil]); first | done | rfl) ?_; (with_reducible refine (slot_Freeze.calls a0 f _ A3.out).mono ?_); rintro e w' ⟨rfl, ⟨nd, rfl⟩⟩; refine ⟨_, rfl, ?_⟩) | ((with_reducible refine gate_callee (f := 21) rfl ?_); refine goesL_ (some 10) rfl rfl Try.func21 (by kernel_rfl) rfl #[.int .u64 a0] rfl (by (try simp only [List.map_toArray, List.map_cons, List.map_nil]); first | done | rfl) ?_; (with_reducible refine (slot_Thaw.calls a0 t _ A4.out).mono ?_); rintro e w' ⟨rfl, ⟨nd, rfl⟩⟩; refine ⟨_, rfl, ?_⟩) | (go_at_call 19; (with_reducible refine (slot_Freeze.calls a0 f _ A3.out).mono ?_); rintro e w' ⟨rfl, ⟨nd, rfl⟩⟩) | (go_at_call 21; (with_reducible refine (slot_Thaw.calls a0 t _ A4.out).mono ?_); rintro e w' ⟨rfl, ⟨nd, rfl⟩⟩) | (go_at_call 15; (with_reducible refine (slot_Of.calls f p q _ A5.out).mono ?_); rintro e w15 ⟨rfl, hb⟩; (have n0_ := Aside0.mk (below_step (by repeat (first | (with_reducible first | exact HB.out | apply below_alloc | apply pw_below_drewN | apply below_drew1) | exact HB.out)) hb); clear HB; have HB := n0_; clear n0_; (try clear hb))) | (go_at_call 15; (with_reducible refine (slot_Of.calls a0 p q _ A6.out).mono ?_); rintro e w16 ⟨rfl, hb⟩; (have n0_ := Aside0.mk (below_step (by repeat (first | (with_reducible first | exact HB.out | apply below_alloc | apply pw_below_drewN | apply below_drew1) | exact HB.out)) hb); clear HB; have HB := n0_; clear n0_; (try clear hb))) | (go_at_call 15; (with_reducible refine (slot_Of.calls t p q _ A7.out).mono ?_); rintro e w17 ⟨rfl, hb⟩; (have n0_ := Aside0.mk (below_step (by repeat (first | (with_reducible first | exact HB.out | apply below_alloc | apply pw_below_drewN | apply below_drew1) | exact HB.out)) hb); clear HB; have HB := n0_; clear n0_; (try clear hb))) | (go_at_call 17; (with_reducible refine (slot_Frozen.calls f true _ A8.out).mono ?_); rintro e w' ⟨rfl, ⟨nd, rfl⟩⟩) | (go_at_call 17; (with_reducible refine (slot_Frozen.calls t false _ A9.out).mono ?_); rintro e w' ⟨rfl, ⟨nd, rfl⟩⟩) | (go_at_call 21; (with_reducible refine (slot_Thaw.calls f t _ A10.out).mono ?_); rintro e w' ⟨rfl, ⟨nd, rfl⟩⟩) | (go_at_call 19; (with_reducible refine (slot_Freeze.calls t f _ A11.out).mono ?_); rintro e w' ⟨rfl, ⟨nd, rfl⟩⟩))
    go_ret
    exact ⟨by simp [← D.out], by repeat (first | (with_reducible first | exact HB.out | apply below_alloc | apply pw_below_drewN | apply below_drew1) | exact HB.out)⟩
theorem walk (a : Int) (w : World) (wa : (Lit.int .u64 a).wf = true) :
    Calls Try.prog 7 #[.int .u64 a] w fun e w' => e = .returned (.bool true) ∧ Below w.heap.size w w' := by
  obtain ⟨h0, h1⟩ := of_u64 wa
  have q1 : 0 ≤ a + (1 - a / 4 % 2) * 4 ∧ a + (1 - a / 4 % 2) * 4 < 18446744073709551616 := by omega
  have q2 : 0 ≤ a - (a / 4 % 2) * 4 ∧ a - (a / 4 % 2) * 4 < 18446744073709551616 := by omega
  refine body a (a + (1 - a / 4 % 2) * 4) (a - (a / 4 % 2) * 4) (a % 4) (a / 8) w ⟨shown_t⟩ ⟨?_⟩ ⟨?_⟩ ⟨?_⟩ ⟨?_⟩ ⟨?_⟩ ⟨?_⟩ ⟨?_⟩ ⟨?_⟩ ⟨?_⟩ ⟨?_⟩
  · simp only [slot_Freeze.f, or4 a h0 h1]
  · simp only [slot_Thaw.f, andNot4 a h0 h1]
  · simp only [slot_Of.f, of1 _ q1.1 q1.2, of2 _ q1.1 q1.2]; congr 2 <;> omega
  · simp only [slot_Of.f, of1 a h0 h1, of2 a h0 h1]
  · simp only [slot_Of.f, of1 _ q2.1 q2.2, of2 _ q2.1 q2.2]; congr 2 <;> omega
  · simp only [slot_Frozen.f, frozen1 _ q1.1 q1.2]; congr 1; simp; omega
  · simp only [slot_Frozen.f, frozen1 _ q2.1 q2.2]; congr 1; simp; omega
  · simp only [slot_Thaw.f, andNot4 _ q1.1 q1.2]; congr 1; omega
  · simp only [slot_Freeze.f, or4 _ q2.1 q2.2]; congr 1; omega
  · omega
end Go.Proofs.Ytgakmobgomiblaa.HandSame
