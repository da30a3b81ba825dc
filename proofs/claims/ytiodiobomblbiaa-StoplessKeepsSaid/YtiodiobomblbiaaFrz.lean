/- What is proved: frozen words: pure laws, and the contracts of the functions that freeze, thaw and ask. Conditions: that a word is one of 64 bits. -/
import Derived.Test.YtiodiobomblbiaaNum
namespace Go.Proofs.Ytiodiobomblbiaa.Num
open Go Go.RowKit
set_option maxRecDepth 100000
set_option linter.unusedVariables false
set_option linter.unusedSimpArgs false
/-- Whether a word is frozen (1); the word frozen; the word thawed. -/
def fzB (x : Int) : Int := x / 4 % 2
def frz (x : Int) : Int := x + (1 - x / 4 % 2) * 4
def thw (x : Int) : Int := x - x / 4 % 2 * 4
theorem frz_rng {x : Int} (h : 0 ≤ x ∧ x < 18446744073709551616) : 0 ≤ frz x ∧ frz x < 18446744073709551616 := by unfold frz; omega
theorem thw_rng {x : Int} (h : 0 ≤ x ∧ x < 18446744073709551616) : 0 ≤ thw x ∧ thw x < 18446744073709551616 := by unfold thw; omega
theorem fzB_rng (x : Int) : 0 ≤ fzB x ∧ fzB x ≤ 1 := by unfold fzB; omega
theorem frz_frz (x : Int) : frz (frz x) = frz x := by unfold frz; omega
theorem frz_thw (x : Int) : frz (thw x) = frz x := by unfold frz thw; omega
theorem thw_frz (x : Int) : thw (frz x) = thw x := by unfold frz thw; omega
theorem thw_thw (x : Int) : thw (thw x) = thw x := by unfold thw; omega
theorem fzB_frz (x : Int) : fzB (frz x) = 1 := by unfold frz fzB; omega
theorem fzB_thw (x : Int) : fzB (thw x) = 0 := by unfold thw fzB; omega
theorem fzB_sW (k n : Int) : fzB (sW k n) = 0 := by unfold sW fzB; omega
theorem thw_sW (k n : Int) : thw (sW k n) = sW k n := by unfold sW thw; omega
theorem vK_frz (x : Int) : vK (frz x) = vK x := by unfold vK frz; omega
theorem vN_frz (x : Int) : vN (frz x) = vN x := by unfold vN frz; omega
theorem thw_inj {x y : Int} (h : fzB x = fzB y) : thw x = thw y ↔ x = y := by unfold thw fzB at *; omega
set_option maxHeartbeats 1000000 in
theorem slotFreeze_calls (x : Int) (w : World) (h0 : 0 ≤ x) (h : x < 18446744073709551616) : Calls Try.prog 51 #[.int .u64 x] w (Ret w (.int .u64 (frz x))) := by
  have e1 : Hid (bits .or .u64 x 4 = frz x) := or4 x h0 h
  go_enter Try.func51, Try.ntmps51
  go_wp2_with fail
  exact bodyPost_ret (v := .int .u64 (frz x)) (by simp [results, Try.results51, go_sem, e1.out]) rfl ⟨rfl, Below.refl _ _⟩
set_option maxHeartbeats 1000000 in
theorem slotThaw_calls (x : Int) (w : World) (h0 : 0 ≤ x) (h : x < 18446744073709551616) : Calls Try.prog 53 #[.int .u64 x] w (Ret w (.int .u64 (thw x))) := by
  have e1 : Hid (bits .andNot .u64 x 4 = thw x) := andNot4 x h0 h
  go_enter Try.func53, Try.ntmps53
  go_wp2_with fail
  exact bodyPost_ret (v := .int .u64 (thw x)) (by simp [results, Try.results53, go_sem, e1.out]) rfl ⟨rfl, Below.refl _ _⟩
set_option maxHeartbeats 1000000 in
theorem slotFrozen_calls (x : Int) (w : World) (h0 : 0 ≤ x) (h : x < 18446744073709551616) : Calls Try.prog 46 #[.int .u64 x] w (Ret w (.bool (decide (fzB x = 1)))) := by
  have e1 : Hid ((bits .and .u64 x 4 != 0) = decide (fzB x = 1)) := frozen1 x h0 h
  go_enter Try.func46, Try.ntmps46
  go_wp2_with fail
  exact bodyPost_ret (v := .bool (decide (fzB x = 1))) (by simp [results, Try.results46, go_sem, ← e1.out]) rfl ⟨rfl, Below.refl _ _⟩
set_option maxHeartbeats 1000000 in
theorem ref01Frozen_calls (x : Int) (w : World) (h0 : 0 ≤ x) (h : x < 18446744073709551616) : Calls Try.prog 19 #[.int .u64 x] w fun e w' => e = .returned (.bool (decide (fzB x = 1))) ∧ w' = w := by
  have e1 : Hid ((x / 4 % 2 == 1) = decide (fzB x = 1)) := Bool.beq_eq_decide_eq _ _
  go_enter Try.func19, Try.ntmps19
  go_wp2_with fail
  exact bodyPost_ret (v := .bool (decide (fzB x = 1))) (by simp [results, Try.results19, go_sem, ← e1.out]) rfl ⟨rfl, rfl⟩
set_option maxHeartbeats 1000000 in
theorem ref01Freeze_calls (x : Int) (w : World) (h0 : 0 ≤ x) (h : x < 18446744073709551616) : Calls Try.prog 27 #[.int .u64 x] w (Ret w (.int .u64 (frz x))) := by
  by_cases hz : fzB x = 1
  · have e1 : Hid (x = frz x) := by unfold frz; unfold fzB at hz; show _ = _; omega
    have e2 : Hid (decide (fzB x = 1) = true) := decide_eq_true hz
    have HX : Hid (0 ≤ x ∧ x < 18446744073709551616) := ⟨h0, h⟩
    clear hz
    go_enter Try.func27, Try.ntmps27
    go_wp2_with (go_at_call 19; refine (ref01Frozen_calls x _ HX.out.1 HX.out.2).mono ?_; rintro e w' ⟨rfl, rfl⟩; rw [e2.out])
    exact bodyPost_ret (v := .int .u64 (frz x)) (by simp [results, Try.results27, go_sem, ← e1.out]) rfl ⟨rfl, Below.refl _ _⟩
  · have e1 : Hid (x + 4 = frz x) := by unfold frz; unfold fzB at hz; show _ = _; omega
    have e2 : Hid (decide (fzB x = 1) = false) := decide_eq_false hz
    have HX : Hid (0 ≤ x ∧ x < 18446744073709551616) := ⟨h0, h⟩
    have hb : x + 4 < 18446744073709551616 := by unfold fzB at hz; omega
    clear hz
    go_enter Try.func27, Try.ntmps27
    go_wp2_with (go_at_call 19; refine (ref01Frozen_calls x _ HX.out.1 HX.out.2).mono ?_; rintro e w' ⟨rfl, rfl⟩; rw [e2.out])
    exact bodyPost_ret (v := .int .u64 (frz x)) (by simp [results, Try.results27, go_sem, ← e1.out]) rfl ⟨rfl, Below.refl _ _⟩
set_option maxHeartbeats 1000000 in
theorem ref01Thaw_calls (x : Int) (w : World) (h0 : 0 ≤ x) (h : x < 18446744073709551616) : Calls Try.prog 35 #[.int .u64 x] w (Ret w (.int .u64 (thw x))) := by
  by_cases hz : fzB x = 1
  · have e1 : Hid (x - 4 = thw x) := by unfold thw; unfold fzB at hz; show _ = _; omega
    have e2 : Hid (decide (fzB x = 1) = true) := decide_eq_true hz
    have HX : Hid (0 ≤ x ∧ x < 18446744073709551616) := ⟨h0, h⟩
    have hb : 0 ≤ x - 4 := by unfold fzB at hz; omega
    clear hz
    go_enter Try.func35, Try.ntmps35
    go_wp2_with (go_at_call 19; refine (ref01Frozen_calls x _ HX.out.1 HX.out.2).mono ?_; rintro e w' ⟨rfl, rfl⟩; rw [e2.out])
    exact bodyPost_ret (v := .int .u64 (thw x)) (by simp [results, Try.results35, go_sem, ← e1.out]) rfl ⟨rfl, Below.refl _ _⟩
  · have e1 : Hid (x = thw x) := by unfold thw; unfold fzB at hz; show _ = _; omega
    have e2 : Hid (decide (fzB x = 1) = false) := decide_eq_false hz
    have HX : Hid (0 ≤ x ∧ x < 18446744073709551616) := ⟨h0, h⟩
    clear hz
    go_enter Try.func35, Try.ntmps35
    go_wp2_with (go_at_call 19; refine (ref01Frozen_calls x _ HX.out.1 HX.out.2).mono ?_; rintro e w' ⟨rfl, rfl⟩; rw [e2.out])
    exact bodyPost_ret (v := .int .u64 (thw x)) (by simp [results, Try.results35, go_sem, ← e1.out]) rfl ⟨rfl, Below.refl _ _⟩
end Go.Proofs.Ytiodiobomblbiaa.Num
