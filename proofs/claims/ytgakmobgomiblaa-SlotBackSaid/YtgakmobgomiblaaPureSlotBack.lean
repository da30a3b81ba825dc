/- What is proved: the plain law of SlotBack, over numbers alone. Conditions: each number is one of int. -/
import Derived.Test.YtgakmobgomiblaaPSlotBackx2
import Derived.Test.YtgakmobgomiblaaBits
namespace Go.Proofs.Ytgakmobgomiblaa.Pure
open Go.Proofs.Ytgakmobgomiblaa.Bits Go.RowKit Go.Proofs.Ytgakmobgomiblaa.PSlotBack Go.Proofs.YtgakmobgomiblaaW.PrintWords Go.Proofs.YtgakmobgomiblaaW.PrintLast

theorem shown_t : flitlaw01_shown.f = some true := by decide +kernel
theorem j1k (k : Nat) (a b : Int) : flitlaw01_SlotBack.j0 (k+1) true true a b = some true := by rw [flitlaw01_SlotBack.j0]; exact if_pos rfl
theorem w1 (a b : Int) (h : 0 ≤ a) (h' : a < 4) (g : 0 ≤ b) (g' : b < 2305843009213693952) : slot_Word.f a b = some (a + b * 8) := by
  have e : a % 4 + b % 2305843009213693952 * 8 = a + b * 8 := by omega
  unfold slot_Word.f; rw [word1, e]
theorem o1 (a b : Int) (h : 0 ≤ a) (h' : a < 4) (g : 0 ≤ b) (g' : b < 2305843009213693952) : slot_Of.f (a + b * 8) = some (a, b) := by
  have q0 : 0 ≤ a + b * 8 := by omega
  have q1 : a + b * 8 < 18446744073709551616 := by omega
  unfold slot_Of.f; rw [of1 _ q0 q1, of2 _ q0 q1, show (a + b * 8) % 4 = a by omega, show (a + b * 8) / 8 = b by omega]
theorem f1 (a b : Int) (h : 0 ≤ a) (h' : a < 4) (g : 0 ≤ b) (g' : b < 2305843009213693952) : slot_Frozen.f (a + b * 8) = some false := by
  have q0 : 0 ≤ a + b * 8 := by omega
  have q1 : a + b * 8 < 18446744073709551616 := by omega
  unfold slot_Frozen.f; rw [frozen1 _ q0 q1, decide_eq_false (by omega)]
theorem last (a b m : Int) (k : Nat) (w : slot_Word.f a b = some m) (o : slot_Of.f m = some (a, b)) (f : slot_Frozen.f m = some false) : flitlaw01_SlotBack.j0 (k + 1) true false a b = some true := by
  rw [flitlaw01_SlotBack.j0, if_neg Bool.false_ne_true, if_pos rfl, w, Option.bind_some, o, Option.bind_some, if_pos (by simp), Option.bind_some, f, Option.bind_some]
  rfl
theorem SlotBack (a b : Int) (k : Nat) : flitlaw01_SlotBack.f (k + 1) a b = some true := by
  unfold flitlaw01_SlotBack.f
  rw [shown_t]
  simp only [Option.bind_some, j1k]
  by_cases c1 : a < 0
  · rw [if_pos c1]
  rw [if_neg c1]
  by_cases c2 : a > 3
  · rw [if_pos c2]
  rw [if_neg c2]
  by_cases c3 : b < 0
  · rw [if_pos c3]
  rw [if_neg c3]
  by_cases c4 : b ≥ 2305843009213693952
  · rw [decide_eq_true c4, j1k]
  rw [decide_eq_false c4]
  exact last a b (a + b * 8) k (w1 a b (by omega) (by omega) (by omega) (by omega)) (o1 a b (by omega) (by omega) (by omega) (by omega)) (f1 a b (by omega) (by omega) (by omega) (by omega))

end Go.Proofs.Ytgakmobgomiblaa.Pure
