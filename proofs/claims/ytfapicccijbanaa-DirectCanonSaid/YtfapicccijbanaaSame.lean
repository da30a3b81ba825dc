/- What is proved: contracts of direct.moved, and of the machine direct.Same: NewSame, Step, Yes. Conditions: stated with each contract. -/
import Derived.Test.YtfapicccijbanaaHead
import Derived.Test.YtfapicccijbanaaMem
import Derived.RegionTactic
import Derived.Laws.EntriesVeiled
import Derived.Deep.RegionHeld3
import Derived.Deep.DeepCutAuto
namespace Go.Proofs.Ytfapicccijbanaa.Mem
open Go Go.RowKit Go.Proofs.Ytfapicccijbanaa.Sep Go.Proofs.Ytfapicccijbanaa.Num
set_option maxRecDepth 100000
set_option linter.unusedVariables false
set_option linter.unusedSimpArgs false
theorem eqlF_nil (w : World) : (binOp .eql 97 .nilFunc .nilFunc).run Try.prog w = .ok (.bool true) w := by kernel_rfl
theorem neqF_nil (w : World) : (binOp .neq 97 .nilFunc .nilFunc).run Try.prog w = .ok (.bool false) w := by kernel_rfl
theorem eqlF_fn (fn : Fn) (a b : Array Value) (w : World) : (binOp .eql 97 (.func fn a b) .nilFunc).run Try.prog w = .ok (.bool false) w := by kernel_rfl
theorem neqF_fn (fn : Fn) (a b : Array Value) (w : World) : (binOp .neq 97 (.func fn a b) .nilFunc).run Try.prog w = .ok (.bool true) w := by kernel_rfl
attribute [local go_sem] eqlF_nil neqF_nil eqlF_fn neqF_fn
theorem load_rng (M : MS) (h : M.ok) (a : Int) : 0 ≤ M.load a ∧ M.load a < 18446744073709551616 := by
  unfold MS.load MS.get
  by_cases ht : M.there a = true
  · rw [if_pos ht]
    obtain ⟨h0, h1⟩ := (there_iff M a).1 ht
    exact h.wd _ (by rw [List.getD_eq_getElem?_getD, List.getElem?_eq_getElem (by omega : a.toNat < M.ws.length)]; simp)
  · rw [if_neg ht]; omega
set_option maxHeartbeats 1000000 in
theorem moved_calls (w : World) (R : HProp) (mb : Nat) (M : MS) (a : Int) (H : Holds w (MemP 120 mb M * R)) (hok : M.ok) :
    Calls Try.prog 48 #[.pointer (some ⟨mb, 0, none⟩), .int .i64 a] w fun e w' => e = .returned (.int .i64 (hMoved (M.load a) a)) ∧ Holds w' (MemP 120 mb (M.loaded a) * R) ∧ Strm w w' := by
  have L : Hid (∀ w, Holds w (MemP 120 mb M * R) → Calls Try.prog 18 #[.pointer (some ⟨mb, 0, none⟩), .int .i64 a] w fun e w' => e = .returned (.int .u64 (M.load a)) ∧ Holds w' (MemP 120 mb (M.loaded a) * R) ∧ Strm w w') := fun w H => load_calls w R mb M a H hok
  have V : Hid (∀ w, Calls Try.prog 71 #[.int .u64 (M.load a), .int .i64 a] w (Ret w (.int .i64 (hMoved (M.load a) a)))) := fun w => headMoved_calls _ _ w (load_rng M hok a).1 (load_rng M hok a).2
  have HH : Hid (Holds w (MemP 120 mb M * R)) := H
  generalize M.load a = x at L V
  generalize hMoved x a = y at V
  clear H hok
  go_enter Try.func48, Try.ntmps48
  go_wp2_with (first | (go_at_call 18; (refine (L.out _ HH.out).mono ?_); rintro e w2 ⟨rfl, H2, s2⟩) | (go_at_call 71; (with_reducible refine (V.out _).mono ?_); rintro e w3 ⟨rfl, hb⟩; have H3 := H2.kept hb; have s3 := s2.trans (Strm.below hb); clear hb))
  go_ret
  exact ⟨rfl, H3, s3⟩

/-! ### Same -/
inductive SK where
  | fin
  | one (a b : Int)
  | two (b c : Int)
structure SS where
  k : SK
  yes : Bool
def SK.P (x : Nat) (kv : Value) : SK → HProp
  | .fin => fun h => kv = .nilFunc ∧ emp h
  | .one a b => fun h => ∃ pa pb px, kv = .func (.func 47) #[] #[.pointer (some ⟨pa, 0, none⟩), .pointer (some ⟨pb, 0, none⟩), .pointer (some ⟨px, 0, none⟩)] ∧
      (pt pa (.cells #[.int .i64 a] 3 (0, 0)) * (pt pb (.cells #[.int .i64 b] 3 (0, 0)) * pt px (.cells #[.pointer (some ⟨x, 0, none⟩)] 35 (0, 0)))) h
  | .two b c => fun h => ∃ pb pc px, kv = .func (.func 49) #[] #[.pointer (some ⟨pb, 0, none⟩), .pointer (some ⟨pc, 0, none⟩), .pointer (some ⟨px, 0, none⟩)] ∧
      (pt pb (.cells #[.int .i64 b] 3 (0, 0)) * (pt pc (.cells #[.int .i64 c] 3 (0, 0)) * pt px (.cells #[.pointer (some ⟨x, 0, none⟩)] 35 (0, 0)))) h
def SameP (x : Nat) (S : SS) : HProp := fun h => ∃ kv, (pt x (.cells #[kv, .bool S.yes] 107 (0, 0)) * SK.P x kv S.k) h
def sameNew (a b : Int) : SS := if a = b ∨ a = 0 ∨ b = 0 then ⟨.fin, decide (a = b)⟩ else ⟨.one a b, false⟩
def SS.step (S : SS) (M : MS) : SS × MS := match S.k with
  | .fin => (S, M)
  | .one a b => (⟨.two b (hMoved (M.load a) a), S.yes⟩, M.loaded a)
  | .two b c => (⟨.fin, decide (hMoved (M.load b) b = c)⟩, M.loaded b)
def SS.done (S : SS) : Bool := match S.k with | .fin => true | _ => false
theorem same_fin {w : World} {R : HProp} {x : Nat} {y : Bool} : Holds w (SameP x ⟨.fin, y⟩ * R) ↔ Holds w (pt x (.cells #[.nilFunc, .bool y] 107 (0, 0)) * R) := by
  constructor
  · intro H
    obtain ⟨kv, H⟩ := holds_ex H
    have H2 := H.cast (Q := SK.P x kv .fin * (pt x (.cells #[kv, .bool y] 107 (0, 0)) * R)) (by ac_rfl)
    obtain ⟨rfl, H3⟩ := holds_and H2
    exact H3.drop
  · intro H
    refine holds_ex_mk .nilFunc ?_
    have H2 := (holds_and_mk (p := Value.nilFunc = .nilFunc) rfl (H.cast (star_empl _).symm))
    exact H2.cast (Q := (pt x (.cells #[.nilFunc, .bool y] 107 (0, 0)) * SK.P x .nilFunc .fin) * R) (by show (SK.P x .nilFunc .fin * _) = _; ac_rfl)
theorem same_one {w : World} {R : HProp} {x : Nat} {y : Bool} {a b : Int} (H : Holds w (SameP x ⟨.one a b, y⟩ * R)) : ∃ (pa pb px : Nat), Holds w (pt x (.cells #[.func (.func 47) #[] #[.pointer (some ⟨pa, 0, none⟩), .pointer (some ⟨pb, 0, none⟩), .pointer (some ⟨px, 0, none⟩)], .bool y] 107 (0, 0)) * (pt pa (.cells #[.int .i64 a] 3 (0, 0)) * (pt pb (.cells #[.int .i64 b] 3 (0, 0)) * (pt px (.cells #[.pointer (some ⟨x, 0, none⟩)] 35 (0, 0)) * R)))) := by
  obtain ⟨kv, H⟩ := holds_ex H
  have H2 := H.cast (Q := SK.P x kv (.one a b) * (pt x (.cells #[kv, .bool y] 107 (0, 0)) * R)) (by ac_rfl)
  obtain ⟨pa, H2⟩ := holds_ex H2
  obtain ⟨pb, H2⟩ := holds_ex H2
  obtain ⟨px, H2⟩ := holds_ex H2
  obtain ⟨rfl, H3⟩ := holds_and H2
  exact ⟨pa, pb, px, H3.cast (by ac_rfl)⟩
theorem same_one_mk {w : World} {R : HProp} {x : Nat} {y : Bool} {a b : Int} {pa pb px : Nat} (H : Holds w (pt x (.cells #[.func (.func 47) #[] #[.pointer (some ⟨pa, 0, none⟩), .pointer (some ⟨pb, 0, none⟩), .pointer (some ⟨px, 0, none⟩)], .bool y] 107 (0, 0)) * (pt pa (.cells #[.int .i64 a] 3 (0, 0)) * (pt pb (.cells #[.int .i64 b] 3 (0, 0)) * (pt px (.cells #[.pointer (some ⟨x, 0, none⟩)] 35 (0, 0)) * R))))) : Holds w (SameP x ⟨.one a b, y⟩ * R) := by
  refine holds_ex_mk (.func (.func 47) #[] #[.pointer (some ⟨pa, 0, none⟩), .pointer (some ⟨pb, 0, none⟩), .pointer (some ⟨px, 0, none⟩)]) ?_
  refine Holds.cast (P := SK.P x (.func (.func 47) #[] #[.pointer (some ⟨pa, 0, none⟩), .pointer (some ⟨pb, 0, none⟩), .pointer (some ⟨px, 0, none⟩)]) (.one a b) * (pt x (.cells #[.func (.func 47) #[] #[.pointer (some ⟨pa, 0, none⟩), .pointer (some ⟨pb, 0, none⟩), .pointer (some ⟨px, 0, none⟩)], .bool y] 107 (0, 0)) * R)) ?_ (by ac_rfl)
  refine holds_ex_mk pa ?_
  refine holds_ex_mk pb ?_
  refine holds_ex_mk px ?_
  refine holds_and_mk rfl (H.cast (by ac_rfl))
theorem same_two {w : World} {R : HProp} {x : Nat} {y : Bool} {b c : Int} (H : Holds w (SameP x ⟨.two b c, y⟩ * R)) : ∃ (pb pc px : Nat), Holds w (pt x (.cells #[.func (.func 49) #[] #[.pointer (some ⟨pb, 0, none⟩), .pointer (some ⟨pc, 0, none⟩), .pointer (some ⟨px, 0, none⟩)], .bool y] 107 (0, 0)) * (pt pb (.cells #[.int .i64 b] 3 (0, 0)) * (pt pc (.cells #[.int .i64 c] 3 (0, 0)) * (pt px (.cells #[.pointer (some ⟨x, 0, none⟩)] 35 (0, 0)) * R)))) := by
  obtain ⟨kv, H⟩ := holds_ex H
  have H2 := H.cast (Q := SK.P x kv (.two b c) * (pt x (.cells #[kv, .bool y] 107 (0, 0)) * R)) (by ac_rfl)
  obtain ⟨pb, H2⟩ := holds_ex H2
  obtain ⟨pc, H2⟩ := holds_ex H2
  obtain ⟨px, H2⟩ := holds_ex H2
  obtain ⟨rfl, H3⟩ := holds_and H2
  exact ⟨pb, pc, px, H3.cast (by ac_rfl)⟩
theorem same_two_mk {w : World} {R : HProp} {x : Nat} {y : Bool} {b c : Int} {pb pc px : Nat} (H : Holds w (pt x (.cells #[.func (.func 49) #[] #[.pointer (some ⟨pb, 0, none⟩), .pointer (some ⟨pc, 0, none⟩), .pointer (some ⟨px, 0, none⟩)], .bool y] 107 (0, 0)) * (pt pb (.cells #[.int .i64 b] 3 (0, 0)) * (pt pc (.cells #[.int .i64 c] 3 (0, 0)) * (pt px (.cells #[.pointer (some ⟨x, 0, none⟩)] 35 (0, 0)) * R))))) : Holds w (SameP x ⟨.two b c, y⟩ * R) := by
  refine holds_ex_mk (.func (.func 49) #[] #[.pointer (some ⟨pb, 0, none⟩), .pointer (some ⟨pc, 0, none⟩), .pointer (some ⟨px, 0, none⟩)]) ?_
  refine Holds.cast (P := SK.P x (.func (.func 49) #[] #[.pointer (some ⟨pb, 0, none⟩), .pointer (some ⟨pc, 0, none⟩), .pointer (some ⟨px, 0, none⟩)]) (.two b c) * (pt x (.cells #[.func (.func 49) #[] #[.pointer (some ⟨pb, 0, none⟩), .pointer (some ⟨pc, 0, none⟩), .pointer (some ⟨px, 0, none⟩)], .bool y] 107 (0, 0)) * R)) ?_ (by ac_rfl)
  refine holds_ex_mk pb ?_
  refine holds_ex_mk pc ?_
  refine holds_ex_mk px ?_
  refine holds_and_mk rfl (H.cast (by ac_rfl))
set_option maxHeartbeats 2000000 in
theorem newSame_quick (w : World) (R : HProp) (a b : Int) (H : Holds w R) (h : a = b ∨ a = 0 ∨ b = 0) :
    Calls Try.prog 22 #[.int .i64 a, .int .i64 b] w fun e w' => ∃ x, e = .returned (.pointer (some ⟨x, 0, none⟩)) ∧ Holds w' (SameP x ⟨.fin, decide (a = b)⟩ * R) ∧ Strm w w' := by
  have HH : Hid (Holds w R) := H
  clear H
  by_cases h1 : a = b
  · subst h1
    rw [decide_eq_true rfl]
    have H4 := (((HH.out.alloc (.cells #[.int .i64 a] 3)).alloc (.cells #[.int .i64 a] 3)).alloc (.cells #[.nilFunc, .bool true] 107)).alloc (.cells #[.pointer (some ⟨w.heap.size + 1 + 1, 0, none⟩)] 35)
    simp only [World.size_alloc] at H4
    have H5 := (H4.drop.cast (Q := pt (w.heap.size + 1) (.cells #[.int .i64 a] 3 (0, 0)) * (pt w.heap.size (.cells #[.int .i64 a] 3 (0, 0)) * (pt (w.heap.size + 1 + 1) (.cells #[.nilFunc, .bool true] 107 (0, 0)) * R))) (by ac_rfl)).drop.drop
    have s4 := ((((Strm.refl w).alloc (.cells #[.int .i64 a] 3)).alloc (.cells #[.int .i64 a] 3)).alloc (.cells #[.nilFunc, .bool true] 107)).alloc (.cells #[.pointer (some ⟨w.heap.size + 1 + 1, 0, none⟩)] 35)
    clear H4
    go_enter Try.func22, Try.ntmps22
    go_wp2_with fail
    go_ret
    exact ⟨w.heap.size + 1 + 1, rfl, same_fin.2 H5, s4⟩
  · rw [decide_eq_false h1]
    have h1' : (a == b) = false := by simpa using h1
    clear h1
    by_cases h2 : a = 0
    · subst h2
      have H4 := (((HH.out.alloc (.cells #[.int .i64 0] 3)).alloc (.cells #[.int .i64 b] 3)).alloc (.cells #[.nilFunc, .bool false] 107)).alloc (.cells #[.pointer (some ⟨w.heap.size + 1 + 1, 0, none⟩)] 35)
      simp only [World.size_alloc] at H4
      have H5 := (H4.drop.cast (Q := pt (w.heap.size + 1) (.cells #[.int .i64 b] 3 (0, 0)) * (pt w.heap.size (.cells #[.int .i64 0] 3 (0, 0)) * (pt (w.heap.size + 1 + 1) (.cells #[.nilFunc, .bool false] 107 (0, 0)) * R))) (by ac_rfl)).drop.drop
      have s4 := ((((Strm.refl w).alloc (.cells #[.int .i64 0] 3)).alloc (.cells #[.int .i64 b] 3)).alloc (.cells #[.nilFunc, .bool false] 107)).alloc (.cells #[.pointer (some ⟨w.heap.size + 1 + 1, 0, none⟩)] 35)
      clear H4
      go_enter Try.func22, Try.ntmps22
      go_wp2_with fail
      go_ret
      exact ⟨w.heap.size + 1 + 1, rfl, same_fin.2 H5, s4⟩
    · have h3 : b = 0 := by rcases h with h | h | h; (· rw [h] at h1'; simp at h1'); (· exact absurd h h2); exact h
      subst h3
      clear h
      have H4 := (((HH.out.alloc (.cells #[.int .i64 a] 3)).alloc (.cells #[.int .i64 0] 3)).alloc (.cells #[.nilFunc, .bool false] 107)).alloc (.cells #[.pointer (some ⟨w.heap.size + 1 + 1, 0, none⟩)] 35)
      simp only [World.size_alloc] at H4
      have H5 := (H4.drop.cast (Q := pt (w.heap.size + 1) (.cells #[.int .i64 0] 3 (0, 0)) * (pt w.heap.size (.cells #[.int .i64 a] 3 (0, 0)) * (pt (w.heap.size + 1 + 1) (.cells #[.nilFunc, .bool false] 107 (0, 0)) * R))) (by ac_rfl)).drop.drop
      have s4 := ((((Strm.refl w).alloc (.cells #[.int .i64 a] 3)).alloc (.cells #[.int .i64 0] 3)).alloc (.cells #[.nilFunc, .bool false] 107)).alloc (.cells #[.pointer (some ⟨w.heap.size + 1 + 1, 0, none⟩)] 35)
      clear H4
      go_enter Try.func22, Try.ntmps22
      go_wp2_with fail
      go_ret
      exact ⟨w.heap.size + 1 + 1, rfl, same_fin.2 H5, s4⟩
set_option maxHeartbeats 2000000 in
theorem newSame_slow (w : World) (R : HProp) (a b : Int) (H : Holds w R) (h : ¬ (a = b ∨ a = 0 ∨ b = 0)) :
    Calls Try.prog 22 #[.int .i64 a, .int .i64 b] w fun e w' => ∃ x, e = .returned (.pointer (some ⟨x, 0, none⟩)) ∧ Holds w' (SameP x ⟨.one a b, false⟩ * R) ∧ Strm w w' := by
  have HH : Hid (Holds w R) := H
  clear H
  have h1 : (a == b) = false := by simp; exact fun e => h (Or.inl e)
  have h2 : (a == 0) = false := by simp; exact fun e => h (Or.inr (Or.inl e))
  have h3 : (b == 0) = false := by simp; exact fun e => h (Or.inr (Or.inr e))
  clear h
  go_enter Try.func22, Try.ntmps22
  go_wp2_with fail
  go_ret
  have H4 := (((HH.out.alloc (.cells #[.int .i64 a] 3)).alloc (.cells #[.int .i64 b] 3)).alloc (.cells #[.func (.func 47) #[] #[.pointer (some ⟨w.heap.size, 0, none⟩), .pointer (some ⟨w.heap.size + 1, 0, none⟩), .pointer (some ⟨w.heap.size + 1 + 1 + 1, 0, none⟩)], .bool false] 107)).alloc (.cells #[.pointer (some ⟨w.heap.size + 1 + 1, 0, none⟩)] 35)
  simp only [World.size_alloc] at H4
  exact ⟨w.heap.size + 1 + 1, rfl, same_one_mk (pa := w.heap.size) (pb := w.heap.size + 1) (px := w.heap.size + 1 + 1 + 1) (H4.cast (by ac_rfl)), ((((Strm.refl w).alloc _).alloc _).alloc _).alloc _⟩
theorem newSame_calls (w : World) (R : HProp) (a b : Int) (H : Holds w R) :
    Calls Try.prog 22 #[.int .i64 a, .int .i64 b] w fun e w' => ∃ x, e = .returned (.pointer (some ⟨x, 0, none⟩)) ∧ Holds w' (SameP x (sameNew a b) * R) ∧ Strm w w' := by
  unfold sameNew
  by_cases h : a = b ∨ a = 0 ∨ b = 0
  · rw [if_pos h]; exact newSame_quick w R a b H h
  · rw [if_neg h]; exact newSame_slow w R a b H h
/-! the two steps -/
set_option maxHeartbeats 2000000 in
theorem same1_calls (w : World) (R : HProp) (mb x pa pb px : Nat) (M : MS) (a b : Int) (y : Bool) (hok : M.ok)
    (H : Holds w (MemP 120 mb M * (pt pa (.cells #[.int .i64 a] 3 (0, 0)) * (pt pb (.cells #[.int .i64 b] 3 (0, 0)) * (pt px (.cells #[.pointer (some ⟨x, 0, none⟩)] 35 (0, 0)) * R))))) :
    Calls Try.prog 47 #[.pointer (some ⟨mb, 0, none⟩), .pointer (some ⟨pa, 0, none⟩), .pointer (some ⟨pb, 0, none⟩), .pointer (some ⟨px, 0, none⟩)] w fun e w' =>
      ∃ pc, e = .returned (.func (.func 49) #[] #[.pointer (some ⟨pb, 0, none⟩), .pointer (some ⟨pc, 0, none⟩), .pointer (some ⟨px, 0, none⟩)]) ∧
        Holds w' (MemP 120 mb (M.loaded a) * (pt pb (.cells #[.int .i64 b] 3 (0, 0)) * (pt pc (.cells #[.int .i64 (hMoved (M.load a) a)] 3 (0, 0)) * (pt px (.cells #[.pointer (some ⟨x, 0, none⟩)] 35 (0, 0)) * R)))) ∧ Strm w w' := by
  have MV : Hid (∀ w R, Holds w (MemP 120 mb M * R) → Calls Try.prog 48 #[.pointer (some ⟨mb, 0, none⟩), .int .i64 a] w fun e w' => e = .returned (.int .i64 (hMoved (M.load a) a)) ∧ Holds w' (MemP 120 mb (M.loaded a) * R) ∧ Strm w w') := fun w R H => moved_calls w R mb M a H hok
  generalize hMoved (M.load a) a = c at MV ⊢
  have Ha := (H.cast (Q := pt pa (.cells #[.int .i64 a] 3 (0, 0)) * (MemP 120 mb M * (pt pb (.cells #[.int .i64 b] 3 (0, 0)) * (pt px (.cells #[.pointer (some ⟨x, 0, none⟩)] 35 (0, 0)) * R)))) (by ac_rfl))
  have ca := Ha.cells
  have HH : Hid (Holds w _) := Ha.drop
  clear H hok Ha
  go_enter Try.func47, Try.ntmps47
  go_wp2_with (go_at_call 48; (refine (MV.out _ _ HH.out).mono ?_); rintro e w2 ⟨rfl, H2, s2⟩)
  go_ret
  have H3 := H2.alloc (.cells #[.int .i64 c] 3)
  exact ⟨w2.heap.size, rfl, H3.cast (by ac_rfl), s2.alloc _⟩
set_option maxHeartbeats 2000000 in
theorem same2_calls (w : World) (R : HProp) (mb x pb pc px : Nat) (M : MS) (b c : Int) (kv : Value) (y : Bool) (hok : M.ok)
    (H : Holds w (MemP 120 mb M * (pt pb (.cells #[.int .i64 b] 3 (0, 0)) * (pt pc (.cells #[.int .i64 c] 3 (0, 0)) * (pt px (.cells #[.pointer (some ⟨x, 0, none⟩)] 35 (0, 0)) * (pt x (.cells #[kv, .bool y] 107 (0, 0)) * R)))))) :
    Calls Try.prog 49 #[.pointer (some ⟨mb, 0, none⟩), .pointer (some ⟨pb, 0, none⟩), .pointer (some ⟨pc, 0, none⟩), .pointer (some ⟨px, 0, none⟩)] w fun e w' =>
      e = .returned .nilFunc ∧ Holds w' (MemP 120 mb (M.loaded b) * (pt x (.cells #[kv, .bool (decide (hMoved (M.load b) b = c))] 107 (0, 0)) * R)) ∧ Strm w w' := by
  have MV : Hid (∀ w R, Holds w (MemP 120 mb M * R) → Calls Try.prog 48 #[.pointer (some ⟨mb, 0, none⟩), .int .i64 b] w fun e w' => e = .returned (.int .i64 (hMoved (M.load b) b)) ∧ Holds w' (MemP 120 mb (M.loaded b) * R) ∧ Strm w w') := fun w R H => moved_calls w R mb M b H hok
  generalize hMoved (M.load b) b = d at MV ⊢
  have hxb := (H.cast (Q := pt px (.cells #[.pointer (some ⟨x, 0, none⟩)] 35 (0, 0)) * (pt pb (.cells #[.int .i64 b] 3 (0, 0)) * (pt pc (.cells #[.int .i64 c] 3 (0, 0)) * (pt x (.cells #[kv, .bool y] 107 (0, 0)) * (MemP 120 mb M * R))))) (by ac_rfl))
  have cx := hxb.cells
  have cb := hxb.drop.cells
  have cc := hxb.drop.drop.cells
  have cy := hxb.drop.drop.drop.cells
  have HH : Hid (Holds w _) := H
  clear H hok hxb
  go_enter Try.func49, Try.ntmps49
  go_wp2_with fail
  go_region_held3 (fun w' => w'.cell? ⟨px, 0, none⟩ = some (.pointer (some ⟨x, 0, none⟩)) ∧ w'.cell? ⟨pb, 0, none⟩ = some (.int .i64 b) ∧ w'.cell? ⟨pc, 0, none⟩ = some (.int .i64 c)) (first | exact ⟨cx 0, cb 0, cc 0⟩ | exact ⟨cx2 0, cb2 0, cc2 0⟩ | exact ⟨cx3 0, cb3 0, cc3 0⟩)
    (first | (go_at_call 48; (refine (MV.out _ _ HH.out.drew).mono ?_); rintro e w2 ⟨rfl, H2, s2⟩; have Hx := (H2.cast (Q := pt px (.cells #[.pointer (some ⟨x, 0, none⟩)] 35 (0, 0)) * (pt pb (.cells #[.int .i64 b] 3 (0, 0)) * (pt pc (.cells #[.int .i64 c] 3 (0, 0)) * (pt x (.cells #[kv, .bool y] 107 (0, 0)) * (MemP 120 mb (M.loaded b) * R))))) (by ac_rfl)); have cx2 := Hx.cells; have cb2 := Hx.drop.cells; have cc2 := Hx.drop.drop.cells; have cy2 := Hx.drop.drop.drop.cells; have fy2 := Hx.drop.drop.drop.frees; have Hs := (Hx.cast (Q := pt x (.cells #[kv, .bool y] 107 (0, 0)) * (pt px (.cells #[.pointer (some ⟨x, 0, none⟩)] 35 (0, 0)) * (pt pb (.cells #[.int .i64 b] 3 (0, 0)) * (pt pc (.cells #[.int .i64 c] 3 (0, 0)) * (MemP 120 mb (M.loaded b) * R))))) (by ac_rfl)).set 1 (.bool (d == c)); have cx3 := Hs.drop.cells; have cb3 := Hs.drop.drop.cells; have cc3 := Hs.drop.drop.drop.cells))
  go_wp2_with fail
  go_ret
  exact ⟨rfl, ((Hs.cast (Q := pt px (.cells #[.pointer (some ⟨x, 0, none⟩)] 35 (0, 0)) * (pt pb (.cells #[.int .i64 b] 3 (0, 0)) * (pt pc (.cells #[.int .i64 c] 3 (0, 0)) * (MemP 120 mb (M.loaded b) * (pt x (.cells #[kv, .bool (decide (d = c))] 107 (0, 0)) * R))))) (by simp only [List.setIfInBounds_toArray, List.set_cons_succ, List.set_cons_zero]; ac_rfl)).drop).drop.drop, ((Strm.refl w).drew.trans s2).set _ _⟩
/-! ### Step, Yes -/
set_option maxHeartbeats 2000000 in
theorem sameStep_fin (w : World) (R : HProp) (mb x : Nat) (M : MS) (y : Bool) (H : Holds w (MemP 120 mb M * (SameP x ⟨.fin, y⟩ * R))) :
    Calls Try.prog 23 #[.pointer (some ⟨x, 0, none⟩), .pointer (some ⟨mb, 0, none⟩)] w fun e w' => e = .returned (.bool true) ∧ Holds w' (MemP 120 mb M * (SameP x ⟨.fin, y⟩ * R)) ∧ Strm w w' := by
  have H1 := same_fin.1 (H.cast (Q := SameP x ⟨.fin, y⟩ * (MemP 120 mb M * R)) (by ac_rfl))
  have c1 := H1.cells
  have HH : Hid (Holds w (MemP 120 mb M * (SameP x ⟨.fin, y⟩ * R))) := H
  clear H H1
  go_enter Try.func23, Try.ntmps23
  go_wp2_with fail
  go_ret
  exact ⟨rfl, HH.out, Strm.refl _⟩
set_option maxHeartbeats 2000000 in
theorem sameStep_one (w : World) (R : HProp) (mb x : Nat) (M : MS) (a b : Int) (y : Bool) (hok : M.ok) (H : Holds w (MemP 120 mb M * (SameP x ⟨.one a b, y⟩ * R))) :
    Calls Try.prog 23 #[.pointer (some ⟨x, 0, none⟩), .pointer (some ⟨mb, 0, none⟩)] w fun e w' => e = .returned (.bool false) ∧ Holds w' (MemP 120 mb (M.loaded a) * (SameP x ⟨.two b (hMoved (M.load a) a), y⟩ * R)) ∧ Strm w w' := by
  obtain ⟨pa, pb, px, H1⟩ := same_one (H.cast (Q := SameP x ⟨.one a b, y⟩ * (MemP 120 mb M * R)) (by ac_rfl))
  have c1 := H1.cells
  have K : Hid (∀ w R, Holds w (MemP 120 mb M * (pt pa (.cells #[.int .i64 a] 3 (0, 0)) * (pt pb (.cells #[.int .i64 b] 3 (0, 0)) * (pt px (.cells #[.pointer (some ⟨x, 0, none⟩)] 35 (0, 0)) * R)))) → Calls Try.prog 47 #[.pointer (some ⟨mb, 0, none⟩), .pointer (some ⟨pa, 0, none⟩), .pointer (some ⟨pb, 0, none⟩), .pointer (some ⟨px, 0, none⟩)] w fun e w' =>
      ∃ pc, e = .returned (.func (.func 49) #[] #[.pointer (some ⟨pb, 0, none⟩), .pointer (some ⟨pc, 0, none⟩), .pointer (some ⟨px, 0, none⟩)]) ∧
        Holds w' (MemP 120 mb (M.loaded a) * (pt pb (.cells #[.int .i64 b] 3 (0, 0)) * (pt pc (.cells #[.int .i64 (hMoved (M.load a) a)] 3 (0, 0)) * (pt px (.cells #[.pointer (some ⟨x, 0, none⟩)] 35 (0, 0)) * R)))) ∧ Strm w w') := fun w R H => same1_calls w R mb x pa pb px M a b y hok H
  generalize hMoved (M.load a) a = c at K ⊢
  have HH : Hid (Holds w (MemP 120 mb M * (pt pa (.cells #[.int .i64 a] 3 (0, 0)) * (pt pb (.cells #[.int .i64 b] 3 (0, 0)) * (pt px (.cells #[.pointer (some ⟨x, 0, none⟩)] 35 (0, 0)) * (pt x (.cells #[.func (.func 47) #[] #[.pointer (some ⟨pa, 0, none⟩), .pointer (some ⟨pb, 0, none⟩), .pointer (some ⟨px, 0, none⟩)], .bool y] 107 (0, 0)) * R)))))) := H1.cast (by ac_rfl)
  clear H H1 hok
  go_enter Try.func23, Try.ntmps23
  go_wp2_with (go_at_call 47; (refine (K.out _ _ HH.out).mono ?_); rintro e w2 ⟨pc, rfl, H2, s2⟩; have H3 := H2.cast (Q := pt x (.cells #[.func (.func 47) #[] #[.pointer (some ⟨pa, 0, none⟩), .pointer (some ⟨pb, 0, none⟩), .pointer (some ⟨px, 0, none⟩)], .bool y] 107 (0, 0)) * (pt pb (.cells #[.int .i64 b] 3 (0, 0)) * (pt pc (.cells #[.int .i64 c] 3 (0, 0)) * (pt px (.cells #[.pointer (some ⟨x, 0, none⟩)] 35 (0, 0)) * (MemP 120 mb (M.loaded a) * R))))) (by ac_rfl); have c2 := H3.cells; have f2 := H3.frees; have H4 := H3.set 0 (.func (.func 49) #[] #[.pointer (some ⟨pb, 0, none⟩), .pointer (some ⟨pc, 0, none⟩), .pointer (some ⟨px, 0, none⟩)]))
  go_ret
  have H5 := same_two_mk (R := MemP 120 mb (M.loaded a) * R) (x := x) (y := y) (b := b) (c := c) (pb := pb) (pc := pc) (px := px) (H4.cast (by simp only [List.setIfInBounds_toArray, List.set_cons_zero]))
  exact ⟨rfl, H5.cast (by ac_rfl), s2.set _ _⟩
set_option maxHeartbeats 2000000 in
theorem sameStep_two (w : World) (R : HProp) (mb x : Nat) (M : MS) (b c : Int) (y : Bool) (hok : M.ok) (H : Holds w (MemP 120 mb M * (SameP x ⟨.two b c, y⟩ * R))) :
    Calls Try.prog 23 #[.pointer (some ⟨x, 0, none⟩), .pointer (some ⟨mb, 0, none⟩)] w fun e w' => e = .returned (.bool true) ∧ Holds w' (MemP 120 mb (M.loaded b) * (SameP x ⟨.fin, decide (hMoved (M.load b) b = c)⟩ * R)) ∧ Strm w w' := by
  obtain ⟨pb, pc, px, H1⟩ := same_two (H.cast (Q := SameP x ⟨.two b c, y⟩ * (MemP 120 mb M * R)) (by ac_rfl))
  have c1 := H1.cells
  have K : Hid (∀ w R, Holds w (MemP 120 mb M * (pt pb (.cells #[.int .i64 b] 3 (0, 0)) * (pt pc (.cells #[.int .i64 c] 3 (0, 0)) * (pt px (.cells #[.pointer (some ⟨x, 0, none⟩)] 35 (0, 0)) * (pt x (.cells #[.func (.func 49) #[] #[.pointer (some ⟨pb, 0, none⟩), .pointer (some ⟨pc, 0, none⟩), .pointer (some ⟨px, 0, none⟩)], .bool y] 107 (0, 0)) * R))))) → Calls Try.prog 49 #[.pointer (some ⟨mb, 0, none⟩), .pointer (some ⟨pb, 0, none⟩), .pointer (some ⟨pc, 0, none⟩), .pointer (some ⟨px, 0, none⟩)] w fun e w' =>
      e = .returned .nilFunc ∧ Holds w' (MemP 120 mb (M.loaded b) * (pt x (.cells #[.func (.func 49) #[] #[.pointer (some ⟨pb, 0, none⟩), .pointer (some ⟨pc, 0, none⟩), .pointer (some ⟨px, 0, none⟩)], .bool (decide (hMoved (M.load b) b = c))] 107 (0, 0)) * R)) ∧ Strm w w') := fun w R H => same2_calls w R mb x pb pc px M b c _ y hok H
  generalize decide (hMoved (M.load b) b = c) = z at K ⊢
  have HH : Hid (Holds w (MemP 120 mb M * (pt pb (.cells #[.int .i64 b] 3 (0, 0)) * (pt pc (.cells #[.int .i64 c] 3 (0, 0)) * (pt px (.cells #[.pointer (some ⟨x, 0, none⟩)] 35 (0, 0)) * (pt x (.cells #[.func (.func 49) #[] #[.pointer (some ⟨pb, 0, none⟩), .pointer (some ⟨pc, 0, none⟩), .pointer (some ⟨px, 0, none⟩)], .bool y] 107 (0, 0)) * R)))))) := H1.cast (by ac_rfl)
  clear H H1 hok
  go_enter Try.func23, Try.ntmps23
  go_wp2_with (go_at_call 49; (refine (K.out _ _ HH.out).mono ?_); rintro e w2 ⟨rfl, H2, s2⟩; have H3 := H2.cast (Q := pt x (.cells #[.func (.func 49) #[] #[.pointer (some ⟨pb, 0, none⟩), .pointer (some ⟨pc, 0, none⟩), .pointer (some ⟨px, 0, none⟩)], .bool z] 107 (0, 0)) * (MemP 120 mb (M.loaded b) * R)) (by ac_rfl); have c2 := H3.cells; have f2 := H3.frees; have H4 := H3.set 0 .nilFunc)
  go_ret
  have H5 := (same_fin (R := MemP 120 mb (M.loaded b) * R) (x := x) (y := z)).2 (H4.cast (by simp only [List.setIfInBounds_toArray, List.set_cons_zero]))
  exact ⟨rfl, H5.cast (by ac_rfl), s2.set _ _⟩
theorem sameStep_calls (w : World) (R : HProp) (mb x : Nat) (M : MS) (S : SS) (hok : M.ok) (H : Holds w (MemP 120 mb M * (SameP x S * R))) :
    Calls Try.prog 23 #[.pointer (some ⟨x, 0, none⟩), .pointer (some ⟨mb, 0, none⟩)] w fun e w' => e = .returned (.bool (S.step M).1.done) ∧ Holds w' (MemP 120 mb (S.step M).2 * (SameP x (S.step M).1 * R)) ∧ Strm w w' := by
  obtain ⟨k, y⟩ := S
  cases k with
  | fin => exact sameStep_fin w R mb x M y H
  | one a b => exact sameStep_one w R mb x M a b y hok H
  | two b c => exact sameStep_two w R mb x M b c y hok H
set_option maxHeartbeats 1000000 in
theorem sameYes_calls (w : World) (R : HProp) (x : Nat) (S : SS) (H : Holds w (SameP x S * R)) :
    Calls Try.prog 24 #[.pointer (some ⟨x, 0, none⟩)] w fun e w' => e = .returned (.bool (S.done && S.yes)) ∧ Holds w' (SameP x S * R) ∧ Strm w w' := by
  have HH : Hid (Holds w (SameP x S * R)) := H
  obtain ⟨k, y⟩ := S
  cases k with
  | fin =>
    have c1 := (same_fin.1 H).cells
    clear H
    go_enter Try.func24, Try.ntmps24
    go_wp2_with fail
    go_ret
    exact ⟨rfl, HH.out, Strm.refl _⟩
  | one a b =>
    obtain ⟨pa, pb, px, H1⟩ := same_one H
    have c1 := H1.cells
    clear H H1
    go_enter Try.func24, Try.ntmps24
    go_wp2_with fail
    go_ret
    exact ⟨rfl, HH.out, Strm.refl _⟩
  | two b c =>
    obtain ⟨pb, pc, px, H1⟩ := same_two H
    have c1 := H1.cells
    clear H H1
    go_enter Try.func24, Try.ntmps24
    go_wp2_with fail
    go_ret
    exact ⟨rfl, HH.out, Strm.refl _⟩
end Go.Proofs.Ytfapicccijbanaa.Mem
