/- What is proved: the machine direct.Plain as a part of the heap; contracts of NewPlain, Result, and of a Step that finds a wrong field. Conditions: stated with each contract. -/
import Derived.Test.YtfapicccijbanaaDirA
namespace Go.Proofs.Ytfapicccijbanaa.Mem
open Go Go.RowKit Go.Proofs.Ytfapicccijbanaa.Sep Go.Proofs.Ytfapicccijbanaa.Num
set_option maxRecDepth 100000
set_option linter.unusedVariables false
set_option linter.unusedSimpArgs false
attribute [local go_sem] eqlF_nil neqF_nil eqlF_fn neqF_fn
structure PS where
  op : Int
  at_ : Int
  rf : Int
  ek : Int
  en : Int
  nk : Int
  nn : Int
  mode : Int
  mark : Int
  alpha : Int
  dir : Option DS
  done : Bool
  code : Int
  vk : Int
  vn : Int
  yes : Bool
def PS.cells (S : PS) (dv : Value) : Array Value := #[.int .i64 S.op, .int .i64 S.at_, .int .i64 S.rf, .int .i64 S.ek, .int .i64 S.en, .int .i64 S.nk, .int .i64 S.nn, .int .i64 S.mode, .int .i64 S.mark, .int .i64 S.alpha, dv, .bool S.done, .int .i64 S.code, .int .i64 S.vk, .int .i64 S.vn, .bool S.yes]
def odir (dv : Value) : Option DS → HProp
  | none => fun h => dv = .pointer none ∧ emp h
  | some S => fun h => ∃ d, dv = .pointer (some ⟨d, 0, none⟩) ∧ DirP d S h
def PlainP (p : Nat) (S : PS) : HProp := fun h => ∃ dv, (pt p (.cells (S.cells dv) 101 (0, 0)) * odir dv S.dir) h
theorem plainP_open {w : World} {R : HProp} {p : Nat} {S : PS} (H : Holds w (PlainP p S * R)) : ∃ dv, Holds w (pt p (.cells (S.cells dv) 101 (0, 0)) * (odir dv S.dir * R)) := by
  obtain ⟨dv, H⟩ := holds_ex H
  exact ⟨dv, H.cast (by ac_rfl)⟩
theorem plainP_close {w : World} {R : HProp} {p : Nat} {S : PS} {dv : Value} (H : Holds w (pt p (.cells (S.cells dv) 101 (0, 0)) * (odir dv S.dir * R))) : Holds w (PlainP p S * R) := holds_ex_mk dv (H.cast (by ac_rfl))
theorem odir_none {w : World} {R : HProp} {dv : Value} : Holds w (odir dv none * R) ↔ (dv = .pointer none ∧ Holds w R) := by
  constructor
  · intro H; obtain ⟨h, H⟩ := holds_and H; exact ⟨h, H.drop⟩
  · rintro ⟨h, H⟩; exact holds_and_mk h (H.cast (star_empl _).symm)
theorem odir_some {w : World} {R : HProp} {dv : Value} {S : DS} : Holds w (odir dv (some S) * R) ↔ ∃ d, dv = .pointer (some ⟨d, 0, none⟩) ∧ Holds w (DirP d S * R) := by
  constructor
  · intro H; obtain ⟨d, H⟩ := holds_ex H; obtain ⟨h, H⟩ := holds_and H; exact ⟨d, h, H⟩
  · rintro ⟨d, h, H⟩; exact holds_ex_mk d (holds_and_mk h H)
def PS.new (op at_ rf ek en nk nn mode mark alpha : Int) : PS := ⟨op, at_, rf, ek, en, nk, nn, mode, mark, alpha, none, decide (at_ = 0), if at_ = 0 then 14 else 0, 0, 0, false⟩
set_option maxHeartbeats 2000000 in
theorem newPlain_nil (w : World) (R : HProp) (op at_ rf ek en nk nn mode mark alpha : Int) (H : Holds w R) (h : at_ = 0) :
    Calls Try.prog 27 #[.agg #[.int .i64 op, .int .i64 at_, .int .i64 rf, .int .i64 ek, .int .i64 en, .int .i64 nk, .int .i64 nn], .agg #[.int .i64 mode, .int .i64 mark, .int .i64 alpha]] w fun e w' => ∃ p, e = .returned (.pointer (some ⟨p, 0, none⟩)) ∧ Holds w' (PlainP p (PS.new op at_ rf ek en nk nn mode mark alpha) * R) ∧ Strm w w' := by
  have hd : Hid (decide (at_ = 0) = true ∧ (if at_ = 0 then (14 : Int) else 0) = 14) := by simp [Hid, h]
  have h0 : (at_ == 0) = true := by simpa using h
  have HH : Hid (Holds w R) := H
  clear H h
  go_enter Try.func27, Try.ntmps27
  go_wp2_with fail
  go_ret
  have H3 := ((HH.out.alloc (.cells #[.int .i64 op, .int .i64 at_, .int .i64 rf, .int .i64 ek, .int .i64 en, .int .i64 nk, .int .i64 nn] 61)).alloc (.cells #[.int .i64 mode, .int .i64 mark, .int .i64 alpha] 81)).alloc (.cells #[.int .i64 op, .int .i64 at_, .int .i64 rf, .int .i64 ek, .int .i64 en, .int .i64 nk, .int .i64 nn, .int .i64 mode, .int .i64 mark, .int .i64 alpha, .pointer none, .bool true, .int .i64 14, .int .i64 0, .int .i64 0, .bool false] 101)
  simp only [World.size_alloc] at H3
  have H4 := (H3.cast (Q := pt (w.heap.size + 1) (.cells #[.int .i64 mode, .int .i64 mark, .int .i64 alpha] 81) * (pt w.heap.size (.cells #[.int .i64 op, .int .i64 at_, .int .i64 rf, .int .i64 ek, .int .i64 en, .int .i64 nk, .int .i64 nn] 61) * (pt (w.heap.size + 1 + 1) (.cells #[.int .i64 op, .int .i64 at_, .int .i64 rf, .int .i64 ek, .int .i64 en, .int .i64 nk, .int .i64 nn, .int .i64 mode, .int .i64 mark, .int .i64 alpha, .pointer none, .bool true, .int .i64 14, .int .i64 0, .int .i64 0, .bool false] 101 (0, 0)) * R))) (by ac_rfl)).drop.drop
  refine ⟨w.heap.size + 1 + 1, rfl, plainP_close (dv := .pointer none) ?_, (((Strm.refl w).alloc _).alloc _).alloc _⟩
  unfold PS.new
  simp only [PS.cells]
  rw [hd.out.1, hd.out.2]
  exact (odir_none.2 ⟨rfl, H4⟩).cast (by ac_rfl)
set_option maxHeartbeats 2000000 in
theorem newPlain_go (w : World) (R : HProp) (op at_ rf ek en nk nn mode mark alpha : Int) (H : Holds w R) (h : ¬ at_ = 0) :
    Calls Try.prog 27 #[.agg #[.int .i64 op, .int .i64 at_, .int .i64 rf, .int .i64 ek, .int .i64 en, .int .i64 nk, .int .i64 nn], .agg #[.int .i64 mode, .int .i64 mark, .int .i64 alpha]] w fun e w' => ∃ p, e = .returned (.pointer (some ⟨p, 0, none⟩)) ∧ Holds w' (PlainP p (PS.new op at_ rf ek en nk nn mode mark alpha) * R) ∧ Strm w w' := by
  have hd : Hid (decide (at_ = 0) = false ∧ (if at_ = 0 then (14 : Int) else 0) = 0) := by simp [Hid, h]
  have h0 : (at_ == 0) = false := by simpa using h
  have HH : Hid (Holds w R) := H
  clear H h
  go_enter Try.func27, Try.ntmps27
  go_wp2_with fail
  go_ret
  have H3 := ((HH.out.alloc (.cells #[.int .i64 op, .int .i64 at_, .int .i64 rf, .int .i64 ek, .int .i64 en, .int .i64 nk, .int .i64 nn] 61)).alloc (.cells #[.int .i64 mode, .int .i64 mark, .int .i64 alpha] 81)).alloc (.cells #[.int .i64 op, .int .i64 at_, .int .i64 rf, .int .i64 ek, .int .i64 en, .int .i64 nk, .int .i64 nn, .int .i64 mode, .int .i64 mark, .int .i64 alpha, .pointer none, .bool false, .int .i64 0, .int .i64 0, .int .i64 0, .bool false] 101)
  simp only [World.size_alloc] at H3
  have H4 := (H3.cast (Q := pt (w.heap.size + 1) (.cells #[.int .i64 mode, .int .i64 mark, .int .i64 alpha] 81) * (pt w.heap.size (.cells #[.int .i64 op, .int .i64 at_, .int .i64 rf, .int .i64 ek, .int .i64 en, .int .i64 nk, .int .i64 nn] 61) * (pt (w.heap.size + 1 + 1) (.cells #[.int .i64 op, .int .i64 at_, .int .i64 rf, .int .i64 ek, .int .i64 en, .int .i64 nk, .int .i64 nn, .int .i64 mode, .int .i64 mark, .int .i64 alpha, .pointer none, .bool false, .int .i64 0, .int .i64 0, .int .i64 0, .bool false] 101 (0, 0)) * R))) (by ac_rfl)).drop.drop
  refine ⟨w.heap.size + 1 + 1, rfl, plainP_close (dv := .pointer none) ?_, (((Strm.refl w).alloc _).alloc _).alloc _⟩
  unfold PS.new
  simp only [PS.cells]
  rw [hd.out.1, hd.out.2]
  exact (odir_none.2 ⟨rfl, H4⟩).cast (by ac_rfl)
theorem newPlain_calls (w : World) (R : HProp) (op at_ rf ek en nk nn mode mark alpha : Int) (H : Holds w R) :
    Calls Try.prog 27 #[.agg #[.int .i64 op, .int .i64 at_, .int .i64 rf, .int .i64 ek, .int .i64 en, .int .i64 nk, .int .i64 nn], .agg #[.int .i64 mode, .int .i64 mark, .int .i64 alpha]] w fun e w' => ∃ p, e = .returned (.pointer (some ⟨p, 0, none⟩)) ∧ Holds w' (PlainP p (PS.new op at_ rf ek en nk nn mode mark alpha) * R) ∧ Strm w w' := by
  by_cases h : at_ = 0
  · exact newPlain_nil w R op at_ rf ek en nk nn mode mark alpha H h
  · exact newPlain_go w R op at_ rf ek en nk nn mode mark alpha H h
def PS.result (S : PS) : Value := if S.done then .agg #[.int .i64 S.code, .int .i64 S.vk, .int .i64 S.vn, .bool S.yes] else .agg #[.int .i64 0, .int .i64 0, .int .i64 0, .bool false]
set_option maxHeartbeats 2000000 in
theorem plainResult_calls (w : World) (R : HProp) (p : Nat) (S : PS) (H : Holds w (PlainP p S * R)) :
    Calls Try.prog 16 #[.pointer (some ⟨p, 0, none⟩)] w (Ret w S.result) := by
  obtain ⟨dv, H⟩ := plainP_open H
  have c1 := H.cells
  have hd := H.lt
  clear H
  obtain ⟨op, at_, rf, ek, en, nk, nn, mode, mark, alpha, dir, done, code, vk, vn, yes⟩ := S
  simp only [PS.cells] at c1
  unfold PS.result
  cases done with
  | true =>
    simp only [if_true]
    go_enter Try.func16, Try.ntmps16
    go_wp2_with fail
    exact bodyPost_ret (v := .agg #[.int .i64 code, .int .i64 vk, .int .i64 vn, .bool yes]) (by simp [results, Try.results16, go_sem]) rfl ⟨rfl, (Below.refl _ _).alloc (Nat.le_refl _) _⟩
  | false =>
    simp only [Bool.false_eq_true, if_false]
    go_enter Try.func16, Try.ntmps16
    go_wp2_with fail
    exact bodyPost_ret (v := .agg #[.int .i64 0, .int .i64 0, .int .i64 0, .bool false]) (by simp [results, Try.results16, go_sem]) rfl ⟨rfl, (Below.refl _ _).alloc (Nat.le_refl _) _⟩
/-! ### a Step that finds a wrong field -/
set_option maxHeartbeats 4000000 in
theorem plainStep_err (w : World) (R : HProp) (mb p : Nat) (M : MS) (S : PS) (hok : M.ok) (hd : S.done = false) (hn : S.dir = none) (hf : S.rf < 0 ∨ (HV.of (M.load S.at_)).ct ≤ S.rf) (H : Holds w (MemP 120 mb M * (PlainP p S * R))) :
    Calls Try.prog 14 #[.pointer (some ⟨p, 0, none⟩), .pointer (some ⟨mb, 0, none⟩)] w fun e w' => e = .returned (.bool true) ∧ Holds w' (MemP 120 mb (M.loaded S.at_) * (PlainP p { S with done := true, code := 15 } * R)) ∧ Strm w w' := by
  obtain ⟨dv, H1⟩ := plainP_open (H.cast (Q := PlainP p S * (MemP 120 mb M * R)) (by ac_rfl))
  obtain ⟨op, at_, rf, ek, en, nk, nn, mode, mark, alpha, dir, done, code, vk, vn, yes⟩ := S
  simp only at hd hn hf
  subst hd hn
  have H2 := odir_none.1 (H1.cast (Q := odir dv none * (pt p (.cells (PS.cells ⟨op, at_, rf, ek, en, nk, nn, mode, mark, alpha, none, false, code, vk, vn, yes⟩ dv) 101 (0, 0)) * (MemP 120 mb M * R))) (by ac_rfl))
  obtain ⟨rfl, H2⟩ := H2
  simp only [PS.cells] at H2 ⊢
  have c1 := H2.cells
  have hp := H2.lt
  have HH : Hid (Holds w (MemP 120 mb M * (pt p (.cells #[.int .i64 op, .int .i64 at_, .int .i64 rf, .int .i64 ek, .int .i64 en, .int .i64 nk, .int .i64 nn, .int .i64 mode, .int .i64 mark, .int .i64 alpha, .pointer none, .bool false, .int .i64 code, .int .i64 vk, .int .i64 vn, .bool yes] 101 (0, 0)) * R))) := H2.cast (by ac_rfl)
  have L : Hid (∀ w R, Holds w (MemP 120 mb M * R) → Calls Try.prog 18 #[.pointer (some ⟨mb, 0, none⟩), .int .i64 at_] w fun e w' => e = .returned (.int .u64 (M.load at_)) ∧ Holds w' (MemP 120 mb (M.loaded at_) * R) ∧ Strm w w') := fun w R H => load_calls w R mb M at_ H hok
  have V : Hid (∀ w, Calls Try.prog 38 #[.int .u64 (M.load at_)] w (Ret w (HV.of (M.load at_)).agg)) := fun w => headOf_calls _ w (load_rng M hok at_).1 (load_rng M hok at_).2
  have hfit := (HV.of_fits (M.load at_)).ct
  generalize M.load at_ = x at L V hf hfit
  obtain ⟨hv, hhv⟩ : ∃ v, HV.of x = v := ⟨_, rfl⟩
  rw [hhv] at V hf hfit
  clear hhv H H1 H2 hok
  obtain ⟨a1, a2, a3, a4, a5, a6, a7⟩ := hv
  simp only [HV.agg] at V hf hfit
  by_cases hneg : rf < 0
  · clear hf
    have hneg' : decide (rf < 0) = true := by simpa using hneg
    go_enter Try.func14, Try.ntmps14
    go_wp2_with (first | (go_at_call 18; (refine (L.out _ _ HH.out).mono ?_); rintro e w2 ⟨rfl, H2, s2⟩; have H3 := H2.cast (Q := pt p (.cells #[.int .i64 op, .int .i64 at_, .int .i64 rf, .int .i64 ek, .int .i64 en, .int .i64 nk, .int .i64 nn, .int .i64 mode, .int .i64 mark, .int .i64 alpha, .pointer none, .bool false, .int .i64 code, .int .i64 vk, .int .i64 vn, .bool yes] 101 (0, 0)) * (MemP 120 mb (M.loaded at_) * R)) (by ac_rfl)) | (go_at_call 38; (with_reducible refine (V.out _).mono ?_); rintro e w3 ⟨rfl, hb⟩; have H4 := H3.kept hb; have c4 := H4.cells; have f4 := H4.frees; have hp4 := H4.lt; have s4 := s2.trans (Strm.below hb); clear hb; have H5 := (H4.set 11 (.bool true)).set 12 (.int .i64 15)))
    go_quiet (fail)
    go_wp2_with fail
    go_ret
    have H6 := (((((H4.alloc (.cells #[.int .i64 a1, .int .i64 a2, .int .i64 a3, .int .i64 a4, .int .i64 a5, .int .i64 a6, .int .i64 a7] 87)).cast (Q := pt p (.cells #[.int .i64 op, .int .i64 at_, .int .i64 rf, .int .i64 ek, .int .i64 en, .int .i64 nk, .int .i64 nn, .int .i64 mode, .int .i64 mark, .int .i64 alpha, .pointer none, .bool false, .int .i64 code, .int .i64 vk, .int .i64 vn, .bool yes] 101 (0, 0)) * (pt w3.heap.size (.cells #[.int .i64 a1, .int .i64 a2, .int .i64 a3, .int .i64 a4, .int .i64 a5, .int .i64 a6, .int .i64 a7] 87) * (MemP 120 mb (M.loaded at_) * R))) (by ac_rfl)).drewN nq).set 11 (.bool true)).set 12 (.int .i64 15))
    have H7 := (H6.cast (Q := pt w3.heap.size (.cells #[.int .i64 a1, .int .i64 a2, .int .i64 a3, .int .i64 a4, .int .i64 a5, .int .i64 a6, .int .i64 a7] 87) * (pt p (.cells #[.int .i64 op, .int .i64 at_, .int .i64 rf, .int .i64 ek, .int .i64 en, .int .i64 nk, .int .i64 nn, .int .i64 mode, .int .i64 mark, .int .i64 alpha, .pointer none, .bool true, .int .i64 15, .int .i64 vk, .int .i64 vn, .bool yes] 101 (0, 0)) * (MemP 120 mb (M.loaded at_) * R))) (by simp only [List.setIfInBounds_toArray, List.set_cons_succ, List.set_cons_zero]; ac_rfl)).drop
    have H8 := plainP_close (p := p) (S := ⟨op, at_, rf, ek, en, nk, nn, mode, mark, alpha, none, true, 15, vk, vn, yes⟩) (R := MemP 120 mb (M.loaded at_) * R) (dv := .pointer none) ((odir_none.2 ⟨rfl, H7⟩).cast (by simp only [PS.cells]; ac_rfl))
    exact ⟨rfl, H8.cast (by ac_rfl), ((((s4.alloc _).drewN nq).set _ _).set _ _)⟩
  · have hf' : a3 ≤ rf := by omega
    have hneg' : decide (rf < 0) = false := by simpa using hneg
    clear hf
    go_enter Try.func14, Try.ntmps14
    go_wp2_with (first | (go_at_call 18; (refine (L.out _ _ HH.out).mono ?_); rintro e w2 ⟨rfl, H2, s2⟩; have H3 := H2.cast (Q := pt p (.cells #[.int .i64 op, .int .i64 at_, .int .i64 rf, .int .i64 ek, .int .i64 en, .int .i64 nk, .int .i64 nn, .int .i64 mode, .int .i64 mark, .int .i64 alpha, .pointer none, .bool false, .int .i64 code, .int .i64 vk, .int .i64 vn, .bool yes] 101 (0, 0)) * (MemP 120 mb (M.loaded at_) * R)) (by ac_rfl)) | (go_at_call 38; (with_reducible refine (V.out _).mono ?_); rintro e w3 ⟨rfl, hb⟩; have H4 := H3.kept hb; have c4 := H4.cells; have f4 := H4.frees; have hp4 := H4.lt; have s4 := s2.trans (Strm.below hb); clear hb; have H5 := (H4.set 11 (.bool true)).set 12 (.int .i64 15)))
    go_quiet (fail)
    go_wp2_with fail
    go_ret
    have H6 := (((((H4.alloc (.cells #[.int .i64 a1, .int .i64 a2, .int .i64 a3, .int .i64 a4, .int .i64 a5, .int .i64 a6, .int .i64 a7] 87)).cast (Q := pt p (.cells #[.int .i64 op, .int .i64 at_, .int .i64 rf, .int .i64 ek, .int .i64 en, .int .i64 nk, .int .i64 nn, .int .i64 mode, .int .i64 mark, .int .i64 alpha, .pointer none, .bool false, .int .i64 code, .int .i64 vk, .int .i64 vn, .bool yes] 101 (0, 0)) * (pt w3.heap.size (.cells #[.int .i64 a1, .int .i64 a2, .int .i64 a3, .int .i64 a4, .int .i64 a5, .int .i64 a6, .int .i64 a7] 87) * (MemP 120 mb (M.loaded at_) * R))) (by ac_rfl)).drewN nq).set 11 (.bool true)).set 12 (.int .i64 15))
    have H7 := (H6.cast (Q := pt w3.heap.size (.cells #[.int .i64 a1, .int .i64 a2, .int .i64 a3, .int .i64 a4, .int .i64 a5, .int .i64 a6, .int .i64 a7] 87) * (pt p (.cells #[.int .i64 op, .int .i64 at_, .int .i64 rf, .int .i64 ek, .int .i64 en, .int .i64 nk, .int .i64 nn, .int .i64 mode, .int .i64 mark, .int .i64 alpha, .pointer none, .bool true, .int .i64 15, .int .i64 vk, .int .i64 vn, .bool yes] 101 (0, 0)) * (MemP 120 mb (M.loaded at_) * R))) (by simp only [List.setIfInBounds_toArray, List.set_cons_succ, List.set_cons_zero]; ac_rfl)).drop
    have H8 := plainP_close (p := p) (S := ⟨op, at_, rf, ek, en, nk, nn, mode, mark, alpha, none, true, 15, vk, vn, yes⟩) (R := MemP 120 mb (M.loaded at_) * R) (dv := .pointer none) ((odir_none.2 ⟨rfl, H7⟩).cast (by simp only [PS.cells]; ac_rfl))
    exact ⟨rfl, H8.cast (by ac_rfl), ((((s4.alloc _).drewN nq).set _ _).set _ _)⟩
end Go.Proofs.Ytfapicccijbanaa.Mem
