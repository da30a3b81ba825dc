/- What is proved: contracts of the reference's memory (package flitref04): there, told, Load, Store. Conditions: stated with each contract. -/
import Derived.Test.YtmmpnjcmaodkcaaMemNew
namespace Go.Proofs.Ytmmpnjcmaodkcaa.Mem
open Go Go.RowKit Go.Proofs.Ytmmpnjcmaodkcaa.Sep
set_option maxRecDepth 100000
set_option linter.unusedVariables false
set_option linter.unusedSimpArgs false
set_option maxHeartbeats 1000000 in
theorem refThere_calls (w : World) (R : HProp) (mb : Nat) (M : MS) (a : Int) (H : Holds w (MemP 50 mb M * R)) (hok : M.ok) :
    Calls Try.prog 52 #[.pointer (some ⟨mb, 0, none⟩), .int .i64 a] w fun e w' => e = .returned (.bool (M.there a)) ∧ w = w' := by
  obtain ⟨wb, tv, xs, H⟩ := memP_open H
  have hc0 := H.cell 0 (.slice (some ⟨wb, 0, none⟩) M.ws.length M.ws.length) rfl
  have hl := hok.len
  clear H hok
  by_cases h0 : 0 ≤ a
  · by_cases h1 : a < M.ws.length
    · have HT : Hid (M.there a = true) := by simp [Hid, MS.there, h0, h1]
      go_enter Try.func52, Try.ntmps52
      go_wp2_with fail
      go_ret
      exact ⟨by (have e := HT.out; rw [e]) <;> simp [h0, h1], rfl⟩
    · have HT : Hid (M.there a = false) := by simp [Hid, MS.there, h0]; omega
      go_enter Try.func52, Try.ntmps52
      go_wp2_with fail
      go_ret
      exact ⟨by (have e := HT.out; rw [e]) <;> simp <;> omega, rfl⟩
  · have HT : Hid (M.there a = false) := by simp [Hid, MS.there, h0]
    have h0' : decide (0 ≤ a) = false := by simpa using h0
    go_enter Try.func52, Try.ntmps52
    go_wp2_with fail
    go_ret
    exact ⟨by rw [HT.out]; rfl, rfl⟩
set_option maxHeartbeats 1000000 in
theorem told_in (w : World) (R : HProp) (mb : Nat) (M : MS) (op a : Int) (ok : Bool) (H : Holds w (MemP 50 mb M * R)) (hok : M.ok) :
    Calls Try.prog 53 #[.pointer (some ⟨mb, 0, none⟩), .int .i64 op, .int .i64 a, .bool true, .bool ok] w fun e w' => e = .returned (.tuple #[]) ∧ Holds w' (MemP 50 mb (M.acc true) * R) ∧ Strm w w' := by
  obtain ⟨wb, tv, xs, H⟩ := memP_open H
  obtain ⟨hl, hwd, hcn, htn, hnn⟩ := hok
  clear hwd
  obtain ⟨i0, hi, hz0, hz1, hz2⟩ := info_parts info127
  have hc1 := H.cell 1 (.int .i64 (M.cnt : Int)) rfl
  have hc2 := H.cell 2 (.int .i64 (M.tr : Int)) rfl
  have hc3 := H.cell 3 tv rfl
  have hf1 := H.free 1
  have hf2 := H.free 2
  have H3 := (H.set 1 (.int .i64 ((M.cnt : Int) + 1))).alloc (.cells #[.int .i64 op, .int .i64 a, .bool ok] 128)
  have H4 := H3.drop.cast (Q := Row 128 3 tv M.n xs * (pt mb (.cells #[.slice (some ⟨wb, 0, none⟩) M.ws.length M.ws.length, .int .i64 ((M.cnt : Int) + 1), .int .i64 (M.tr : Int), tv] 50 (0, 0)) * (pt wb (.cells (W M.ws) 38 (0, 0)) * R))) (by simp only [List.setIfInBounds_toArray, List.set_cons_succ, List.set_cons_zero]; ac_rfl)
  have k1 : Hid (∀ j u, [Value.int .i64 op, .int .i64 a, .bool ok][j]? = some u → ((w.setCell ⟨mb, 1, none⟩ (.int .i64 ((M.cnt : Int) + 1))).alloc (.cells #[.int .i64 op, .int .i64 a, .bool ok] 128)).cell? ((⟨w.heap.size, 0, none⟩ : Addr).add j) = some u) := news_alloc (w.setCell ⟨mb, 1, none⟩ (.int .i64 ((M.cnt : Int) + 1))) [.int .i64 op, .int .i64 a, .bool ok] _ _ (by simp [World.setCell])
  have k2 : Hid (∀ u ∈ [Value.int .i64 op, .int .i64 a, .bool ok], u.oneCell' = true) := by intro u hu; simp at hu; rcases hu with rfl | rfl | rfl <;> rfl
  have k3 : Hid (M.n + 1 ≤ maxLen) := by unfold maxLen Hid; omega
  go_enter Try.func53, Try.ntmps53
  go_wp2_with (at_builtin; refine wpList_append_row _ rfl (.tmp 30) (.tmp 35) 48 rfl 128 i0 _ 3 24 Try.underlying48 hi hz0 hz1 hz2 rfl _ tv M.n xs H4 rfl ⟨w.heap.size, 0, none⟩ 1 1 [.int .i64 op, .int .i64 a, .bool ok] rfl rfl k1.out k2.out (by omega) k3.out (by omega) ?_)
  clear H3 H4 hc1 hc2 hc3 hf1 hf2 k1 k2 k3 H
  intro ao c' w5 H5 s5
  have H6 := H5.cast (Q := pt mb (.cells #[.slice (some ⟨wb, 0, none⟩) M.ws.length M.ws.length, .int .i64 ((M.cnt : Int) + 1), .int .i64 (M.tr : Int), tv] 50 (0, 0)) * (pt wb (.cells (W M.ws) 38 (0, 0)) * (Row 128 3 (.slice ao (M.n + 1) c') (M.n + 1) (xs ++ [.int .i64 op, .int .i64 a, .bool ok]) * R))) (by ac_rfl)
  have hc3 := H6.cell 3 tv rfl
  have hf3 := H6.free 3
  have H7 := H6.set 3 (.slice ao (M.n + 1) c')
  go_wp2_with fail
  go_end0
  refine ⟨rfl, memP_close (wb := wb) (tv := .slice ao (M.n + 1) c') (xs := xs ++ [.int .i64 op, .int .i64 a, .bool ok]) (H7.cast ?_), ((((Strm.refl w).set _ _).alloc _).trans s5).set _ _⟩
  simp only [List.setIfInBounds_toArray, List.set_cons_succ, List.set_cons_zero]
  rfl
set_option maxHeartbeats 1000000 in
theorem told_out (w : World) (R : HProp) (mb : Nat) (M : MS) (op a : Int) (ok : Bool) (H : Holds w (MemP 50 mb M * R)) (hok : M.ok) :
    Calls Try.prog 53 #[.pointer (some ⟨mb, 0, none⟩), .int .i64 op, .int .i64 a, .bool false, .bool ok] w fun e w' => e = .returned (.tuple #[]) ∧ Holds w' (MemP 50 mb (M.acc false) * R) ∧ Strm w w' := by
  obtain ⟨wb, tv, xs, H⟩ := memP_open H
  obtain ⟨hl, hwd, hcn, htn, hnn⟩ := hok
  clear hwd
  obtain ⟨i0, hi, hz0, hz1, hz2⟩ := info_parts info127
  have hc1 := H.cell 1 (.int .i64 (M.cnt : Int)) rfl
  have hc2 := H.cell 2 (.int .i64 (M.tr : Int)) rfl
  have hc3 := H.cell 3 tv rfl
  have hf1 := H.free 1
  have hf2 := H.free 2
  have H3 := ((H.set 1 (.int .i64 ((M.cnt : Int) + 1))).set 2 (.int .i64 ((M.tr : Int) + 1))).alloc (.cells #[.int .i64 op, .int .i64 a, .bool ok] 128)
  have H4 := H3.drop.cast (Q := Row 128 3 tv M.n xs * (pt mb (.cells #[.slice (some ⟨wb, 0, none⟩) M.ws.length M.ws.length, .int .i64 ((M.cnt : Int) + 1), .int .i64 ((M.tr : Int) + 1), tv] 50 (0, 0)) * (pt wb (.cells (W M.ws) 38 (0, 0)) * R))) (by simp only [List.setIfInBounds_toArray, List.set_cons_succ, List.set_cons_zero]; ac_rfl)
  have k1 : Hid (∀ j u, [Value.int .i64 op, .int .i64 a, .bool ok][j]? = some u → (((w.setCell ⟨mb, 1, none⟩ (.int .i64 ((M.cnt : Int) + 1))).setCell ⟨mb, 2, none⟩ (.int .i64 ((M.tr : Int) + 1))).alloc (.cells #[.int .i64 op, .int .i64 a, .bool ok] 128)).cell? ((⟨w.heap.size, 0, none⟩ : Addr).add j) = some u) := news_alloc ((w.setCell ⟨mb, 1, none⟩ (.int .i64 ((M.cnt : Int) + 1))).setCell ⟨mb, 2, none⟩ (.int .i64 ((M.tr : Int) + 1))) [.int .i64 op, .int .i64 a, .bool ok] _ _ (by simp [World.setCell])
  have k2 : Hid (∀ u ∈ [Value.int .i64 op, .int .i64 a, .bool ok], u.oneCell' = true) := by intro u hu; simp at hu; rcases hu with rfl | rfl | rfl <;> rfl
  have k3 : Hid (M.n + 1 ≤ maxLen) := by unfold maxLen Hid; omega
  go_enter Try.func53, Try.ntmps53
  go_wp2_with (at_builtin; refine wpList_append_row _ rfl (.tmp 30) (.tmp 35) 48 rfl 128 i0 _ 3 24 Try.underlying48 hi hz0 hz1 hz2 rfl _ tv M.n xs H4 rfl ⟨w.heap.size, 0, none⟩ 1 1 [.int .i64 op, .int .i64 a, .bool ok] rfl rfl k1.out k2.out (by omega) k3.out (by omega) ?_)
  clear H3 H4 hc1 hc2 hc3 hf1 hf2 k1 k2 k3 H
  intro ao c' w5 H5 s5
  have H6 := H5.cast (Q := pt mb (.cells #[.slice (some ⟨wb, 0, none⟩) M.ws.length M.ws.length, .int .i64 ((M.cnt : Int) + 1), .int .i64 ((M.tr : Int) + 1), tv] 50 (0, 0)) * (pt wb (.cells (W M.ws) 38 (0, 0)) * (Row 128 3 (.slice ao (M.n + 1) c') (M.n + 1) (xs ++ [.int .i64 op, .int .i64 a, .bool ok]) * R))) (by ac_rfl)
  have hc3 := H6.cell 3 tv rfl
  have hf3 := H6.free 3
  have H7 := H6.set 3 (.slice ao (M.n + 1) c')
  go_wp2_with fail
  go_end0
  refine ⟨rfl, memP_close (wb := wb) (tv := .slice ao (M.n + 1) c') (xs := xs ++ [.int .i64 op, .int .i64 a, .bool ok]) (H7.cast ?_), (((((Strm.refl w).set _ _).set _ _).alloc _).trans s5).set _ _⟩
  simp only [List.setIfInBounds_toArray, List.set_cons_succ, List.set_cons_zero]
  rfl
theorem told_calls (w : World) (R : HProp) (mb : Nat) (M : MS) (op a : Int) (b ok : Bool) (H : Holds w (MemP 50 mb M * R)) (hok : M.ok) :
    Calls Try.prog 53 #[.pointer (some ⟨mb, 0, none⟩), .int .i64 op, .int .i64 a, .bool b, .bool ok] w fun e w' => e = .returned (.tuple #[]) ∧ Holds w' (MemP 50 mb (M.acc b) * R) ∧ Strm w w' := by
  cases b
  · exact told_out w R mb M op a ok H hok
  · exact told_in w R mb M op a ok H hok
theorem there_cases (M : MS) (a : Int) : (M.there a = true ∧ 0 ≤ a ∧ a < M.ws.length) ∨ (M.there a = false ∧ ¬ (0 ≤ a ∧ a < M.ws.length)) := by
  by_cases h : M.there a = true
  · exact Or.inl ⟨h, (there_iff M a).1 h⟩
  · rw [Bool.not_eq_true] at h
    exact Or.inr ⟨h, fun x => by rw [(there_iff M a).2 x] at h; cases h⟩
set_option maxHeartbeats 1000000 in
theorem refStore_calls (w : World) (R : HProp) (mb : Nat) (M : MS) (a x : Int) (H : Holds w (MemP 50 mb M * R)) (hok : M.ok) :
    Calls Try.prog 25 #[.pointer (some ⟨mb, 0, none⟩), .int .i64 a, .int .u64 x] w fun e w' => e = .returned (.tuple #[]) ∧ Holds w' (MemP 50 mb (M.store a x) * R) ∧ Strm w w' := by
  have HT : Hid (∀ w, Holds w (MemP 50 mb M * R) → Calls Try.prog 52 #[.pointer (some ⟨mb, 0, none⟩), .int .i64 a] w fun e w' => e = .returned (.bool (M.there a)) ∧ w = w') := fun w H => refThere_calls w R mb M a H hok
  have HO : Hid (∀ w b ok, Holds w (MemP 50 mb M * R) → Calls Try.prog 53 #[.pointer (some ⟨mb, 0, none⟩), .int .i64 2, .int .i64 a, .bool b, .bool ok] w fun e w' => e = .returned (.tuple #[]) ∧ Holds w' (MemP 50 mb (M.acc b) * R) ∧ Strm w w') := fun w b ok H => told_calls w R mb M 2 a b ok H hok
  have HH : Hid (Holds w (MemP 50 mb M * R)) := H
  have hl := hok.len
  clear H hok
  rcases there_cases M a with ⟨h, h0, h1⟩ | ⟨h, hn⟩
  · have HS : Hid (M.store a x = ({ M with ws := M.ws.set a.toNat x } : MS).acc true) := by simp [Hid, MS.store, MS.put, h]
    go_enter Try.func25, Try.ntmps25
    go_wp2_with (first | (go_at_call 52; refine (HT.out _ HH.out).mono ?_; rintro e w2 ⟨rfl, rfl⟩) | (go_at_call 53; refine (HO.out _ true true HH.out).mono ?_; rintro e w2 ⟨rfl, H2, s2⟩; obtain ⟨wb, tv, xs, H3⟩ := memP_open H2; have hc0 : w2.cell? ⟨mb, 0, none⟩ = some (.slice (some ⟨wb, 0, none⟩) M.ws.length M.ws.length) := H3.cell 0 _ rfl; have H4 := H3.cast (Q := pt wb (.cells (W M.ws) 38 (0, 0)) * (pt mb (.cells #[.slice (some ⟨wb, 0, none⟩) M.ws.length M.ws.length, .int .i64 ((M.acc true).cnt : Int), .int .i64 ((M.acc true).tr : Int), tv] 50 (0, 0)) * (Row 128 3 tv (M.acc true).n xs * R))) (by unfold MS.acc; ac_rfl); obtain ⟨y, hcw⟩ : ∃ y, w2.cell? ⟨wb, a.toNat, none⟩ = some (.int .u64 y) := ⟨_, H4.cell a.toNat _ (W_get _ _ (by omega))⟩; have hfw := H4.free a.toNat; have H5 := H4.set a.toNat (.int .u64 x)))
    go_end0
    refine ⟨rfl, ?_, s2.set _ _⟩
    rw [HS.out]
    rw [W_set] at H5
    refine memP_close (wb := wb) (tv := tv) (xs := xs) (H5.cast ?_)
    simp only [MS.acc, List.length_set]
    ac_rfl
  · have HS : Hid (M.store a x = M.acc false) := by simp [Hid, MS.store, MS.put, h]
    go_enter Try.func25, Try.ntmps25
    go_wp2_with (first | (go_at_call 52; refine (HT.out _ HH.out).mono ?_; rintro e w2 ⟨rfl, rfl⟩) | (go_at_call 53; refine (HO.out _ false false HH.out).mono ?_; rintro e w2 ⟨rfl, H2, s2⟩))
    go_end0
    exact ⟨rfl, by rw [HS.out]; exact H2, s2⟩
end Go.Proofs.Ytmmpnjcmaodkcaa.Mem
