/- What is proved: the texts on which the statement's own texts stand. Conditions: stated with each lemma. -/
import Derived.Test.YtmmpnjcmaodkcaaM1
import Derived.Laws.MakeOwn
import Derived.Test.YtmmpnjcmaodkcaaM0
import Derived.Test.YtmmpnjcmaodkcaaProg
/- What is proved: contracts of mem.New and flitref04.New: a memory of n words of nought. Conditions: 1 to 4096 words. -/
namespace Go.Proofs.Ytmmpnjcmaodkcaa.Mem
open Go Go.RowKit Go.Proofs.Ytmmpnjcmaodkcaa.Sep
set_option maxRecDepth 100000
set_option linter.unusedVariables false
set_option linter.unusedSimpArgs false
theorem info48 : (Try.prog.info? 38).map (fun i => (i.zero, i.size, i.bytes)) = some (some (.int .u64 0), 1, 8) := by kernel_rfl
def zeros (n : Nat) : List Int := List.replicate n 0
def MS.new (n : Nat) : MS := ⟨zeros n, 0, 0, 0⟩
theorem new_ok (n : Nat) (h : n ≤ 4096) : (MS.new n).ok := by
  refine ⟨by simp [MS.new, zeros]; omega, fun x hx => ?_, by simp [MS.new], by simp [MS.new], by simp [MS.new]⟩
  have : x = 0 := by simpa [MS.new, zeros] using (List.eq_of_mem_replicate hx)
  omega
theorem made_zeros (n : Nat) : madeCells #[Value.int .u64 0] (n * 1) = W (zeros n) := by
  unfold madeCells W zeros
  apply Array.ext
  · simp
  · intro i h1 h2; simp [Nat.mod_one]
theorem make_run (n : Nat) (h : n ≤ 4096) (w : World) :
    (Instr.makeSlice 47 (.int .i64 (n : Int)) (.int .i64 (n : Int))).run Try.prog w = .ok (.slice (some ⟨w.heap.size, 0, none⟩) n n) (w.alloc (.cells (W (zeros n)) 38)) := by
  obtain ⟨i0, hi, hz0, hz1, hz2⟩ := info_parts info48
  have := run_make (P := Try.prog) w 47 38 i0 (.int .u64 0) Try.underlying47 hi hz0 .i64 .i64 n n (by omega) (by omega) (by rw [hz2]; omega) (by omega)
  rw [hz1] at this
  simp only [Int.toNat_natCast, Value.cells, made_zeros] at this
  exact this
set_option maxHeartbeats 1000000 in
theorem memNew_calls (w : World) (R : HProp) (n : Nat) (h0 : 1 ≤ n) (h : n ≤ 4096) (H : Holds w R) :
    Calls Try.prog 32 #[.int .i64 (n : Int)] w fun e w' => ∃ mb, e = .returned (.tuple #[.pointer (some ⟨mb, 0, none⟩), .int .i64 0]) ∧ Holds w' (MemP 101 mb (MS.new n) * R) ∧ Strm w w' := by
  have hmk := make_run n h
  have H2 := (H.alloc (.cells (W (zeros n)) 38)).alloc (.cells #[.slice (some ⟨w.heap.size, 0, none⟩) n n, .int .i64 0, .int .i64 0, .slice none 0 0] 101)
  clear H
  go_enter Try.func32, Try.ntmps32
  go_wp2_with fail
  go_ret2
  refine ⟨w.heap.size + 1, rfl, ?_, ((Strm.refl w).alloc _).alloc _⟩
  refine memP_close (wb := w.heap.size) (tv := .slice none 0 0) (xs := []) ?_
  have hz : (MS.new n).ws.length = n := by simp [MS.new, zeros]
  rw [hz]
  have e : ∀ R, (Row 128 3 (.slice none 0 0) 0 [] * R) = (Row 128 3 (.slice none 0 0) 0 [] * R) := fun _ => rfl
  refine (H2.cast (star_emp _).symm).mono ?_
  intro h hh
  have hh2 : ((pt (w.heap.size + 1) (.cells #[.slice (some ⟨w.heap.size, 0, none⟩) n n, .int .i64 0, .int .i64 0, .slice none 0 0] 101 (0, 0)) * (pt w.heap.size (.cells (W (zeros n)) 38 (0, 0)) * (emp * R)))) h := by
    have : ((pt (w.alloc (.cells (W (zeros n)) 38)).heap.size (.cells #[.slice (some ⟨w.heap.size, 0, none⟩) n n, .int .i64 0, .int .i64 0, .slice none 0 0] 101) * (pt w.heap.size (.cells (W (zeros n)) 38) * R)) * emp) = ((pt (w.heap.size + 1) (.cells #[.slice (some ⟨w.heap.size, 0, none⟩) n n, .int .i64 0, .int .i64 0, .slice none 0 0] 101 (0, 0)) * (pt w.heap.size (.cells (W (zeros n)) 38 (0, 0)) * (emp * R)))) := by
      simp only [World.size_alloc]; ac_rfl
    rw [← this]; exact hh
  exact star_mono (fun _ a => a) (star_mono (fun _ a => a) (star_mono (fun h _ => row_nil _ _ h) (fun _ a => a))) h hh2
set_option maxHeartbeats 1000000 in
theorem refNew_calls (w : World) (R : HProp) (n : Nat) (h0 : 1 ≤ n) (h : n ≤ 4096) (H : Holds w R) :
    Calls Try.prog 33 #[.int .i64 (n : Int)] w fun e w' => ∃ mb, e = .returned (.tuple #[.pointer (some ⟨mb, 0, none⟩), .int .i64 0]) ∧ Holds w' (MemP 50 mb (MS.new n) * R) ∧ Strm w w' := by
  have hmk := make_run n h
  have H2 := (H.alloc (.cells (W (zeros n)) 38)).alloc (.cells #[.slice (some ⟨w.heap.size, 0, none⟩) n n, .int .i64 0, .int .i64 0, .slice none 0 0] 50)
  clear H
  go_enter Try.func33, Try.ntmps33
  go_wp2_with fail
  go_ret2
  refine ⟨w.heap.size + 1, rfl, ?_, ((Strm.refl w).alloc _).alloc _⟩
  refine memP_close (wb := w.heap.size) (tv := .slice none 0 0) (xs := []) ?_
  have hz : (MS.new n).ws.length = n := by simp [MS.new, zeros]
  rw [hz]
  have e : ∀ R, (Row 128 3 (.slice none 0 0) 0 [] * R) = (Row 128 3 (.slice none 0 0) 0 [] * R) := fun _ => rfl
  refine (H2.cast (star_emp _).symm).mono ?_
  intro h hh
  have hh2 : ((pt (w.heap.size + 1) (.cells #[.slice (some ⟨w.heap.size, 0, none⟩) n n, .int .i64 0, .int .i64 0, .slice none 0 0] 50 (0, 0)) * (pt w.heap.size (.cells (W (zeros n)) 38 (0, 0)) * (emp * R)))) h := by
    have : ((pt (w.alloc (.cells (W (zeros n)) 38)).heap.size (.cells #[.slice (some ⟨w.heap.size, 0, none⟩) n n, .int .i64 0, .int .i64 0, .slice none 0 0] 50) * (pt w.heap.size (.cells (W (zeros n)) 38) * R)) * emp) = ((pt (w.heap.size + 1) (.cells #[.slice (some ⟨w.heap.size, 0, none⟩) n n, .int .i64 0, .int .i64 0, .slice none 0 0] 50 (0, 0)) * (pt w.heap.size (.cells (W (zeros n)) 38 (0, 0)) * (emp * R)))) := by
      simp only [World.size_alloc]; ac_rfl
    rw [← this]; exact hh
  exact star_mono (fun _ a => a) (star_mono (fun _ a => a) (star_mono (fun h _ => row_nil _ _ h) (fun _ a => a))) h hh2
end Go.Proofs.Ytmmpnjcmaodkcaa.Mem
/- What is proved: contracts of the reference's memory (package flitref04): there, told, Load, Store. Conditions: stated with each contract. -/
namespace Go.Proofs.Ytmmpnjcmaodkcaa.Mem
open Go Go.RowKit Go.Proofs.Ytmmpnjcmaodkcaa.Sep
set_option maxRecDepth 100000
set_option linter.unusedVariables false
set_option linter.unusedSimpArgs false
set_option maxHeartbeats 1000000 in
theorem refThere_calls (w : World) (R : HProp) (mb : Nat) (M : MS) (a : Int) (H : Holds w (MemP 50 mb M * R)) (hok : M.ok) :
    Calls Try.prog 52 #[.pointer (some ⟨mb, 0, none⟩), .int .i64 a] w fun e w' => e = .returned (.bool (M.there a)) ∧ w = w' := by
  obtain ⟨wb, tv, xs, H⟩ := memP_open H
  have hc0 := H.cell 0 (.slice (some ⟨wb, 0, none⟩) M.ws.length M.ws.length) rfl
  have hl := hok.len
  clear H hok
  by_cases h0 : 0 ≤ a
  · by_cases h1 : a < M.ws.length
    · have HT : Hid (M.there a = true) := by simp [Hid, MS.there, h0, h1]
      go_enter Try.func52, Try.ntmps52
      go_wp2_with fail
      go_ret
      exact ⟨by (have e := HT.out; rw [e]) <;> simp [h0, h1], rfl⟩
    · have HT : Hid (M.there a = false) := by simp [Hid, MS.there, h0]; omega
      go_enter Try.func52, Try.ntmps52
      go_wp2_with fail
      go_ret
      exact ⟨by (have e := HT.out; rw [e]) <;> simp <;> omega, rfl⟩
  · have HT : Hid (M.there a = false) := by simp [Hid, MS.there, h0]
    have h0' : decide (0 ≤ a) = false := by simpa using h0
    go_enter Try.func52, Try.ntmps52
    go_wp2_with fail
    go_ret
    exact ⟨by rw [HT.out]; rfl, rfl⟩
set_option maxHeartbeats 1000000 in
theorem told_in (w : World) (R : HProp) (mb : Nat) (M : MS) (op a : Int) (ok : Bool) (H : Holds w (MemP 50 mb M * R)) (hok : M.ok) :
    Calls Try.prog 53 #[.pointer (some ⟨mb, 0, none⟩), .int .i64 op, .int .i64 a, .bool true, .bool ok] w fun e w' => e = .returned (.tuple #[]) ∧ Holds w' (MemP 50 mb (M.acc true) * R) ∧ Strm w w' := by
  obtain ⟨wb, tv, xs, H⟩ := memP_open H
  obtain ⟨hl, hwd, hcn, htn, hnn⟩ := hok
  clear hwd
  obtain ⟨i0, hi, hz0, hz1, hz2⟩ := info_parts info127
  have hc1 := H.cell 1 (.int .i64 (M.cnt : Int)) rfl
  have hc2 := H.cell 2 (.int .i64 (M.tr : Int)) rfl
  have hc3 := H.cell 3 tv rfl
  have hf1 := H.free 1
  have hf2 := H.free 2
  have H3 := (H.set 1 (.int .i64 ((M.cnt : Int) + 1))).alloc (.cells #[.int .i64 op, .int .i64 a, .bool ok] 128)
  have H4 := H3.drop.cast (Q := Row 128 3 tv M.n xs * (pt mb (.cells #[.slice (some ⟨wb, 0, none⟩) M.ws.length M.ws.length, .int .i64 ((M.cnt : Int) + 1), .int .i64 (M.tr : Int), tv] 50 (0, 0)) * (pt wb (.cells (W M.ws) 38 (0, 0)) * R))) (by simp only [List.setIfInBounds_toArray, List.set_cons_succ, List.set_cons_zero]; ac_rfl)
  have k1 : Hid (∀ j u, [Value.int .i64 op, .int .i64 a, .bool ok][j]? = some u → ((w.setCell ⟨mb, 1, none⟩ (.int .i64 ((M.cnt : Int) + 1))).alloc (.cells #[.int .i64 op, .int .i64 a, .bool ok] 128)).cell? ((⟨w.heap.size, 0, none⟩ : Addr).add j) = some u) := news_alloc (w.setCell ⟨mb, 1, none⟩ (.int .i64 ((M.cnt : Int) + 1))) [.int .i64 op, .int .i64 a, .bool ok] _ _ (by simp [World.setCell])
  have k2 : Hid (∀ u ∈ [Value.int .i64 op, .int .i64 a, .bool ok], u.oneCell' = true) := by intro u hu; simp at hu; rcases hu with rfl | rfl | rfl <;> rfl
  have k3 : Hid (M.n + 1 ≤ maxLen) := by unfold maxLen Hid; omega
  go_enter Try.func53, Try.ntmps53
  go_wp2_with (at_builtin; refine wpList_append_row _ rfl (.tmp 30) (.tmp 35) 48 rfl 128 i0 _ 3 24 Try.underlying48 hi hz0 hz1 hz2 rfl _ tv M.n xs H4 rfl ⟨w.heap.size, 0, none⟩ 1 1 [.int .i64 op, .int .i64 a, .bool ok] rfl rfl k1.out k2.out (by omega) k3.out (by omega) ?_)
  clear H3 H4 hc1 hc2 hc3 hf1 hf2 k1 k2 k3 H
  intro ao c' w5 H5 s5
  have H6 := H5.cast (Q := pt mb (.cells #[.slice (some ⟨wb, 0, none⟩) M.ws.length M.ws.length, .int .i64 ((M.cnt : Int) + 1), .int .i64 (M.tr : Int), tv] 50 (0, 0)) * (pt wb (.cells (W M.ws) 38 (0, 0)) * (Row 128 3 (.slice ao (M.n + 1) c') (M.n + 1) (xs ++ [.int .i64 op, .int .i64 a, .bool ok]) * R))) (by ac_rfl)
  have hc3 := H6.cell 3 tv rfl
  have hf3 := H6.free 3
  have H7 := H6.set 3 (.slice ao (M.n + 1) c')
  go_wp2_with fail
  go_end0
  refine ⟨rfl, memP_close (wb := wb) (tv := .slice ao (M.n + 1) c') (xs := xs ++ [.int .i64 op, .int .i64 a, .bool ok]) (H7.cast ?_), ((((Strm.refl w).set _ _).alloc _).trans s5).set _ _⟩
  simp only [List.setIfInBounds_toArray, List.set_cons_succ, List.set_cons_zero]
  rfl
set_option maxHeartbeats 1000000 in
theorem told_out (w : World) (R : HProp) (mb : Nat) (M : MS) (op a : Int) (ok : Bool) (H : Holds w (MemP 50 mb M * R)) (hok : M.ok) :
    Calls Try.prog 53 #[.pointer (some ⟨mb, 0, none⟩), .int .i64 op, .int .i64 a, .bool false, .bool ok] w fun e w' => e = .returned (.tuple #[]) ∧ Holds w' (MemP 50 mb (M.acc false) * R) ∧ Strm w w' := by
  obtain ⟨wb, tv, xs, H⟩ := memP_open H
  obtain ⟨hl, hwd, hcn, htn, hnn⟩ := hok
  clear hwd
  obtain ⟨i0, hi, hz0, hz1, hz2⟩ := info_parts info127
  have hc1 := H.cell 1 (.int .i64 (M.cnt : Int)) rfl
  have hc2 := H.cell 2 (.int .i64 (M.tr : Int)) rfl
  have hc3 := H.cell 3 tv rfl
  have hf1 := H.free 1
  have hf2 := H.free 2
  have H3 := ((H.set 1 (.int .i64 ((M.cnt : Int) + 1))).set 2 (.int .i64 ((M.tr : Int) + 1))).alloc (.cells #[.int .i64 op, .int .i64 a, .bool ok] 128)
  have H4 := H3.drop.cast (Q := Row 128 3 tv M.n xs * (pt mb (.cells #[.slice (some ⟨wb, 0, none⟩) M.ws.length M.ws.length, .int .i64 ((M.cnt : Int) + 1), .int .i64 ((M.tr : Int) + 1), tv] 50 (0, 0)) * (pt wb (.cells (W M.ws) 38 (0, 0)) * R))) (by simp only [List.setIfInBounds_toArray, List.set_cons_succ, List.set_cons_zero]; ac_rfl)
  have k1 : Hid (∀ j u, [Value.int .i64 op, .int .i64 a, .bool ok][j]? = some u → (((w.setCell ⟨mb, 1, none⟩ (.int .i64 ((M.cnt : Int) + 1))).setCell ⟨mb, 2, none⟩ (.int .i64 ((M.tr : Int) + 1))).alloc (.cells #[.int .i64 op, .int .i64 a, .bool ok] 128)).cell? ((⟨w.heap.size, 0, none⟩ : Addr).add j) = some u) := news_alloc ((w.setCell ⟨mb, 1, none⟩ (.int .i64 ((M.cnt : Int) + 1))).setCell ⟨mb, 2, none⟩ (.int .i64 ((M.tr : Int) + 1))) [.int .i64 op, .int .i64 a, .bool ok] _ _ (by simp [World.setCell])
  have k2 : Hid (∀ u ∈ [Value.int .i64 op, .int .i64 a, .bool ok], u.oneCell' = true) := by intro u hu; simp at hu; rcases hu with rfl | rfl | rfl <;> rfl
  have k3 : Hid (M.n + 1 ≤ maxLen) := by unfold maxLen Hid; omega
  go_enter Try.func53, Try.ntmps53
  go_wp2_with (at_builtin; refine wpList_append_row _ rfl (.tmp 30) (.tmp 35) 48 rfl 128 i0 _ 3 24 Try.underlying48 hi hz0 hz1 hz2 rfl _ tv M.n xs H4 rfl ⟨w.heap.size, 0, none⟩ 1 1 [.int .i64 op, .int .i64 a, .bool ok] rfl rfl k1.out k2.out (by omega) k3.out (by omega) ?_)
  clear H3 H4 hc1 hc2 hc3 hf1 hf2 k1 k2 k3 H
  intro ao c' w5 H5 s5
  have H6 := H5.cast (Q := pt mb (.cells #[.slice (some ⟨wb, 0, none⟩) M.ws.length M.ws.length, .int .i64 ((M.cnt : Int) + 1), .int .i64 ((M.tr : Int) + 1), tv] 50 (0, 0)) * (pt wb (.cells (W M.ws) 38 (0, 0)) * (Row 128 3 (.slice ao (M.n + 1) c') (M.n + 1) (xs ++ [.int .i64 op, .int .i64 a, .bool ok]) * R))) (by ac_rfl)
  have hc3 := H6.cell 3 tv rfl
  have hf3 := H6.free 3
  have H7 := H6.set 3 (.slice ao (M.n + 1) c')
  go_wp2_with fail
  go_end0
  refine ⟨rfl, memP_close (wb := wb) (tv := .slice ao (M.n + 1) c') (xs := xs ++ [.int .i64 op, .int .i64 a, .bool ok]) (H7.cast ?_), (((((Strm.refl w).set _ _).set _ _).alloc _).trans s5).set _ _⟩
  simp only [List.setIfInBounds_toArray, List.set_cons_succ, List.set_cons_zero]
  rfl
theorem told_calls (w : World) (R : HProp) (mb : Nat) (M : MS) (op a : Int) (b ok : Bool) (H : Holds w (MemP 50 mb M * R)) (hok : M.ok) :
    Calls Try.prog 53 #[.pointer (some ⟨mb, 0, none⟩), .int .i64 op, .int .i64 a, .bool b, .bool ok] w fun e w' => e = .returned (.tuple #[]) ∧ Holds w' (MemP 50 mb (M.acc b) * R) ∧ Strm w w' := by
  cases b
  · exact told_out w R mb M op a ok H hok
  · exact told_in w R mb M op a ok H hok
theorem there_cases (M : MS) (a : Int) : (M.there a = true ∧ 0 ≤ a ∧ a < M.ws.length) ∨ (M.there a = false ∧ ¬ (0 ≤ a ∧ a < M.ws.length)) := by
  by_cases h : M.there a = true
  · exact Or.inl ⟨h, (there_iff M a).1 h⟩
  · rw [Bool.not_eq_true] at h
    exact Or.inr ⟨h, fun x => by rw [(there_iff M a).2 x] at h; cases h⟩
set_option maxHeartbeats 1000000 in
theorem refStore_calls (w : World) (R : HProp) (mb : Nat) (M : MS) (a x : Int) (H : Holds w (MemP 50 mb M * R)) (hok : M.ok) :
    Calls Try.prog 25 #[.pointer (some ⟨mb, 0, none⟩), .int .i64 a, .int .u64 x] w fun e w' => e = .returned (.tuple #[]) ∧ Holds w' (MemP 50 mb (M.store a x) * R) ∧ Strm w w' := by
  have HT : Hid (∀ w, Holds w (MemP 50 mb M * R) → Calls Try.prog 52 #[.pointer (some ⟨mb, 0, none⟩), .int .i64 a] w fun e w' => e = .returned (.bool (M.there a)) ∧ w = w') := fun w H => refThere_calls w R mb M a H hok
  have HO : Hid (∀ w b ok, Holds w (MemP 50 mb M * R) → Calls Try.prog 53 #[.pointer (some ⟨mb, 0, none⟩), .int .i64 2, .int .i64 a, .bool b, .bool ok] w fun e w' => e = .returned (.tuple #[]) ∧ Holds w' (MemP 50 mb (M.acc b) * R) ∧ Strm w w') := fun w b ok H => told_calls w R mb M 2 a b ok H hok
  have HH : Hid (Holds w (MemP 50 mb M * R)) := H
  have hl := hok.len
  clear H hok
  rcases there_cases M a with ⟨h, h0, h1⟩ | ⟨h, hn⟩
  · have HS : Hid (M.store a x = ({ M with ws := M.ws.set a.toNat x } : MS).acc true) := by simp [Hid, MS.store, MS.put, h]
    go_enter Try.func25, Try.ntmps25
    go_wp2_with (first | (go_at_call 52; refine (HT.out _ HH.out).mono ?_; rintro e w2 ⟨rfl, rfl⟩) | (go_at_call 53; refine (HO.out _ true true HH.out).mono ?_; rintro e w2 ⟨rfl, H2, s2⟩; obtain ⟨wb, tv, xs, H3⟩ := memP_open H2; have hc0 : w2.cell? ⟨mb, 0, none⟩ = some (.slice (some ⟨wb, 0, none⟩) M.ws.length M.ws.length) := H3.cell 0 _ rfl; have H4 := H3.cast (Q := pt wb (.cells (W M.ws) 38 (0, 0)) * (pt mb (.cells #[.slice (some ⟨wb, 0, none⟩) M.ws.length M.ws.length, .int .i64 ((M.acc true).cnt : Int), .int .i64 ((M.acc true).tr : Int), tv] 50 (0, 0)) * (Row 128 3 tv (M.acc true).n xs * R))) (by unfold MS.acc; ac_rfl); obtain ⟨y, hcw⟩ : ∃ y, w2.cell? ⟨wb, a.toNat, none⟩ = some (.int .u64 y) := ⟨_, H4.cell a.toNat _ (W_get _ _ (by omega))⟩; have hfw := H4.free a.toNat; have H5 := H4.set a.toNat (.int .u64 x)))
    go_end0
    refine ⟨rfl, ?_, s2.set _ _⟩
    rw [HS.out]
    rw [W_set] at H5
    refine memP_close (wb := wb) (tv := tv) (xs := xs) (H5.cast ?_)
    simp only [MS.acc, List.length_set]
    ac_rfl
  · have HS : Hid (M.store a x = M.acc false) := by simp [Hid, MS.store, MS.put, h]
    go_enter Try.func25, Try.ntmps25
    go_wp2_with (first | (go_at_call 52; refine (HT.out _ HH.out).mono ?_; rintro e w2 ⟨rfl, rfl⟩) | (go_at_call 53; refine (HO.out _ false false HH.out).mono ?_; rintro e w2 ⟨rfl, H2, s2⟩))
    go_end0
    exact ⟨rfl, by rw [HS.out]; exact H2, s2⟩
end Go.Proofs.Ytmmpnjcmaodkcaa.Mem
/- What is proved: the plain side of the memory that the statements of layer 12 lay: 160 words, 16 objects of three fields. Conditions: none. -/
namespace Go.Proofs.Ytmmpnjcmaodkcaa.Num
open Go
/-- What a value of the statements is: a scalar below 1000, nil, or one of 16 objects. -/
def opVal (k n : Int) : Int × Int := if kindOf k 2 = 0 then (0, kindOf n 1000) else if kindOf n 17 = 16 then (1, 0) else (1, 96 + 4 * kindOf n 17)
/-- Was the object i moved? -/
def tagged (tags : List Int) (i : Nat) : Bool := decide (i < 8) && (decide (i < tags.length) && decide (kindOf (tags.getD i 0) 3 = 2))
def headAt (tags : List Int) (i : Nat) : HV := ⟨1, 0, 3, 0, 0, if tagged tags i then 2 else 0, if tagged tags i then 96 + 4 * ((i : Int) + 8) else 0⟩
/-- What the field f of the object i has: kind, number. -/
def fldAt (l : List (Int × Int)) (j : Nat) : Int × Int := if j < l.length then opVal (l.getD j (0, 0)).1 (l.getD j (0, 0)).2 else (0, 0)
/-- The word a. -/
def laidAt (tags : List Int) (l : List (Int × Int)) (a : Nat) : Int :=
  if a < 96 then 0 else if (a - 96) % 4 = 0 then (headAt tags ((a - 96) / 4)).w else
    sW (fldAt l (3 * ((a - 96) / 4) + ((a - 96) % 4 - 1))).1 (fldAt l (3 * ((a - 96) / 4) + ((a - 96) % 4 - 1))).2
/-- The words when those below b are laid. -/
def laidTo (tags : List Int) (l : List (Int × Int)) (b : Nat) : List Int := (List.range 160).map fun a => if a < b then laidAt tags l a else 0
theorem laidTo_len (tags : List Int) (l : List (Int × Int)) (b : Nat) : (laidTo tags l b).length = 160 := by simp [laidTo]
theorem laidTo_start (tags : List Int) (l : List (Int × Int)) : laidTo tags l 96 = List.replicate 160 0 := by
  unfold laidTo
  apply List.ext_getElem
  · simp
  · intro i h1 h2
    simp only [List.getElem_map, List.getElem_range, List.getElem_replicate]
    by_cases h : i < 96
    · rw [if_pos h]; unfold laidAt; rw [if_pos h]
    · rw [if_neg h]
theorem laidTo_set (tags : List Int) (l : List (Int × Int)) (b : Nat) : (laidTo tags l b).set b (laidAt tags l b) = laidTo tags l (b + 1) := by
  unfold laidTo
  apply List.ext_getElem
  · simp
  · intro i h1 h2
    rw [List.getElem_set]
    simp only [List.getElem_map, List.getElem_range]
    by_cases h : b = i
    · subst h; rw [if_pos rfl, if_pos (by omega)]
    · rw [if_neg h]
      by_cases h' : i < b
      · rw [if_pos h', if_pos (by omega)]
      · rw [if_neg h', if_neg (by omega)]
theorem laidAt_head (tags : List Int) (l : List (Int × Int)) (i : Nat) : laidAt tags l (96 + 4 * i) = (headAt tags i).w := by
  unfold laidAt
  rw [if_neg (by omega), if_pos (by omega), show (96 + 4 * i - 96) / 4 = i by omega]
theorem laidAt_fld (tags : List Int) (l : List (Int × Int)) (i f : Nat) (hf : f < 3) : laidAt tags l (97 + 4 * i + f) = sW (fldAt l (3 * i + f)).1 (fldAt l (3 * i + f)).2 := by
  unfold laidAt
  rw [if_neg (by omega), if_neg (by omega), show (97 + 4 * i + f - 96) / 4 = i by omega, show (97 + 4 * i + f - 96) % 4 - 1 = f by omega]
theorem laidAt_rng (tags : List Int) (l : List (Int × Int)) (a : Nat) : 0 ≤ laidAt tags l a ∧ laidAt tags l a < 18446744073709551616 := by
  unfold laidAt
  by_cases h : a < 96
  · rw [if_pos h]; omega
  · rw [if_neg h]
    by_cases h' : (a - 96) % 4 = 0
    · rw [if_pos h']; have := HV.w_lo (headAt tags ((a - 96) / 4)); have := HV.w_hi (headAt tags ((a - 96) / 4)); omega
    · rw [if_neg h']; exact ⟨sW_lo _ _, sW_hi _ _⟩
theorem laidTo_rng (tags : List Int) (l : List (Int × Int)) (b : Nat) : ∀ x, x ∈ laidTo tags l b → 0 ≤ x ∧ x < 18446744073709551616 := by
  intro x hx
  unfold laidTo at hx
  rw [List.mem_map] at hx
  obtain ⟨a, _, rfl⟩ := hx
  by_cases h : a < b
  · simp only [if_pos h]; exact laidAt_rng tags l a
  · simp only [if_neg h]; omega
end Go.Proofs.Ytmmpnjcmaodkcaa.Num
/- What is proved: contracts of package head. Conditions: that a word is one of 64 bits. -/
namespace Go.Proofs.Ytmmpnjcmaodkcaa.Num
open Go Go.RowKit Go.Proofs.Ytmmpnjcmaodkcaa.Sep
set_option maxRecDepth 100000
set_option linter.unusedVariables false
set_option linter.unusedSimpArgs false
set_option maxHeartbeats 1000000 in
theorem headOf_calls (x : Int) (w : World) (h0 : 0 ≤ x) (h : x < 18446744073709551616) :
    Calls Try.prog 43 #[.int .u64 x] w (Ret w (HV.of x).agg) := by
  obtain ⟨v, hv⟩ : ∃ v, HV.of x = v := ⟨_, rfl⟩
  have Q : Hid (∀ w (b : Nat), w.cell? ⟨b, 0, none⟩ = some (.int .i64 2) → w.cell? ⟨b, 1, none⟩ = some (.int .i64 2) → w.cell? ⟨b, 2, none⟩ = some (.int .i64 3) → w.cell? ⟨b, 3, none⟩ = some (.int .i64 1) →
      w.cell? ⟨b, 4, none⟩ = some (.int .i64 1) → w.cell? ⟨b, 5, none⟩ = some (.int .i64 3) → w.cell? ⟨b, 6, none⟩ = some (.int .i64 12) → b < w.heap.size → Calls Try.prog 64 #[.int .u64 x, .slice (some ⟨b, 0, none⟩) 7 7] w (Ret w (.agg #[.int .i64 v.st, .int .i64 v.cl, .int .i64 v.ct, .int .i64 v.mr, .int .i64 v.gr, .int .i64 v.tg, .int .i64 v.lk]))) := fun w b c0 c1 c2 c3 c4 c5 c6 hb => by
    have := unpack_calls x b w h0 h c0 c1 c2 c3 c4 c5 c6 hb
    rw [hv] at this; exact this
  have hA : Hid ((HV.of x).agg = v.agg) := by show _ = _; rw [hv]
  clear hv
  obtain ⟨a1, a2, a3, a4, a5, a6, a7⟩ := v
  simp only at Q
  go_enter Try.func43, Try.ntmps43
  go_wp2_with (go_at_call 64; refine (Q.out _ (w.heap.size + 1) (by go_simp) (by go_simp) (by go_simp) (by go_simp) (by go_simp) (by go_simp) (by go_simp) (by simp)).mono ?_; rintro e w2 ⟨rfl, hb⟩; have hk := blk_below hb (blk_alloc (blk_new w _)) (by simp; omega); have hc := cells_of hk; have hf := frees_of hk; clear hk; have hz : w.heap.size < w2.heap.size := (by (have := hb.size; simp at this; omega)); have HB : Hid (Below w.heap.size w w2) := ((((Below.refl _ w).alloc (Nat.le_refl _) _).alloc (by simp) _).trans (hb.mono (by simp; omega))); clear hb)

  exact bodyPost_ret (v := .agg #[.int .i64 a1, .int .i64 a2, .int .i64 a3, .int .i64 a4, .int .i64 a5, .int .i64 a6, .int .i64 a7]) (by simp [results, Try.results43, go_sem, hc, hz]) rfl ⟨by rw [hA.out]; rfl, by repeat (with_reducible first | exact HB.out | refine Below.setCell ?_ (by simp) _ | refine Below.alloc ?_ (by simp; omega) _)⟩
set_option maxHeartbeats 1000000 in
theorem headMoved_calls (x a : Int) (w : World) (h0 : 0 ≤ x) (h : x < 18446744073709551616) :
    Calls Try.prog 95 #[.int .u64 x, .int .i64 a] w (Ret w (.int .i64 (hMoved x a))) := by
  obtain ⟨v, hv⟩ : ∃ v, HV.of x = v := ⟨_, rfl⟩
  have Q : Hid (∀ w, Calls Try.prog 43 #[.int .u64 x] w (Ret w (.agg #[.int .i64 v.st, .int .i64 v.cl, .int .i64 v.ct, .int .i64 v.mr, .int .i64 v.gr, .int .i64 v.tg, .int .i64 v.lk]))) := fun w => by
    have := headOf_calls x w h0 h
    rw [hv] at this; exact this
  have HM : Hid (hMoved x a = if v.st = 1 ∧ v.tg = 2 then v.lk else a) := by show _ = _; unfold hMoved; rw [hv]
  clear hv
  obtain ⟨a1, a2, a3, a4, a5, a6, a7⟩ := v
  simp only at Q HM
  by_cases c1 : a1 = 1
  · by_cases c2 : a6 = 2
    · have HM' : Hid (hMoved x a = a7) := by rw [Hid, HM.out, if_pos ⟨c1, c2⟩]
      clear HM
      go_enter Try.func95, Try.ntmps95
      go_wp2_with (go_at_call 43; refine (Q.out _).mono ?_; rintro e w2 ⟨rfl, hb⟩; have HB := (show Hid (Below w.heap.size w w2) from hb); clear hb)
      go_ret
      exact ⟨ret_int HM'.out.symm, HB.out.alloc HB.out.size _⟩
    · have HM' : Hid (hMoved x a = a) := by rw [Hid, HM.out, if_neg (fun h => c2 h.2)]
      clear HM
      go_enter Try.func95, Try.ntmps95
      go_wp2_with (go_at_call 43; refine (Q.out _).mono ?_; rintro e w2 ⟨rfl, hb⟩; have HB := (show Hid (Below w.heap.size w w2) from hb); clear hb)
      go_ret
      exact ⟨ret_int HM'.out.symm, HB.out.alloc HB.out.size _⟩
  · have HM' : Hid (hMoved x a = a) := by rw [Hid, HM.out, if_neg (fun h => c1 h.1)]
    clear HM
    go_enter Try.func95, Try.ntmps95
    go_wp2_with (go_at_call 43; refine (Q.out _).mono ?_; rintro e w2 ⟨rfl, hb⟩; have HB := (show Hid (Below w.heap.size w w2) from hb); clear hb)
    go_ret
    exact ⟨ret_int HM'.out.symm, HB.out.alloc HB.out.size _⟩
end Go.Proofs.Ytmmpnjcmaodkcaa.Num
/- What is proved: the contracts that the evaluator takes for the functions of packages slot, head, mem and of their references. Conditions: stated with each contract. -/
namespace Go.Proofs.Ytmmpnjcmaodkcaa.Ev
open Go Go.RowKit Go.Proofs.Ytmmpnjcmaodkcaa.Sep Go.Proofs.Ytmmpnjcmaodkcaa.Num Go.Proofs.Ytmmpnjcmaodkcaa.Mem
set_option maxRecDepth 100000
set_option linter.unusedVariables false
set_option linter.unusedSimpArgs false
/-- A memory, by its struct's type; what lay in memory ahead of the call, below a block; words that a proof gives. -/
class Obj (X : Type) where
  den : X → Nat → HProp
  known : X → Nat → Option SC
  known_ok : ∀ {x : X} {off : Nat} {c : SC}, known x off = some c → ∀ {w : World} {R : HProp} {b : Nat}, Holds w (den x b * R) → w.cell? ⟨b, off, none⟩ = some c.den
inductive MO (X : Type) where
  | mem (T : Nat) (M : MS)
  | old (B : Nat) (w : World)
  | obj (x : X)
def oldCell (w : World) (b off : Nat) : Value := (w.cell? ⟨b, off, none⟩).getD undef
def intAt (w : World) (b off : Nat) : Int :=
  match w.cell? ⟨b, off, none⟩ with
  | some (.int _ n) => n
  | _ => 0
/-- The kinds of a type's cells, where all are whole numbers. -/
def intsOfType (P : Program) [Fast P] (t : TypeId) : Option (List IntKind) :=
  match Fast.zero P t with
  | some v => v.cells.toList.mapM fun c => match c with | .int k _ => some k | _ => none
  | none => none
def oldLoad (P : Program) [Fast P] (t : TypeId) (b off : Nat) (B : Nat) (w : World) : Option (List Prop × SV) :=
  match tyAgg P t, tySize P t, intsOfType P t with
  | some false, _, some [k] => some ([b < B, w.cell? ⟨b, off, none⟩ = some (.int k (intAt w b off))], .c (.int k (.sym (intAt w b off))))
  | some true, some n, some ks => bif Nat.beq ks.length n then some ([b < B, ∀ j k, ks[j]? = some k → w.cell? ⟨b, off + j, none⟩ = some (.int k (intAt w b (off + j)))], .a (.agg (ks.zipIdx.map fun p => .int p.1 (.sym (intAt w b (off + p.2)))))) else none
  | _, _, _ => none
theorem old_cell {B : Nat} {w w' : World} {R : HProp} (h : Holds w' (old B w * R)) {b off : Nat} {v : Value} (hb : b < B) (hc : w.cell? ⟨b, off, none⟩ = some v) : w'.cell? ⟨b, off, none⟩ = some v := by
  obtain ⟨hp, a, p⟩ := h.left
  have e := p b
  rw [if_pos hb] at e
  unfold World.cell? at hc ⊢
  cases hh : w.heap[b]? with
  | none => simp only [hh] at hc; cases hc
  | some o =>
    rw [hh] at e
    simp only [a b o e]
    simp only [hh] at hc
    exact hc
theorem oldLoad_ok {P : Program} [Fast P] {t : TypeId} {b off B : Nat} {w0 : World} {ps : List Prop} {v : SV} (h : oldLoad P t b off B w0 = some (ps, v)) (hp : ∀ p ∈ ps, p) {w : World} {R : HProp} (hw : Holds w (old B w0 * R)) :
    (loadVar t ⟨b, off, none⟩).run P w = .ok v.den w := by
  unfold oldLoad at h
  split at h
  · rename_i k ha hk
    simp only [Option.some.injEq, Prod.mk.injEq] at h
    obtain ⟨rfl, rfl⟩ := h
    have h1 : b < B := hp _ (by simp)
    have h2 : w0.cell? ⟨b, off, none⟩ = some (.int k (intAt w0 b off)) := hp _ (by simp)
    exact run_loadVar_one ha (old_cell hw h1 h2)
  · rename_i n ks ha hs hk
    cases hn : Nat.beq ks.length n with
    | false => rw [hn] at h; cases h
    | true =>
      rw [hn] at h
      simp only [cond_true, Option.some.injEq, Prod.mk.injEq] at h
      obtain ⟨rfl, rfl⟩ := h
      have h1 : b < B := hp _ (by simp)
      have h2 : ∀ j k, ks[j]? = some k → w0.cell? ⟨b, off + j, none⟩ = some (.int k (intAt w0 b (off + j))) := hp _ (List.mem_cons_of_mem _ (List.mem_singleton.2 rfl))
      refine run_loadVar_agg ha hs (by simpa using Nat.eq_of_beq_eq_true hn) fun j c hj => ?_
      rw [List.getElem?_map, List.getElem?_zipIdx] at hj
      cases hkj : ks[j]? with
      | none => rw [hkj] at hj; simp at hj
      | some k =>
        rw [hkj] at hj
        simp at hj
        subst hj
        exact old_cell hw h1 (h2 j k hkj)
  · cases h
def knowns (f : Nat → Option SC) (o : Nat) : Nat → Option (List SC)
  | 0 => some []
  | n + 1 =>
    match f o, knowns f (o + 1) n with
    | some c, some l => some (c :: l)
    | _, _ => none
theorem knowns_ok {f : Nat → Option SC} {w : World} {b : Nat} (hf : ∀ o c, f o = some c → w.cell? ⟨b, o, none⟩ = some c.den) : ∀ (n o : Nat) (l : List SC), knowns f o n = some l → l.length = n ∧ ∀ j c, l[j]? = some c → w.cell? ⟨b, o + j, none⟩ = some c.den
  | 0, o, l, h => by
    simp only [knowns, Option.some.injEq] at h
    subst h
    exact ⟨rfl, fun j c hj => by simp at hj⟩
  | n + 1, o, l, h => by
    unfold knowns at h
    split at h
    · rename_i c l' hc hl
      simp only [Option.some.injEq] at h
      subst h
      obtain ⟨h1, h2⟩ := knowns_ok hf n (o + 1) l' hl
      refine ⟨by simp [h1], fun j c' hj => ?_⟩
      cases j with
      | zero => simp at hj; subst hj; exact hf o _ hc
      | succ j =>
        simp at hj
        have := h2 j c' hj
        rw [show o + (j + 1) = o + 1 + j by omega]; exact this
    · cases h
def objLoad {X : Type} [Obj X] (P : Program) [Fast P] (t : TypeId) (b off b' : Nat) (x : X) : Option (List Prop × SV) :=
  match tyAgg P t, tySize P t with
  | some true, some n => (knowns (Obj.known x) off n).map fun l => ([b = b'], .a (.agg l))
  | some false, _ => (Obj.known x off).map fun c => ([b = b'], .c c)
  | _, _ => none
theorem objLoad_ok {X : Type} [Obj X] {P : Program} [Fast P] {t : TypeId} {b off b' : Nat} {x : X} {ps : List Prop} {v : SV} (h : objLoad P t b off b' x = some (ps, v)) (hp : ∀ p ∈ ps, p) {w : World} {R : HProp} (hw : Holds w (Obj.den x b' * R)) :
    (loadVar t ⟨b, off, none⟩).run P w = .ok v.den w := by
  unfold objLoad at h
  split at h
  · rename_i n ha hs
    cases hl : knowns (Obj.known x) off n with
    | none => rw [hl] at h; cases h
    | some l =>
      rw [hl] at h
      simp only [Option.map_some, Option.some.injEq, Prod.mk.injEq] at h
      obtain ⟨rfl, rfl⟩ := h
      have e : b = b' := hp _ (List.mem_singleton.2 rfl)
      subst e
      obtain ⟨h1, h2⟩ := knowns_ok (w := w) (b := b) (fun o c hc => Obj.known_ok hc hw) n off l hl
      exact run_loadVar_agg ha hs h1 h2
  · rename_i ha
    cases hl : Obj.known x off with
    | none => rw [hl] at h; cases h
    | some c =>
      rw [hl] at h
      simp only [Option.map_some, Option.some.injEq, Prod.mk.injEq] at h
      obtain ⟨rfl, rfl⟩ := h
      have e : b = b' := hp _ (List.mem_singleton.2 rfl)
      subst e
      exact run_loadVar_one ha (Obj.known_ok hl hw)
  · cases h
section
variable {X : Type} [Obj X]
instance : Abs (MO X) where
  den x b := match x with
    | .mem T M => MemP T b M
    | .old B w => old B w
    | .obj x => Obj.den x b
  load P _ t b off b' x := match x with
    | .old B w => oldLoad P t b off B w
    | .obj x => objLoad P t b off b' x
    | _ => none
  load_ok := by
    intro P _ t b off b' x ps v h hp w R hw
    cases x with
    | mem T M => cases h
    | old B w0 => exact oldLoad_ok h hp hw
    | obj x => exact objLoad_ok h hp hw
def u64 (x : Int) : Prop := 0 ≤ x ∧ x < 18446744073709551616
def i64 (x : Int) : Prop := -9223372036854775808 ≤ x ∧ x ≤ 9223372036854775807
def m1 (f : Int → Int) : SI → SI
  | .lit n => .lit (f n)
  | .sym x => .sym (f x)
theorem m1_v (f : Int → Int) (x : SI) : (m1 f x).v = f x.v := by cases x <;> rfl
def m2 (f : Int → Int → Int) : SI → SI → SI
  | .lit n, .lit m => .lit (f n m)
  | x, y => .sym (f x.v y.v)
theorem m2_v (f : Int → Int → Int) (x y : SI) : (m2 f x y).v = f x.v y.v := by cases x <;> cases y <;> rfl
def b2 (f : Int → Int → Bool) : SI → SI → SB
  | .lit n, .lit m => .lit (f n m)
  | x, y => .sym (f x.v y.v)
theorem b2_v (f : Int → Int → Bool) (x y : SI) : (b2 f x y).v = f x.v y.v := by cases x <;> cases y <;> rfl
/-- A contract at one function. -/
abbrev CtrAt (X : Type) := List SV → SH (MO X) → Nat → Kont (MO X) → Option (Tree (MO X))
def CAtOk (P : Program) (f : Nat) (c : CtrAt X) : Prop :=
  ∀ args H n k t, c args H n k = some t → ∀ (L : Leaf (MO X) → Prop), t.Leads P L → ∀ (w : World) (R : HProp), Holds w (hden H * R) → ∀ Q : Ending → World → Prop,
    (∀ v H' n' w', (k v H' n').Leads P L → Holds w' (hden H' * R) → Strm w w' → Q (.returned v.den) w') → Calls P f (args.map SV.den).toArray w Q
def ctrNone : Ctr (MO X) := fun _ _ _ _ _ => none
def ctrCons (f : Nat) (c : CtrAt X) (r : Ctr (MO X)) : Ctr (MO X) := fun g args H n k => bif Nat.beq g f then c args H n k else r g args H n k
theorem ctrNone_ok (P : Program) : CtrOk P (ctrNone : Ctr (MO X)) := fun _ _ _ _ _ _ h => by cases h
theorem ctrCons_ok {P : Program} {f : Nat} {c : CtrAt X} {r : Ctr (MO X)} (hc : CAtOk P f c) (hr : CtrOk P r) : CtrOk P (ctrCons f c r) := by
  intro g args H n k t h
  unfold ctrCons at h
  cases hg : Nat.beq g f with
  | true =>
    rw [hg] at h
    rw [Nat.eq_of_beq_eq_true hg]
    exact hc args H n k t h
  | false =>
    rw [hg] at h
    exact hr g args H n k t h
/-- A function that only computes. -/
theorem at_pure {P : Program} {f : Nat} {args : List SV} {v : SV} (hc : ∀ w, Calls P f (args.map SV.den).toArray w (Ret w v.den)) {H : SH (MO X)} {n : Nat} {k : Kont (MO X)} {L : Leaf (MO X) → Prop} (hl : (k v H n).Leads P L)
    {w : World} {R : HProp} (hw : Holds w (hden H * R)) {Q : Ending → World → Prop} (hk : ∀ v H' n' w', (k v H' n').Leads P L → Holds w' (hden H' * R) → Strm w w' → Q (.returned v.den) w') : Calls P f (args.map SV.den).toArray w Q :=
  (hc w).mono fun e w' ⟨he, hb⟩ => by subst he; exact hk v H n w' hl (hw.kept hb) (Strm.below hb)
def aggI (l : List SI) : SV := .a (.agg (l.map fun x => .int .i64 x))
def valA (x : SI) : SV := aggI [m1 vK x, m1 vN x]
def headA (x : SI) : SV := aggI [m1 (fun w => (HV.of w).st) x, m1 (fun w => (HV.of w).cl) x, m1 (fun w => (HV.of w).ct) x, m1 (fun w => (HV.of w).mr) x, m1 (fun w => (HV.of w).gr) x, m1 (fun w => (HV.of w).tg) x, m1 (fun w => (HV.of w).lk) x]
/-- One whole number of 64 bits in, something out. -/
def cU1 (f : SI → SV) : CtrAt X := fun args H n k =>
  match args with
  | [.a (.one (.int .u64 x))] => some (.need (u64 x.v) (k (f x) H n))
  | _ => none
theorem cU1_ok {P : Program} {g : Nat} {f : SI → SV} (h : ∀ (x : SI) (w : World), 0 ≤ x.v → x.v < 18446744073709551616 → Calls P g #[.int .u64 x.v] w (Ret w (f x).den)) : CAtOk P g (cU1 f : CtrAt X) := by
  intro args H n k t ht L hl w R hw Q hk
  unfold cU1 at ht
  split at ht
  · rename_i x
    simp only [Option.some.injEq] at ht
    subst ht
    exact at_pure (args := [.a (.one (.int .u64 x))]) (fun w => h x w hl.1.1 hl.1.2) hl.2 hw hk
  · cases ht
def cMoved : CtrAt X := fun args H n k =>
  match args with
  | [.a (.one (.int .u64 x)), .a (.one (.int .i64 a))] => some (.need (u64 x.v) (k (.c (.int .i64 (m2 hMoved x a))) H n))
  | _ => none
theorem cMoved_ok {P : Program} {g : Nat} (h : ∀ (x a : Int) (w : World), 0 ≤ x → x < 18446744073709551616 → Calls P g #[.int .u64 x, .int .i64 a] w (Ret w (.int .i64 (hMoved x a)))) : CAtOk P g (cMoved : CtrAt X) := by
  intro args H n k t ht L hl w R hw Q hk
  unfold cMoved at ht
  split at ht
  · rename_i x a
    simp only [Option.some.injEq] at ht
    subst ht
    refine at_pure (args := [.a (.one (.int .u64 x)), .a (.one (.int .i64 a))]) (fun w => ?_) hl.2 hw hk
    have := h x.v a.v w hl.1.1 hl.1.2
    rw [← m2_v hMoved x a] at this
    exact this
  · cases ht
def cWord : CtrAt X := fun args H n k =>
  match args with
  | [.a (.agg [.int .i64 a, .int .i64 b])] => some (k (.c (.int .u64 (m2 sW a b))) H n)
  | _ => none
theorem cWord_ok {P : Program} {g : Nat} (h : ∀ (a b : Int) (w : World), Calls P g #[.agg #[.int .i64 a, .int .i64 b]] w (Ret w (.int .u64 (sW a b)))) : CAtOk P g (cWord : CtrAt X) := by
  intro args H n k t ht L hl w R hw Q hk
  unfold cWord at ht
  split at ht
  · rename_i a b
    simp only [Option.some.injEq] at ht
    subst ht
    refine at_pure (args := [.a (.agg [.int .i64 a, .int .i64 b])]) (fun w => ?_) hl hw hk
    have := h a.v b.v w
    rw [← m2_v sW a b] at this
    exact this
  · cases ht
def isLit : SI → Bool
  | .lit _ => true
  | _ => false
def allLit (l : List SI) : Bool := l.all isLit
def cHeadWord : CtrAt X := fun args H n k =>
  match args with
  | [.a (.agg [.int .i64 a, .int .i64 b, .int .i64 c, .int .i64 d, .int .i64 e, .int .i64 f, .int .i64 g])] => some (k (.c (.int .u64 (bif allLit [a, b, c, d, e, f, g] then .lit (HV.mk a.v b.v c.v d.v e.v f.v g.v).w else .sym (HV.mk a.v b.v c.v d.v e.v f.v g.v).w))) H n)
  | _ => none
theorem cHeadWord_ok {P : Program} {g : Nat} (h : ∀ (v : HV) (w : World), Calls P g #[v.agg] w (Ret w (.int .u64 v.w))) : CAtOk P g (cHeadWord : CtrAt X) := by
  intro args H n k t ht L hl w R hw Q hk
  unfold cHeadWord at ht
  split at ht
  · rename_i a b c d e f g
    simp only [Option.some.injEq] at ht
    subst ht
    refine at_pure (args := [.a (.agg [.int .i64 a, .int .i64 b, .int .i64 c, .int .i64 d, .int .i64 e, .int .i64 f, .int .i64 g])]) (fun w => ?_) hl hw hk
    have := h (HV.mk a.v b.v c.v d.v e.v f.v g.v) w
    have e2 : (SV.c (.int .u64 (bif allLit [a, b, c, d, e, f, g] then .lit (HV.mk a.v b.v c.v d.v e.v f.v g.v).w else .sym (HV.mk a.v b.v c.v d.v e.v f.v g.v).w))).den = .int .u64 (HV.mk a.v b.v c.v d.v e.v f.v g.v).w := by
      cases allLit [a, b, c, d, e, f, g] <;> rfl
    rw [e2]
    exact this
  · cases ht
def farB (k n : Int) : Bool := k == 1 && n != 0
def cFar : CtrAt X := fun args H n k =>
  match args with
  | [.a (.agg [.int .i64 a, .int .i64 b])] => some (k (.c (.bool (b2 farB a b))) H n)
  | _ => none
theorem cFar_ok {P : Program} {g : Nat} (h : ∀ (a b : Int) (w : World), Calls P g #[.agg #[.int .i64 a, .int .i64 b]] w (Ret w (.bool (farB a b)))) : CAtOk P g (cFar : CtrAt X) := by
  intro args H n k t ht L hl w R hw Q hk
  unfold cFar at ht
  split at ht
  · rename_i a b
    simp only [Option.some.injEq] at ht
    subst ht
    refine at_pure (args := [.a (.agg [.int .i64 a, .int .i64 b])]) (fun w => ?_) hl hw hk
    have := h a.v b.v w
    rw [← b2_v farB a b] at this
    exact this
  · cases ht
/-- A kind of at most three: which one it is, is told. -/
def cKind : CtrAt X := fun args H n k =>
  match args with
  | [.a (.one (.int .i64 c)), .a (.one (.int .i64 (.lit 3)))] =>
    some (.need (i64 c.v) (.ite (kindOf c.v 3 == 0) (k (.c (.int .i64 (.lit 0))) H n) (.ite (kindOf c.v 3 == 1) (k (.c (.int .i64 (.lit 1))) H n) (k (.c (.int .i64 (.lit 2))) H n))))
  | [.a (.one (.int .i64 c)), .a (.one (.int .i64 (.lit m)))] =>
    bif decide (0 < m) && decide (m ≤ 100000) then some (.need (i64 c.v) (k (.c (.int .i64 (.sym (kindOf c.v m)))) H n)) else none
  | _ => none
theorem cKind_ok {P : Program} {g : Nat} (h : ∀ (c n : Int) (w : World), -9223372036854775808 ≤ c → c ≤ 9223372036854775807 → 0 < n → n ≤ 100000 → Calls P g #[.int .i64 c, .int .i64 n] w (Ret w (.int .i64 (kindOf c n)))) : CAtOk P g (cKind : CtrAt X) := by
  intro args H n k t ht L hl w R hw Q hk
  unfold cKind at ht
  split at ht
  · rename_i c
    simp only [Option.some.injEq] at ht
    subst ht
    obtain ⟨hr, h1, h2⟩ := hl
    have hc := fun w => h c.v 3 w hr.1 hr.2 (by omega) (by omega)
    cases k0 : (kindOf c.v 3 == 0) with
    | true =>
      refine at_pure (args := [.a (.one (.int .i64 c)), .a (.one (.int .i64 (.lit 3)))]) (fun w => ?_) (h1 k0) hw hk
      have e : kindOf c.v 3 = 0 := by simpa using k0
      have := hc w
      rw [e] at this
      exact this
    | false =>
      obtain ⟨h3, h4⟩ := h2 k0
      cases k1 : (kindOf c.v 3 == 1) with
      | true =>
        refine at_pure (args := [.a (.one (.int .i64 c)), .a (.one (.int .i64 (.lit 3)))]) (fun w => ?_) (h3 k1) hw hk
        have e : kindOf c.v 3 = 1 := by simpa using k1
        have := hc w
        rw [e] at this
        exact this
      | false =>
        refine at_pure (args := [.a (.one (.int .i64 c)), .a (.one (.int .i64 (.lit 3)))]) (fun w => ?_) (h4 k1) hw hk
        have e : kindOf c.v 3 = 2 := by
          have a1 := kindOf_lo c.v 3 (by omega)
          have a2 := kindOf_hi c.v 3 (by omega)
          have a3 : kindOf c.v 3 ≠ 0 := by simpa using k0
          have a4 : kindOf c.v 3 ≠ 1 := by simpa using k1
          omega
        have := hc w
        rw [e] at this
        exact this
  · rename_i c m hne
    cases hm : (decide (0 < m) && decide (m ≤ 100000)) with
    | false => rw [hm] at ht; cases ht
    | true =>
      rw [hm] at ht
      simp only [cond_true, Option.some.injEq] at ht
      subst ht
      rw [Bool.and_eq_true] at hm
      have m0 : 0 < m := of_decide_eq_true hm.1
      have m1 : m ≤ 100000 := of_decide_eq_true hm.2
      exact at_pure (args := [.a (.one (.int .i64 c)), .a (.one (.int .i64 (.lit m)))]) (fun w => h c.v m w hl.1.1 hl.1.2 m0 m1) hl.2 hw hk
  · cases ht
/-! ### memories -/
def cLoad (T : Nat) : CtrAt X := fun args H n k =>
  match args with
  | [.a (.one (.ptr nm b 0)), .a (.one (.int .i64 a))] =>
    match find H nm with
    | some (b', .abs (.mem T' M)) => bif Nat.beq T' T then some (needs [b = b', M.ok] (k (.c (.int .u64 (.sym (M.load a.v)))) (put H nm (.abs (.mem T (M.loaded a.v)))) n)) else none
    | _ => none
  | _ => none
theorem cLoad_ok {P : Program} {g T : Nat} (h : ∀ (w : World) (R : HProp) (mb : Nat) (M : MS) (a : Int), Holds w (MemP T mb M * R) → M.ok → Calls P g #[.pointer (some ⟨mb, 0, none⟩), .int .i64 a] w fun e w' => e = .returned (.int .u64 (M.load a)) ∧ Holds w' (MemP T mb (M.loaded a) * R) ∧ Strm w w') : CAtOk P g (cLoad T : CtrAt X) := by
  intro args H n k t ht L hl w R hw Q hk
  unfold cLoad at ht
  split at ht
  · rename_i nm b a
    split at ht
    · rename_i b' T' M hf
      cases hT : Nat.beq T' T with
      | false => rw [hT] at ht; cases ht
      | true =>
        rw [hT] at ht
        have eT := Nat.eq_of_beq_eq_true hT
        subst eT
        simp only [cond_true, Option.some.injEq] at ht
        subst ht
        obtain ⟨h1, h2⟩ := needs_leads hl
        have e : b = b' := h1 _ (by simp)
        have hok : M.ok := h1 _ (by simp)
        subst e
        refine (h w _ b M a.v (focus hf hw) hok).mono ?_
        rintro e w' ⟨rfl, H2, s⟩
        exact hk _ _ _ w' h2 (unfocus (o1 := .abs (.mem T' (M.loaded a.v))) hf H2) s
    · cases ht
  · cases ht
def cStore (T : Nat) : CtrAt X := fun args H n k =>
  match args with
  | [.a (.one (.ptr nm b 0)), .a (.one (.int .i64 a)), .a (.one (.int .u64 x))] =>
    match find H nm with
    | some (b', .abs (.mem T' M)) => bif Nat.beq T' T then some (needs [b = b', M.ok] (k .un (put H nm (.abs (.mem T (M.store a.v x.v)))) n)) else none
    | _ => none
  | _ => none
theorem cStore_ok {P : Program} {g T : Nat} (h : ∀ (w : World) (R : HProp) (mb : Nat) (M : MS) (a x : Int), Holds w (MemP T mb M * R) → M.ok → Calls P g #[.pointer (some ⟨mb, 0, none⟩), .int .i64 a, .int .u64 x] w fun e w' => e = .returned (.tuple #[]) ∧ Holds w' (MemP T mb (M.store a x) * R) ∧ Strm w w') : CAtOk P g (cStore T : CtrAt X) := by
  intro args H n k t ht L hl w R hw Q hk
  unfold cStore at ht
  split at ht
  · rename_i nm b a x
    split at ht
    · rename_i b' T' M hf
      cases hT : Nat.beq T' T with
      | false => rw [hT] at ht; cases ht
      | true =>
        rw [hT] at ht
        have eT := Nat.eq_of_beq_eq_true hT
        subst eT
        simp only [cond_true, Option.some.injEq] at ht
        subst ht
        obtain ⟨h1, h2⟩ := needs_leads hl
        have e : b = b' := h1 _ (by simp)
        have hok : M.ok := h1 _ (by simp)
        subst e
        refine (h w _ b M a.v x.v (focus hf hw) hok).mono ?_
        rintro e w' ⟨rfl, H2, s⟩
        exact hk _ _ _ w' h2 (unfocus (o1 := .abs (.mem T' (M.store a.v x.v))) hf H2) s
    · cases ht
  · cases ht
def cCas (T : Nat) : CtrAt X := fun args H n k =>
  match args with
  | [.a (.one (.ptr nm b 0)), .a (.one (.int .i64 a)), .a (.one (.int .u64 o)), .a (.one (.int .u64 x))] =>
    match find H nm with
    | some (b', .abs (.mem T' M)) => bif Nat.beq T' T then some (needs [b = b', M.ok] (k (.c (.bool (.sym (M.casOk a.v o.v)))) (put H nm (.abs (.mem T (M.cas a.v o.v x.v)))) n)) else none
    | _ => none
  | _ => none
theorem cCas_ok {P : Program} {g T : Nat} (h : ∀ (w : World) (R : HProp) (mb : Nat) (M : MS) (a o x : Int), Holds w (MemP T mb M * R) → M.ok → Calls P g #[.pointer (some ⟨mb, 0, none⟩), .int .i64 a, .int .u64 o, .int .u64 x] w fun e w' => e = .returned (.bool (M.casOk a o)) ∧ Holds w' (MemP T mb (M.cas a o x) * R) ∧ Strm w w') : CAtOk P g (cCas T : CtrAt X) := by
  intro args H n k t ht L hl w R hw Q hk
  unfold cCas at ht
  split at ht
  · rename_i nm b a o x
    split at ht
    · rename_i b' T' M hf
      cases hT : Nat.beq T' T with
      | false => rw [hT] at ht; cases ht
      | true =>
        rw [hT] at ht
        have eT := Nat.eq_of_beq_eq_true hT
        subst eT
        simp only [cond_true, Option.some.injEq] at ht
        subst ht
        obtain ⟨h1, h2⟩ := needs_leads hl
        have e : b = b' := h1 _ (by simp)
        have hok : M.ok := h1 _ (by simp)
        subst e
        refine (h w _ b M a.v o.v x.v (focus hf hw) hok).mono ?_
        rintro e w' ⟨rfl, H2, s⟩
        exact hk _ _ _ w' h2 (unfocus (o1 := .abs (.mem T' (M.cas a.v o.v x.v))) hf H2) s
    · cases ht
  · cases ht
theorem valA_den (x : SI) : (valA x).den = .agg #[.int .i64 (vK x.v), .int .i64 (vN x.v)] := by
  simp [valA, aggI, SV.den, SA.den, dens, SC.den, m1_v]
theorem headA_den (x : SI) : (headA x).den = (HV.of x.v).agg := by
  simp [headA, aggI, SV.den, SA.den, dens, SC.den, m1_v, HV.agg]
end
theorem noGos : NoGos Try.prog := by
  have h : (Try.prog.funcs.toList.all fun fn => !(fn.name == "runtime.NumGoroutine")) = true := by kernel_rfl
  intro f fn hf
  have hm : fn ∈ Try.prog.funcs.toList := by
    have := Array.mem_of_getElem? hf
    exact Array.mem_toList_iff.2 this
  have := List.all_eq_true.1 h fn hm
  simpa using this
theorem mixedOrders : Try.prog.follows .mixedOrders = true := by kernel_rfl
end Go.Proofs.Ytmmpnjcmaodkcaa.Ev
/- What is proved: this translation's tables of types and functions, as trees of comparisons. Conditions: none. -/
namespace Go.Proofs.Ytmmpnjcmaodkcaa.Ev
open Go
set_option maxRecDepth 100000
set_option linter.unusedVariables false
set_option linter.unusedSimpArgs false
theorem of_range {α : Type} {f g : Nat → α} {n : Nat} (h : (List.range n).map f = (List.range n).map g) {t : Nat} (ht : t < n) : f t = g t := by
  have h1 : ((List.range n).map f)[t]? = ((List.range n).map g)[t]? := by rw [h]
  simpa [ht] using h1
theorem blt_of {t n : Nat} (h : t < n) : Nat.blt t n = true := Nat.ble_eq_true_of_le h
theorem blt_not {t n : Nat} (h : ¬ t < n) : Nat.blt t n = false := by
  cases hh : Nat.blt t n with
  | false => rfl
  | true => exact absurd (Nat.le_of_ble_eq_true hh) h
noncomputable def tUnd (t : Nat) : Option TypeDesc := bif Nat.blt t 87 then (bif Nat.blt t 43 then (bif Nat.blt t 21 then (bif Nat.blt t 10 then (bif Nat.blt t 5 then (bif Nat.blt t 2 then (bif Nat.blt t 1 then (some (TypeDesc.tuple { toList := [] })) else (some (TypeDesc.func { toList := [] } { toList := [] } false))) else (bif Nat.blt t 3 then (some (TypeDesc.int IntKind.i64)) else (bif Nat.blt t 4 then (some (TypeDesc.int IntKind.i64)) else (some TypeDesc.bool)))) else (bif Nat.blt t 7 then (bif Nat.blt t 6 then (some (TypeDesc.int IntKind.u8)) else (some (TypeDesc.int IntKind.u8))) else (bif Nat.blt t 8 then (some (TypeDesc.struct { toList := [{ name := "x", type := 2, offset := 0, embedded := false, tag := "", pkgPath := "runtime", byteOffset := 0 }, { name := "y", type := 3, offset := 1, embedded := false, tag := "", pkgPath := "runtime", byteOffset := 8 }, { name := "signed", type := 4, offset := 2, embedded := false, tag := "", pkgPath := "runtime", byteOffset := 16 }, { name := "code", type := 6, offset := 3, embedded := false, tag := "", pkgPath := "runtime", byteOffset := 17 }] })) else (bif Nat.blt t 9 then (some (TypeDesc.struct { toList := [{ name := "x", type := 2, offset := 0, embedded := false, tag := "", pkgPath := "runtime", byteOffset := 0 }, { name := "y", type := 3, offset := 1, embedded := false, tag := "", pkgPath := "runtime", byteOffset := 8 }, { name := "signed", type := 4, offset := 2, embedded := false, tag := "", pkgPath := "runtime", byteOffset := 16 }, { name := "code", type := 6, offset := 3, embedded := false, tag := "", pkgPath := "runtime", byteOffset := 17 }] })) else (some TypeDesc.string))))) else (bif Nat.blt t 15 then (bif Nat.blt t 12 then (bif Nat.blt t 11 then (some TypeDesc.string) else (some TypeDesc.string)) else (bif Nat.blt t 13 then (some (TypeDesc.int IntKind.u64)) else (bif Nat.blt t 14 then (some (TypeDesc.struct { toList := [{ name := "msg", type := 9, offset := 0, embedded := false, tag := "", pkgPath := "runtime", byteOffset := 0 }, { name := "addr", type := 12, offset := 1, embedded := false, tag := "", pkgPath := "runtime", byteOffset := 16 }] })) else (some (TypeDesc.struct { toList := [{ name := "msg", type := 9, offset := 0, embedded := false, tag := "", pkgPath := "runtime", byteOffset := 0 }, { name := "addr", type := 12, offset := 1, embedded := false, tag := "", pkgPath := "runtime", byteOffset := 16 }] }))))) else (bif Nat.blt t 18 then (bif Nat.blt t 16 then (some (TypeDesc.pointer 160)) else (bif Nat.blt t 17 then (some (TypeDesc.pointer 163)) else (some (TypeDesc.pointer 172)))) else (bif Nat.blt t 19 then (some (TypeDesc.struct { toList := [{ name := "typ", type := 17, offset := 0, embedded := false, tag := "", pkgPath := "internal/runtime/maps", byteOffset := 0 }] })) else (bif Nat.blt t 20 then (some (TypeDesc.struct { toList := [{ name := "typ", type := 17, offset := 0, embedded := false, tag := "", pkgPath := "internal/runtime/maps", byteOffset := 0 }] })) else (some (TypeDesc.interface { toList := [] }))))))) else (bif Nat.blt t 32 then (bif Nat.blt t 26 then (bif Nat.blt t 23 then (bif Nat.blt t 22 then (some (TypeDesc.int IntKind.i32)) else (some (TypeDesc.slice 33))) else (bif Nat.blt t 24 then (some (TypeDesc.slice 3)) else (bif Nat.blt t 25 then (some (TypeDesc.func { toList := [] } { toList := [4] } false)) else (some (TypeDesc.pointer 101))))) else (bif Nat.blt t 29 then (bif Nat.blt t 27 then (some (TypeDesc.pointer 50)) else (bif Nat.blt t 28 then (some (TypeDesc.tuple { toList := [25, 26] })) else (some (TypeDesc.func { toList := [3, 22] } { toList := [25, 26] } false)))) else (bif Nat.blt t 30 then (some (TypeDesc.func { toList := [3, 3] } { toList := [3] } false)) else (bif Nat.blt t 31 then (some (TypeDesc.pointer 90)) else (some (TypeDesc.func { toList := [35, 37] } { toList := [30] } false)))))) else (bif Nat.blt t 37 then (bif Nat.blt t 34 then (bif Nat.blt t 33 then (some (TypeDesc.struct { toList := [{ name := "Kind", type := 3, offset := 0, embedded := false, tag := "", pkgPath := "", byteOffset := 0 }, { name := "N", type := 3, offset := 1, embedded := false, tag := "", pkgPath := "", byteOffset := 8 }] })) else (some (TypeDesc.struct { toList := [{ name := "Kind", type := 3, offset := 0, embedded := false, tag := "", pkgPath := "", byteOffset := 0 }, { name := "N", type := 3, offset := 1, embedded := false, tag := "", pkgPath := "", byteOffset := 8 }] }))) else (bif Nat.blt t 35 then (some (TypeDesc.struct { toList := [{ name := "Op", type := 3, offset := 0, embedded := false, tag := "", pkgPath := "", byteOffset := 0 }, { name := "At", type := 3, offset := 1, embedded := false, tag := "", pkgPath := "", byteOffset := 8 }, { name := "Field", type := 3, offset := 2, embedded := false, tag := "", pkgPath := "", byteOffset := 16 }, { name := "Exp", type := 33, offset := 3, embedded := false, tag := "", pkgPath := "", byteOffset := 24 }, { name := "New", type := 33, offset := 5, embedded := false, tag := "", pkgPath := "", byteOffset := 40 }] })) else (bif Nat.blt t 36 then (some (TypeDesc.struct { toList := [{ name := "Op", type := 3, offset := 0, embedded := false, tag := "", pkgPath := "", byteOffset := 0 }, { name := "At", type := 3, offset := 1, embedded := false, tag := "", pkgPath := "", byteOffset := 8 }, { name := "Field", type := 3, offset := 2, embedded := false, tag := "", pkgPath := "", byteOffset := 16 }, { name := "Exp", type := 33, offset := 3, embedded := false, tag := "", pkgPath := "", byteOffset := 24 }, { name := "New", type := 33, offset := 5, embedded := false, tag := "", pkgPath := "", byteOffset := 40 }] })) else (some (TypeDesc.struct { toList := [{ name := "Mode", type := 3, offset := 0, embedded := false, tag := "", pkgPath := "", byteOffset := 0 }, { name := "Mark", type := 3, offset := 1, embedded := false, tag := "", pkgPath := "", byteOffset := 8 }, { name := "Alpha", type := 3, offset := 2, embedded := false, tag := "", pkgPath := "", byteOffset := 16 }] }))))) else (bif Nat.blt t 40 then (bif Nat.blt t 38 then (some (TypeDesc.struct { toList := [{ name := "Mode", type := 3, offset := 0, embedded := false, tag := "", pkgPath := "", byteOffset := 0 }, { name := "Mark", type := 3, offset := 1, embedded := false, tag := "", pkgPath := "", byteOffset := 8 }, { name := "Alpha", type := 3, offset := 2, embedded := false, tag := "", pkgPath := "", byteOffset := 16 }] })) else (bif Nat.blt t 39 then (some (TypeDesc.int IntKind.u64)) else (some (TypeDesc.struct { toList := [{ name := "pc", type := 3, offset := 0, embedded := false, tag := "", pkgPath := "flit/flitlaw13", byteOffset := 0 }, { name := "w", type := 38, offset := 1, embedded := false, tag := "", pkgPath := "flit/flitlaw13", byteOffset := 8 }] })))) else (bif Nat.blt t 41 then (some (TypeDesc.struct { toList := [{ name := "pc", type := 3, offset := 0, embedded := false, tag := "", pkgPath := "flit/flitlaw13", byteOffset := 0 }, { name := "w", type := 38, offset := 1, embedded := false, tag := "", pkgPath := "flit/flitlaw13", byteOffset := 8 }] })) else (bif Nat.blt t 42 then (some (TypeDesc.func { toList := [25] } { toList := [4] } false)) else (some (TypeDesc.int IntKind.i64)))))))) else (bif Nat.blt t 65 then (bif Nat.blt t 54 then (bif Nat.blt t 48 then (bif Nat.blt t 45 then (bif Nat.blt t 44 then (some (TypeDesc.struct { toList := [{ name := "Code", type := 42, offset := 0, embedded := false, tag := "", pkgPath := "", byteOffset := 0 }, { name := "V", type := 33, offset := 1, embedded := false, tag := "", pkgPath := "", byteOffset := 8 }, { name := "Yes", type := 4, offset := 3, embedded := false, tag := "", pkgPath := "", byteOffset := 24 }] })) else (some (TypeDesc.struct { toList := [{ name := "Code", type := 42, offset := 0, embedded := false, tag := "", pkgPath := "", byteOffset := 0 }, { name := "V", type := 33, offset := 1, embedded := false, tag := "", pkgPath := "", byteOffset := 8 }, { name := "Yes", type := 4, offset := 3, embedded := false, tag := "", pkgPath := "", byteOffset := 24 }] }))) else (bif Nat.blt t 46 then (some (TypeDesc.func { toList := [] } { toList := [44] } false)) else (bif Nat.blt t 47 then (some (TypeDesc.func { toList := [38] } { toList := [33] } false)) else (some (TypeDesc.slice 38))))) else (bif Nat.blt t 51 then (bif Nat.blt t 49 then (some (TypeDesc.slice 128)) else (bif Nat.blt t 50 then (some (TypeDesc.struct { toList := [{ name := "W", type := 47, offset := 0, embedded := false, tag := "", pkgPath := "", byteOffset := 0 }, { name := "Counted", type := 3, offset := 1, embedded := false, tag := "", pkgPath := "", byteOffset := 24 }, { name := "Bad", type := 3, offset := 2, embedded := false, tag := "", pkgPath := "", byteOffset := 32 }, { name := "L", type := 48, offset := 3, embedded := false, tag := "", pkgPath := "", byteOffset := 40 }] })) else (some (TypeDesc.struct { toList := [{ name := "W", type := 47, offset := 0, embedded := false, tag := "", pkgPath := "", byteOffset := 0 }, { name := "Counted", type := 3, offset := 1, embedded := false, tag := "", pkgPath := "", byteOffset := 24 }, { name := "Bad", type := 3, offset := 2, embedded := false, tag := "", pkgPath := "", byteOffset := 32 }, { name := "L", type := 48, offset := 3, embedded := false, tag := "", pkgPath := "", byteOffset := 40 }] })))) else (bif Nat.blt t 52 then (some (TypeDesc.func { toList := [22, 3, 23] } { toList := [4] } false)) else (bif Nat.blt t 53 then (some (TypeDesc.struct { toList := [{ name := "State", type := 3, offset := 0, embedded := false, tag := "", pkgPath := "", byteOffset := 0 }, { name := "Class", type := 3, offset := 1, embedded := false, tag := "", pkgPath := "", byteOffset := 8 }, { name := "Count", type := 3, offset := 2, embedded := false, tag := "", pkgPath := "", byteOffset := 16 }, { name := "Mark", type := 3, offset := 3, embedded := false, tag := "", pkgPath := "", byteOffset := 24 }, { name := "Grey", type := 3, offset := 4, embedded := false, tag := "", pkgPath := "", byteOffset := 32 }, { name := "Tag", type := 3, offset := 5, embedded := false, tag := "", pkgPath := "", byteOffset := 40 }, { name := "Link", type := 3, offset := 6, embedded := false, tag := "", pkgPath := "", byteOffset := 48 }] })) else (some (TypeDesc.struct { toList := [{ name := "State", type := 3, offset := 0, embedded := false, tag := "", pkgPath := "", byteOffset := 0 }, { name := "Class", type := 3, offset := 1, embedded := false, tag := "", pkgPath := "", byteOffset := 8 }, { name := "Count", type := 3, offset := 2, embedded := false, tag := "", pkgPath := "", byteOffset := 16 }, { name := "Mark", type := 3, offset := 3, embedded := false, tag := "", pkgPath := "", byteOffset := 24 }, { name := "Grey", type := 3, offset := 4, embedded := false, tag := "", pkgPath := "", byteOffset := 32 }, { name := "Tag", type := 3, offset := 5, embedded := false, tag := "", pkgPath := "", byteOffset := 40 }, { name := "Link", type := 3, offset := 6, embedded := false, tag := "", pkgPath := "", byteOffset := 48 }] })))))) else (bif Nat.blt t 59 then (bif Nat.blt t 56 then (bif Nat.blt t 55 then (some (TypeDesc.struct { toList := [{ name := "Obj", type := 3, offset := 0, embedded := false, tag := "", pkgPath := "", byteOffset := 0 }, { name := "Field", type := 3, offset := 1, embedded := false, tag := "", pkgPath := "", byteOffset := 8 }, { name := "Act", type := 3, offset := 2, embedded := false, tag := "", pkgPath := "", byteOffset := 16 }, { name := "Mode", type := 3, offset := 3, embedded := false, tag := "", pkgPath := "", byteOffset := 24 }, { name := "Exp", type := 33, offset := 4, embedded := false, tag := "", pkgPath := "", byteOffset := 32 }, { name := "New", type := 33, offset := 6, embedded := false, tag := "", pkgPath := "", byteOffset := 48 }, { name := "Head", type := 53, offset := 8, embedded := false, tag := "", pkgPath := "", byteOffset := 64 }] })) else (some (TypeDesc.struct { toList := [{ name := "Obj", type := 3, offset := 0, embedded := false, tag := "", pkgPath := "", byteOffset := 0 }, { name := "Field", type := 3, offset := 1, embedded := false, tag := "", pkgPath := "", byteOffset := 8 }, { name := "Act", type := 3, offset := 2, embedded := false, tag := "", pkgPath := "", byteOffset := 16 }, { name := "Mode", type := 3, offset := 3, embedded := false, tag := "", pkgPath := "", byteOffset := 24 }, { name := "Exp", type := 33, offset := 4, embedded := false, tag := "", pkgPath := "", byteOffset := 32 }, { name := "New", type := 33, offset := 6, embedded := false, tag := "", pkgPath := "", byteOffset := 48 }, { name := "Head", type := 53, offset := 8, embedded := false, tag := "", pkgPath := "", byteOffset := 64 }] }))) else (bif Nat.blt t 57 then (some (TypeDesc.func { toList := [55] } { toList := [35] } false)) else (bif Nat.blt t 58 then (some (TypeDesc.func { toList := [38] } { toList := [53] } false)) else (some (TypeDesc.func { toList := [3] } { toList := [38] } false))))) else (bif Nat.blt t 62 then (bif Nat.blt t 60 then (some (TypeDesc.func { toList := [22, 55] } { toList := [4] } false)) else (bif Nat.blt t 61 then (some (TypeDesc.func { toList := [33] } { toList := [33] } false)) else (some (TypeDesc.func { toList := [3, 38] } { toList := [] } false)))) else (bif Nat.blt t 63 then (some (TypeDesc.func { toList := [33] } { toList := [38] } false)) else (bif Nat.blt t 64 then (some (TypeDesc.func { toList := [22, 22, 55] } { toList := [4] } false)) else (some (TypeDesc.func { toList := [25, 3] } { toList := [33] } false))))))) else (bif Nat.blt t 76 then (bif Nat.blt t 70 then (bif Nat.blt t 67 then (bif Nat.blt t 66 then (some (TypeDesc.func { toList := [] } { toList := [3] } false)) else (some (TypeDesc.func { toList := [22, 55, 23] } { toList := [4] } false))) else (bif Nat.blt t 68 then (some (TypeDesc.struct { toList := [{ name := "Tag", type := 3, offset := 0, embedded := false, tag := "", pkgPath := "", byteOffset := 0 }, { name := "L", type := 22, offset := 1, embedded := false, tag := "", pkgPath := "", byteOffset := 8 }] })) else (bif Nat.blt t 69 then (some (TypeDesc.struct { toList := [{ name := "Tag", type := 3, offset := 0, embedded := false, tag := "", pkgPath := "", byteOffset := 0 }, { name := "L", type := 22, offset := 1, embedded := false, tag := "", pkgPath := "", byteOffset := 8 }] })) else (some (TypeDesc.slice 55))))) else (bif Nat.blt t 73 then (bif Nat.blt t 71 then (some (TypeDesc.array 3 30)) else (bif Nat.blt t 72 then (some (TypeDesc.pointer 80)) else (some (TypeDesc.array 3 71)))) else (bif Nat.blt t 74 then (some (TypeDesc.func { toList := [53] } { toList := [38] } false)) else (bif Nat.blt t 75 then (some (TypeDesc.func { toList := [55] } { toList := [37] } false)) else (some (TypeDesc.func { toList := [35, 37] } { toList := [71] } false)))))) else (bif Nat.blt t 81 then (bif Nat.blt t 78 then (bif Nat.blt t 77 then (some (TypeDesc.func { toList := [26] } { toList := [4] } false)) else (some (TypeDesc.pointer 107))) else (bif Nat.blt t 79 then (some (TypeDesc.pointer 112)) else (bif Nat.blt t 80 then (some (TypeDesc.struct { toList := [{ name := "R", type := 35, offset := 0, embedded := false, tag := "", pkgPath := "", byteOffset := 0 }, { name := "E", type := 37, offset := 7, embedded := false, tag := "", pkgPath := "", byteOffset := 56 }, { name := "Pc", type := 3, offset := 10, embedded := false, tag := "", pkgPath := "", byteOffset := 80 }, { name := "W", type := 38, offset := 11, embedded := false, tag := "", pkgPath := "", byteOffset := 88 }, { name := "V", type := 33, offset := 12, embedded := false, tag := "", pkgPath := "", byteOffset := 96 }, { name := "X", type := 77, offset := 14, embedded := false, tag := "", pkgPath := "", byteOffset := 112 }, { name := "Y", type := 78, offset := 15, embedded := false, tag := "", pkgPath := "", byteOffset := 120 }, { name := "Shown", type := 4, offset := 16, embedded := false, tag := "", pkgPath := "", byteOffset := 128 }, { name := "Out", type := 44, offset := 17, embedded := false, tag := "", pkgPath := "", byteOffset := 136 }] })) else (some (TypeDesc.struct { toList := [{ name := "R", type := 35, offset := 0, embedded := false, tag := "", pkgPath := "", byteOffset := 0 }, { name := "E", type := 37, offset := 7, embedded := false, tag := "", pkgPath := "", byteOffset := 56 }, { name := "Pc", type := 3, offset := 10, embedded := false, tag := "", pkgPath := "", byteOffset := 80 }, { name := "W", type := 38, offset := 11, embedded := false, tag := "", pkgPath := "", byteOffset := 88 }, { name := "V", type := 33, offset := 12, embedded := false, tag := "", pkgPath := "", byteOffset := 96 }, { name := "X", type := 77, offset := 14, embedded := false, tag := "", pkgPath := "", byteOffset := 112 }, { name := "Y", type := 78, offset := 15, embedded := false, tag := "", pkgPath := "", byteOffset := 120 }, { name := "Shown", type := 4, offset := 16, embedded := false, tag := "", pkgPath := "", byteOffset := 128 }, { name := "Out", type := 44, offset := 17, embedded := false, tag := "", pkgPath := "", byteOffset := 136 }] }))))) else (bif Nat.blt t 84 then (bif Nat.blt t 82 then (some (TypeDesc.func { toList := [25, 26] } { toList := [4] } false)) else (bif Nat.blt t 83 then (some (TypeDesc.func { toList := [68, 69, 23] } { toList := [4] } false)) else (some (TypeDesc.tuple { toList := [25, 42] })))) else (bif Nat.blt t 85 then (some (TypeDesc.func { toList := [3] } { toList := [25, 42] } false)) else (bif Nat.blt t 86 then (some (TypeDesc.tuple { toList := [26, 42] })) else (some (TypeDesc.func { toList := [3] } { toList := [26, 42] } false))))))))) else (bif Nat.blt t 130 then (bif Nat.blt t 108 then (bif Nat.blt t 97 then (bif Nat.blt t 92 then (bif Nat.blt t 89 then (bif Nat.blt t 88 then (some (TypeDesc.pointer 115)) else (some (TypeDesc.pointer 121))) else (bif Nat.blt t 90 then (some (TypeDesc.struct { toList := [{ name := "r", type := 35, offset := 0, embedded := false, tag := "", pkgPath := "flit/chicken", byteOffset := 0 }, { name := "e", type := 37, offset := 7, embedded := false, tag := "", pkgPath := "flit/chicken", byteOffset := 56 }, { name := "pc", type := 3, offset := 10, embedded := false, tag := "", pkgPath := "flit/chicken", byteOffset := 80 }, { name := "w", type := 38, offset := 11, embedded := false, tag := "", pkgPath := "flit/chicken", byteOffset := 88 }, { name := "v", type := 33, offset := 12, embedded := false, tag := "", pkgPath := "flit/chicken", byteOffset := 96 }, { name := "plain", type := 87, offset := 14, embedded := false, tag := "", pkgPath := "flit/chicken", byteOffset := 112 }, { name := "direct", type := 88, offset := 15, embedded := false, tag := "", pkgPath := "flit/chicken", byteOffset := 120 }, { name := "hit", type := 4, offset := 16, embedded := false, tag := "", pkgPath := "flit/chicken", byteOffset := 128 }, { name := "done", type := 4, offset := 17, embedded := false, tag := "", pkgPath := "flit/chicken", byteOffset := 129 }, { name := "out", type := 44, offset := 18, embedded := false, tag := "", pkgPath := "flit/chicken", byteOffset := 136 }] })) else (bif Nat.blt t 91 then (some (TypeDesc.struct { toList := [{ name := "r", type := 35, offset := 0, embedded := false, tag := "", pkgPath := "flit/chicken", byteOffset := 0 }, { name := "e", type := 37, offset := 7, embedded := false, tag := "", pkgPath := "flit/chicken", byteOffset := 56 }, { name := "pc", type := 3, offset := 10, embedded := false, tag := "", pkgPath := "flit/chicken", byteOffset := 80 }, { name := "w", type := 38, offset := 11, embedded := false, tag := "", pkgPath := "flit/chicken", byteOffset := 88 }, { name := "v", type := 33, offset := 12, embedded := false, tag := "", pkgPath := "flit/chicken", byteOffset := 96 }, { name := "plain", type := 87, offset := 14, embedded := false, tag := "", pkgPath := "flit/chicken", byteOffset := 112 }, { name := "direct", type := 88, offset := 15, embedded := false, tag := "", pkgPath := "flit/chicken", byteOffset := 120 }, { name := "hit", type := 4, offset := 16, embedded := false, tag := "", pkgPath := "flit/chicken", byteOffset := 128 }, { name := "done", type := 4, offset := 17, embedded := false, tag := "", pkgPath := "flit/chicken", byteOffset := 129 }, { name := "out", type := 44, offset := 18, embedded := false, tag := "", pkgPath := "flit/chicken", byteOffset := 136 }] })) else (some (TypeDesc.func { toList := [35, 37] } { toList := [87] } false))))) else (bif Nat.blt t 94 then (bif Nat.blt t 93 then (some (TypeDesc.func { toList := [4, 44] } { toList := [] } false)) else (some (TypeDesc.func { toList := [3, 38, 38] } { toList := [4] } false))) else (bif Nat.blt t 95 then (some (TypeDesc.func { toList := [3] } { toList := [] } false)) else (bif Nat.blt t 96 then (some (TypeDesc.pointer 40)) else (some (TypeDesc.func { toList := [38, 3] } { toList := [38] } false)))))) else (bif Nat.blt t 102 then (bif Nat.blt t 99 then (bif Nat.blt t 98 then (some (TypeDesc.func { toList := [38, 3, 3] } { toList := [3] } false)) else (some (TypeDesc.func { toList := [3, 3, 3, 99] } { toList := [] } false))) else (bif Nat.blt t 100 then (some (TypeDesc.func { toList := [47] } { toList := [4] } false)) else (bif Nat.blt t 101 then (some (TypeDesc.struct { toList := [{ name := "words", type := 47, offset := 0, embedded := false, tag := "", pkgPath := "flit/mem", byteOffset := 0 }, { name := "count", type := 3, offset := 1, embedded := false, tag := "", pkgPath := "flit/mem", byteOffset := 24 }, { name := "traps", type := 3, offset := 2, embedded := false, tag := "", pkgPath := "flit/mem", byteOffset := 32 }, { name := "trace", type := 48, offset := 3, embedded := false, tag := "", pkgPath := "flit/mem", byteOffset := 40 }] })) else (some (TypeDesc.struct { toList := [{ name := "words", type := 47, offset := 0, embedded := false, tag := "", pkgPath := "flit/mem", byteOffset := 0 }, { name := "count", type := 3, offset := 1, embedded := false, tag := "", pkgPath := "flit/mem", byteOffset := 24 }, { name := "traps", type := 3, offset := 2, embedded := false, tag := "", pkgPath := "flit/mem", byteOffset := 32 }, { name := "trace", type := 48, offset := 3, embedded := false, tag := "", pkgPath := "flit/mem", byteOffset := 40 }] }))))) else (bif Nat.blt t 105 then (bif Nat.blt t 103 then (some (TypeDesc.int IntKind.u64)) else (bif Nat.blt t 104 then (some (TypeDesc.func { toList := [3] } { toList := [4] } false)) else (some (TypeDesc.func { toList := [3, 3, 4, 4] } { toList := [] } false)))) else (bif Nat.blt t 106 then (some (TypeDesc.func { toList := [35, 37] } { toList := [77] } false)) else (bif Nat.blt t 107 then (some (TypeDesc.struct { toList := [{ name := "R", type := 35, offset := 0, embedded := false, tag := "", pkgPath := "", byteOffset := 0 }, { name := "E", type := 37, offset := 7, embedded := false, tag := "", pkgPath := "", byteOffset := 56 }, { name := "Pc", type := 3, offset := 10, embedded := false, tag := "", pkgPath := "", byteOffset := 80 }, { name := "X", type := 78, offset := 11, embedded := false, tag := "", pkgPath := "", byteOffset := 88 }, { name := "Shown", type := 4, offset := 12, embedded := false, tag := "", pkgPath := "", byteOffset := 96 }, { name := "Out", type := 44, offset := 13, embedded := false, tag := "", pkgPath := "", byteOffset := 104 }] })) else (some (TypeDesc.struct { toList := [{ name := "R", type := 35, offset := 0, embedded := false, tag := "", pkgPath := "", byteOffset := 0 }, { name := "E", type := 37, offset := 7, embedded := false, tag := "", pkgPath := "", byteOffset := 56 }, { name := "Pc", type := 3, offset := 10, embedded := false, tag := "", pkgPath := "", byteOffset := 80 }, { name := "X", type := 78, offset := 11, embedded := false, tag := "", pkgPath := "", byteOffset := 88 }, { name := "Shown", type := 4, offset := 12, embedded := false, tag := "", pkgPath := "", byteOffset := 96 }, { name := "Out", type := 44, offset := 13, embedded := false, tag := "", pkgPath := "", byteOffset := 104 }] }))))))) else (bif Nat.blt t 119 then (bif Nat.blt t 113 then (bif Nat.blt t 110 then (bif Nat.blt t 109 then (some (TypeDesc.struct { toList := [{ name := "Shade", type := 4, offset := 0, embedded := false, tag := "", pkgPath := "", byteOffset := 0 }, { name := "Canon", type := 4, offset := 1, embedded := false, tag := "", pkgPath := "", byteOffset := 1 }, { name := "Fix", type := 4, offset := 2, embedded := false, tag := "", pkgPath := "", byteOffset := 2 }, { name := "Mark", type := 3, offset := 3, embedded := false, tag := "", pkgPath := "", byteOffset := 8 }] })) else (some (TypeDesc.struct { toList := [{ name := "Shade", type := 4, offset := 0, embedded := false, tag := "", pkgPath := "", byteOffset := 0 }, { name := "Canon", type := 4, offset := 1, embedded := false, tag := "", pkgPath := "", byteOffset := 1 }, { name := "Fix", type := 4, offset := 2, embedded := false, tag := "", pkgPath := "", byteOffset := 2 }, { name := "Mark", type := 3, offset := 3, embedded := false, tag := "", pkgPath := "", byteOffset := 8 }] }))) else (bif Nat.blt t 111 then (some (TypeDesc.pointer 138)) else (bif Nat.blt t 112 then (some (TypeDesc.struct { toList := [{ name := "F", type := 3, offset := 0, embedded := false, tag := "", pkgPath := "", byteOffset := 0 }, { name := "R", type := 35, offset := 1, embedded := false, tag := "", pkgPath := "", byteOffset := 8 }, { name := "H", type := 109, offset := 8, embedded := false, tag := "", pkgPath := "", byteOffset := 64 }, { name := "Pc", type := 3, offset := 12, embedded := false, tag := "", pkgPath := "", byteOffset := 80 }, { name := "W", type := 38, offset := 13, embedded := false, tag := "", pkgPath := "", byteOffset := 88 }, { name := "A", type := 3, offset := 14, embedded := false, tag := "", pkgPath := "", byteOffset := 96 }, { name := "X", type := 110, offset := 15, embedded := false, tag := "", pkgPath := "", byteOffset := 104 }, { name := "Shown", type := 4, offset := 16, embedded := false, tag := "", pkgPath := "", byteOffset := 112 }, { name := "Out", type := 44, offset := 17, embedded := false, tag := "", pkgPath := "", byteOffset := 120 }] })) else (some (TypeDesc.struct { toList := [{ name := "F", type := 3, offset := 0, embedded := false, tag := "", pkgPath := "", byteOffset := 0 }, { name := "R", type := 35, offset := 1, embedded := false, tag := "", pkgPath := "", byteOffset := 8 }, { name := "H", type := 109, offset := 8, embedded := false, tag := "", pkgPath := "", byteOffset := 64 }, { name := "Pc", type := 3, offset := 12, embedded := false, tag := "", pkgPath := "", byteOffset := 80 }, { name := "W", type := 38, offset := 13, embedded := false, tag := "", pkgPath := "", byteOffset := 88 }, { name := "A", type := 3, offset := 14, embedded := false, tag := "", pkgPath := "", byteOffset := 96 }, { name := "X", type := 110, offset := 15, embedded := false, tag := "", pkgPath := "", byteOffset := 104 }, { name := "Shown", type := 4, offset := 16, embedded := false, tag := "", pkgPath := "", byteOffset := 112 }, { name := "Out", type := 44, offset := 17, embedded := false, tag := "", pkgPath := "", byteOffset := 120 }] }))))) else (bif Nat.blt t 116 then (bif Nat.blt t 114 then (some (TypeDesc.func { toList := [] } { toList := [25] } false)) else (bif Nat.blt t 115 then (some (TypeDesc.struct { toList := [{ name := "r", type := 35, offset := 0, embedded := false, tag := "", pkgPath := "flit/direct", byteOffset := 0 }, { name := "e", type := 37, offset := 7, embedded := false, tag := "", pkgPath := "flit/direct", byteOffset := 56 }, { name := "direct", type := 88, offset := 10, embedded := false, tag := "", pkgPath := "flit/direct", byteOffset := 80 }, { name := "done", type := 4, offset := 11, embedded := false, tag := "", pkgPath := "flit/direct", byteOffset := 88 }, { name := "out", type := 44, offset := 12, embedded := false, tag := "", pkgPath := "flit/direct", byteOffset := 96 }] })) else (some (TypeDesc.struct { toList := [{ name := "r", type := 35, offset := 0, embedded := false, tag := "", pkgPath := "flit/direct", byteOffset := 0 }, { name := "e", type := 37, offset := 7, embedded := false, tag := "", pkgPath := "flit/direct", byteOffset := 56 }, { name := "direct", type := 88, offset := 10, embedded := false, tag := "", pkgPath := "flit/direct", byteOffset := 80 }, { name := "done", type := 4, offset := 11, embedded := false, tag := "", pkgPath := "flit/direct", byteOffset := 88 }, { name := "out", type := 44, offset := 12, embedded := false, tag := "", pkgPath := "flit/direct", byteOffset := 96 }] })))) else (bif Nat.blt t 117 then (some (TypeDesc.func { toList := [3, 35, 117] } { toList := [88] } false)) else (bif Nat.blt t 118 then (some (TypeDesc.struct { toList := [{ name := "Shade", type := 4, offset := 0, embedded := false, tag := "", pkgPath := "", byteOffset := 0 }, { name := "Canon", type := 4, offset := 1, embedded := false, tag := "", pkgPath := "", byteOffset := 1 }, { name := "Fix", type := 4, offset := 2, embedded := false, tag := "", pkgPath := "", byteOffset := 2 }, { name := "Mark", type := 3, offset := 3, embedded := false, tag := "", pkgPath := "", byteOffset := 8 }] })) else (some (TypeDesc.func { toList := [25] } { toList := [119] } false)))))) else (bif Nat.blt t 124 then (bif Nat.blt t 121 then (bif Nat.blt t 120 then (some (TypeDesc.func { toList := [25] } { toList := [119] } false)) else (some (TypeDesc.struct { toList := [{ name := "next", type := 119, offset := 0, embedded := false, tag := "", pkgPath := "flit/direct", byteOffset := 0 }, { name := "field", type := 3, offset := 1, embedded := false, tag := "", pkgPath := "flit/direct", byteOffset := 8 }, { name := "r", type := 35, offset := 2, embedded := false, tag := "", pkgPath := "flit/direct", byteOffset := 16 }, { name := "how", type := 117, offset := 9, embedded := false, tag := "", pkgPath := "flit/direct", byteOffset := 72 }, { name := "w", type := 38, offset := 13, embedded := false, tag := "", pkgPath := "flit/direct", byteOffset := 88 }, { name := "hit", type := 4, offset := 14, embedded := false, tag := "", pkgPath := "flit/direct", byteOffset := 96 }, { name := "out", type := 44, offset := 15, embedded := false, tag := "", pkgPath := "flit/direct", byteOffset := 104 }] }))) else (bif Nat.blt t 122 then (some (TypeDesc.struct { toList := [{ name := "next", type := 119, offset := 0, embedded := false, tag := "", pkgPath := "flit/direct", byteOffset := 0 }, { name := "field", type := 3, offset := 1, embedded := false, tag := "", pkgPath := "flit/direct", byteOffset := 8 }, { name := "r", type := 35, offset := 2, embedded := false, tag := "", pkgPath := "flit/direct", byteOffset := 16 }, { name := "how", type := 117, offset := 9, embedded := false, tag := "", pkgPath := "flit/direct", byteOffset := 72 }, { name := "w", type := 38, offset := 13, embedded := false, tag := "", pkgPath := "flit/direct", byteOffset := 88 }, { name := "hit", type := 4, offset := 14, embedded := false, tag := "", pkgPath := "flit/direct", byteOffset := 96 }, { name := "out", type := 44, offset := 15, embedded := false, tag := "", pkgPath := "flit/direct", byteOffset := 104 }] })) else (bif Nat.blt t 123 then (some (TypeDesc.array 7 3)) else (some (TypeDesc.func { toList := [38, 23] } { toList := [122] } true))))) else (bif Nat.blt t 127 then (bif Nat.blt t 125 then (some (TypeDesc.func { toList := [135] } { toList := [38] } true)) else (bif Nat.blt t 126 then (some (TypeDesc.struct { toList := [{ name := "n", type := 3, offset := 0, embedded := false, tag := "", pkgPath := "flit/head", byteOffset := 0 }, { name := "bits", type := 3, offset := 1, embedded := false, tag := "", pkgPath := "flit/head", byteOffset := 8 }] })) else (some (TypeDesc.struct { toList := [{ name := "n", type := 3, offset := 0, embedded := false, tag := "", pkgPath := "flit/head", byteOffset := 0 }, { name := "bits", type := 3, offset := 1, embedded := false, tag := "", pkgPath := "flit/head", byteOffset := 8 }] })))) else (bif Nat.blt t 128 then (some (TypeDesc.struct { toList := [{ name := "Op", type := 3, offset := 0, embedded := false, tag := "", pkgPath := "", byteOffset := 0 }, { name := "At", type := 3, offset := 1, embedded := false, tag := "", pkgPath := "", byteOffset := 8 }, { name := "OK", type := 4, offset := 2, embedded := false, tag := "", pkgPath := "", byteOffset := 16 }] })) else (bif Nat.blt t 129 then (some (TypeDesc.struct { toList := [{ name := "Op", type := 3, offset := 0, embedded := false, tag := "", pkgPath := "", byteOffset := 0 }, { name := "At", type := 3, offset := 1, embedded := false, tag := "", pkgPath := "", byteOffset := 8 }, { name := "OK", type := 4, offset := 2, embedded := false, tag := "", pkgPath := "", byteOffset := 16 }] })) else (some (TypeDesc.func { toList := [3, 35, 109] } { toList := [78] } false)))))))) else (bif Nat.blt t 152 then (bif Nat.blt t 141 then (bif Nat.blt t 135 then (bif Nat.blt t 132 then (bif Nat.blt t 131 then (some (TypeDesc.func { toList := [33] } { toList := [4] } false)) else (some (TypeDesc.func { toList := [38, 3] } { toList := [3] } false))) else (bif Nat.blt t 133 then (some (TypeDesc.func { toList := [4, 3] } { toList := [3] } false)) else (bif Nat.blt t 134 then (some (TypeDesc.func { toList := [47] } { toList := [47] } false)) else (some (TypeDesc.func { toList := [48] } { toList := [48] } false))))) else (bif Nat.blt t 138 then (bif Nat.blt t 136 then (some (TypeDesc.slice 126)) else (bif Nat.blt t 137 then (some (TypeDesc.func { toList := [3, 3] } { toList := [110] } false)) else (some (TypeDesc.struct { toList := [{ name := "At", type := 3, offset := 0, embedded := false, tag := "", pkgPath := "", byteOffset := 0 }, { name := "Mark", type := 3, offset := 1, embedded := false, tag := "", pkgPath := "", byteOffset := 8 }, { name := "Pc", type := 3, offset := 2, embedded := false, tag := "", pkgPath := "", byteOffset := 16 }, { name := "H", type := 53, offset := 3, embedded := false, tag := "", pkgPath := "", byteOffset := 24 }, { name := "W", type := 38, offset := 10, embedded := false, tag := "", pkgPath := "", byteOffset := 80 }] })))) else (bif Nat.blt t 139 then (some (TypeDesc.struct { toList := [{ name := "At", type := 3, offset := 0, embedded := false, tag := "", pkgPath := "", byteOffset := 0 }, { name := "Mark", type := 3, offset := 1, embedded := false, tag := "", pkgPath := "", byteOffset := 8 }, { name := "Pc", type := 3, offset := 2, embedded := false, tag := "", pkgPath := "", byteOffset := 16 }, { name := "H", type := 53, offset := 3, embedded := false, tag := "", pkgPath := "", byteOffset := 24 }, { name := "W", type := 38, offset := 10, embedded := false, tag := "", pkgPath := "", byteOffset := 80 }] })) else (bif Nat.blt t 140 then (some (TypeDesc.struct { toList := [{ name := "At", type := 3, offset := 0, embedded := false, tag := "", pkgPath := "", byteOffset := 0 }, { name := "Ver", type := 3, offset := 1, embedded := false, tag := "", pkgPath := "", byteOffset := 8 }] })) else (some (TypeDesc.struct { toList := [{ name := "At", type := 3, offset := 0, embedded := false, tag := "", pkgPath := "", byteOffset := 0 }, { name := "Ver", type := 3, offset := 1, embedded := false, tag := "", pkgPath := "", byteOffset := 8 }] })))))) else (bif Nat.blt t 146 then (bif Nat.blt t 143 then (bif Nat.blt t 142 then (some (TypeDesc.func { toList := [38] } { toList := [140] } false)) else (some (TypeDesc.func { toList := [25] } { toList := [33] } false))) else (bif Nat.blt t 144 then (some (TypeDesc.func { toList := [119, 22] } { toList := [119] } true)) else (bif Nat.blt t 145 then (some (TypeDesc.func { toList := [] } { toList := [119] } false)) else (some (TypeDesc.func { toList := [25, 3] } { toList := [3] } false))))) else (bif Nat.blt t 149 then (bif Nat.blt t 147 then (some (TypeDesc.func { toList := [140] } { toList := [38] } false)) else (bif Nat.blt t 148 then (some (TypeDesc.pointer 151)) else (some (TypeDesc.func { toList := [3, 3] } { toList := [147] } false)))) else (bif Nat.blt t 150 then (some (TypeDesc.func { toList := [38, 3, 3, 3] } { toList := [38] } false)) else (bif Nat.blt t 151 then (some (TypeDesc.struct { toList := [{ name := "at", type := 3, offset := 0, embedded := false, tag := "", pkgPath := "flit/grey", byteOffset := 0 }, { name := "mark", type := 3, offset := 1, embedded := false, tag := "", pkgPath := "flit/grey", byteOffset := 8 }, { name := "pc", type := 3, offset := 2, embedded := false, tag := "", pkgPath := "flit/grey", byteOffset := 16 }, { name := "w", type := 38, offset := 3, embedded := false, tag := "", pkgPath := "flit/grey", byteOffset := 24 }, { name := "h", type := 53, offset := 4, embedded := false, tag := "", pkgPath := "flit/grey", byteOffset := 32 }] })) else (some (TypeDesc.struct { toList := [{ name := "at", type := 3, offset := 0, embedded := false, tag := "", pkgPath := "flit/grey", byteOffset := 0 }, { name := "mark", type := 3, offset := 1, embedded := false, tag := "", pkgPath := "flit/grey", byteOffset := 8 }, { name := "pc", type := 3, offset := 2, embedded := false, tag := "", pkgPath := "flit/grey", byteOffset := 16 }, { name := "w", type := 38, offset := 3, embedded := false, tag := "", pkgPath := "flit/grey", byteOffset := 24 }, { name := "h", type := 53, offset := 4, embedded := false, tag := "", pkgPath := "flit/grey", byteOffset := 32 }] }))))))) else (bif Nat.blt t 163 then (bif Nat.blt t 157 then (bif Nat.blt t 154 then (bif Nat.blt t 153 then (some (TypeDesc.func { toList := [] } { toList := [38] } false)) else (some (TypeDesc.func { toList := [154, 3] } { toList := [3] } false))) else (bif Nat.blt t 155 then (some (TypeDesc.pointer 38)) else (bif Nat.blt t 156 then (some (TypeDesc.struct { toList := [{ name := "w", type := 38, offset := 0, embedded := false, tag := "", pkgPath := "flit/stamp", byteOffset := 0 }, { name := "n", type := 3, offset := 1, embedded := false, tag := "", pkgPath := "flit/stamp", byteOffset := 8 }] })) else (some (TypeDesc.struct { toList := [{ name := "w", type := 38, offset := 0, embedded := false, tag := "", pkgPath := "flit/stamp", byteOffset := 0 }, { name := "n", type := 3, offset := 1, embedded := false, tag := "", pkgPath := "flit/stamp", byteOffset := 8 }] }))))) else (bif Nat.blt t 160 then (bif Nat.blt t 158 then (some (TypeDesc.func { toList := [3, 3] } { toList := [156] } false)) else (bif Nat.blt t 159 then (some (TypeDesc.func { toList := [] } { toList := [9] } false)) else (some (TypeDesc.struct { toList := [{ name := "_interface", type := 17, offset := 0, embedded := false, tag := "", pkgPath := "runtime", byteOffset := 0 }, { name := "concrete", type := 17, offset := 1, embedded := false, tag := "", pkgPath := "runtime", byteOffset := 8 }, { name := "asserted", type := 17, offset := 2, embedded := false, tag := "", pkgPath := "runtime", byteOffset := 16 }, { name := "missingMethod", type := 9, offset := 3, embedded := false, tag := "", pkgPath := "runtime", byteOffset := 24 }] })))) else (bif Nat.blt t 161 then (some (TypeDesc.struct { toList := [{ name := "_interface", type := 17, offset := 0, embedded := false, tag := "", pkgPath := "runtime", byteOffset := 0 }, { name := "concrete", type := 17, offset := 1, embedded := false, tag := "", pkgPath := "runtime", byteOffset := 8 }, { name := "asserted", type := 17, offset := 2, embedded := false, tag := "", pkgPath := "runtime", byteOffset := 16 }, { name := "missingMethod", type := 9, offset := 3, embedded := false, tag := "", pkgPath := "runtime", byteOffset := 24 }] })) else (bif Nat.blt t 162 then (some (TypeDesc.array 0 16)) else (some (TypeDesc.struct { toList := [{ name := "_", type := 161, offset := 0, embedded := false, tag := "", pkgPath := "runtime", byteOffset := 0 }] })))))) else (bif Nat.blt t 168 then (bif Nat.blt t 165 then (bif Nat.blt t 164 then (some (TypeDesc.struct { toList := [{ name := "_", type := 161, offset := 0, embedded := false, tag := "", pkgPath := "runtime", byteOffset := 0 }] })) else (some (TypeDesc.int IntKind.u32))) else (bif Nat.blt t 166 then (some (TypeDesc.int IntKind.u8)) else (bif Nat.blt t 167 then (some (TypeDesc.int IntKind.u8)) else (some (TypeDesc.func { toList := [173, 173] } { toList := [4] } false))))) else (bif Nat.blt t 171 then (bif Nat.blt t 169 then (some (TypeDesc.pointer 5)) else (bif Nat.blt t 170 then (some (TypeDesc.int IntKind.i32)) else (some (TypeDesc.int IntKind.i32)))) else (bif Nat.blt t 172 then (some (TypeDesc.struct { toList := [{ name := "Size_", type := 12, offset := 0, embedded := false, tag := "", pkgPath := "", byteOffset := 0 }, { name := "PtrBytes", type := 12, offset := 1, embedded := false, tag := "", pkgPath := "", byteOffset := 8 }, { name := "Hash", type := 164, offset := 2, embedded := false, tag := "", pkgPath := "", byteOffset := 16 }, { name := "TFlag", type := 165, offset := 3, embedded := false, tag := "", pkgPath := "", byteOffset := 20 }, { name := "Align_", type := 5, offset := 4, embedded := false, tag := "", pkgPath := "", byteOffset := 21 }, { name := "FieldAlign_", type := 5, offset := 5, embedded := false, tag := "", pkgPath := "", byteOffset := 22 }, { name := "Kind_", type := 166, offset := 6, embedded := false, tag := "", pkgPath := "", byteOffset := 23 }, { name := "Equal", type := 167, offset := 7, embedded := false, tag := "", pkgPath := "", byteOffset := 24 }, { name := "GCData", type := 168, offset := 8, embedded := false, tag := "", pkgPath := "", byteOffset := 32 }, { name := "Str", type := 169, offset := 9, embedded := false, tag := "", pkgPath := "", byteOffset := 40 }, { name := "PtrToThis", type := 170, offset := 10, embedded := false, tag := "", pkgPath := "", byteOffset := 44 }] })) else (bif Nat.blt t 173 then (some (TypeDesc.struct { toList := [{ name := "Size_", type := 12, offset := 0, embedded := false, tag := "", pkgPath := "", byteOffset := 0 }, { name := "PtrBytes", type := 12, offset := 1, embedded := false, tag := "", pkgPath := "", byteOffset := 8 }, { name := "Hash", type := 164, offset := 2, embedded := false, tag := "", pkgPath := "", byteOffset := 16 }, { name := "TFlag", type := 165, offset := 3, embedded := false, tag := "", pkgPath := "", byteOffset := 20 }, { name := "Align_", type := 5, offset := 4, embedded := false, tag := "", pkgPath := "", byteOffset := 21 }, { name := "FieldAlign_", type := 5, offset := 5, embedded := false, tag := "", pkgPath := "", byteOffset := 22 }, { name := "Kind_", type := 166, offset := 6, embedded := false, tag := "", pkgPath := "", byteOffset := 23 }, { name := "Equal", type := 167, offset := 7, embedded := false, tag := "", pkgPath := "", byteOffset := 24 }, { name := "GCData", type := 168, offset := 8, embedded := false, tag := "", pkgPath := "", byteOffset := 32 }, { name := "Str", type := 169, offset := 9, embedded := false, tag := "", pkgPath := "", byteOffset := 40 }, { name := "PtrToThis", type := 170, offset := 10, embedded := false, tag := "", pkgPath := "", byteOffset := 44 }] })) else (some TypeDesc.unsafePointer))))))))
noncomputable def tSize (t : Nat) : Option Nat := bif Nat.blt t 87 then (bif Nat.blt t 43 then (bif Nat.blt t 21 then (bif Nat.blt t 10 then (bif Nat.blt t 5 then (bif Nat.blt t 2 then (bif Nat.blt t 1 then (some 1) else (some 1)) else (bif Nat.blt t 3 then (some 1) else (bif Nat.blt t 4 then (some 1) else (some 1)))) else (bif Nat.blt t 7 then (bif Nat.blt t 6 then (some 1) else (some 1)) else (bif Nat.blt t 8 then (some 4) else (bif Nat.blt t 9 then (some 4) else (some 1))))) else (bif Nat.blt t 15 then (bif Nat.blt t 12 then (bif Nat.blt t 11 then (some 1) else (some 1)) else (bif Nat.blt t 13 then (some 1) else (bif Nat.blt t 14 then (some 2) else (some 2)))) else (bif Nat.blt t 18 then (bif Nat.blt t 16 then (some 1) else (bif Nat.blt t 17 then (some 1) else (some 1))) else (bif Nat.blt t 19 then (some 1) else (bif Nat.blt t 20 then (some 1) else (some 1)))))) else (bif Nat.blt t 32 then (bif Nat.blt t 26 then (bif Nat.blt t 23 then (bif Nat.blt t 22 then (some 1) else (some 1)) else (bif Nat.blt t 24 then (some 1) else (bif Nat.blt t 25 then (some 1) else (some 1)))) else (bif Nat.blt t 29 then (bif Nat.blt t 27 then (some 1) else (bif Nat.blt t 28 then (some 1) else (some 1))) else (bif Nat.blt t 30 then (some 1) else (bif Nat.blt t 31 then (some 1) else (some 1))))) else (bif Nat.blt t 37 then (bif Nat.blt t 34 then (bif Nat.blt t 33 then (some 2) else (some 2)) else (bif Nat.blt t 35 then (some 7) else (bif Nat.blt t 36 then (some 7) else (some 3)))) else (bif Nat.blt t 40 then (bif Nat.blt t 38 then (some 3) else (bif Nat.blt t 39 then (some 1) else (some 2))) else (bif Nat.blt t 41 then (some 2) else (bif Nat.blt t 42 then (some 1) else (some 1))))))) else (bif Nat.blt t 65 then (bif Nat.blt t 54 then (bif Nat.blt t 48 then (bif Nat.blt t 45 then (bif Nat.blt t 44 then (some 4) else (some 4)) else (bif Nat.blt t 46 then (some 1) else (bif Nat.blt t 47 then (some 1) else (some 1)))) else (bif Nat.blt t 51 then (bif Nat.blt t 49 then (some 1) else (bif Nat.blt t 50 then (some 4) else (some 4))) else (bif Nat.blt t 52 then (some 1) else (bif Nat.blt t 53 then (some 7) else (some 7))))) else (bif Nat.blt t 59 then (bif Nat.blt t 56 then (bif Nat.blt t 55 then (some 15) else (some 15)) else (bif Nat.blt t 57 then (some 1) else (bif Nat.blt t 58 then (some 1) else (some 1)))) else (bif Nat.blt t 62 then (bif Nat.blt t 60 then (some 1) else (bif Nat.blt t 61 then (some 1) else (some 1))) else (bif Nat.blt t 63 then (some 1) else (bif Nat.blt t 64 then (some 1) else (some 1)))))) else (bif Nat.blt t 76 then (bif Nat.blt t 70 then (bif Nat.blt t 67 then (bif Nat.blt t 66 then (some 1) else (some 1)) else (bif Nat.blt t 68 then (some 2) else (bif Nat.blt t 69 then (some 2) else (some 1)))) else (bif Nat.blt t 73 then (bif Nat.blt t 71 then (some 3) else (bif Nat.blt t 72 then (some 1) else (some 3))) else (bif Nat.blt t 74 then (some 1) else (bif Nat.blt t 75 then (some 1) else (some 1))))) else (bif Nat.blt t 81 then (bif Nat.blt t 78 then (bif Nat.blt t 77 then (some 1) else (some 1)) else (bif Nat.blt t 79 then (some 1) else (bif Nat.blt t 80 then (some 21) else (some 21)))) else (bif Nat.blt t 84 then (bif Nat.blt t 82 then (some 1) else (bif Nat.blt t 83 then (some 1) else (some 1))) else (bif Nat.blt t 85 then (some 1) else (bif Nat.blt t 86 then (some 1) else (some 1)))))))) else (bif Nat.blt t 130 then (bif Nat.blt t 108 then (bif Nat.blt t 97 then (bif Nat.blt t 92 then (bif Nat.blt t 89 then (bif Nat.blt t 88 then (some 1) else (some 1)) else (bif Nat.blt t 90 then (some 22) else (bif Nat.blt t 91 then (some 22) else (some 1)))) else (bif Nat.blt t 94 then (bif Nat.blt t 93 then (some 1) else (some 1)) else (bif Nat.blt t 95 then (some 1) else (bif Nat.blt t 96 then (some 1) else (some 1))))) else (bif Nat.blt t 102 then (bif Nat.blt t 99 then (bif Nat.blt t 98 then (some 1) else (some 1)) else (bif Nat.blt t 100 then (some 1) else (bif Nat.blt t 101 then (some 4) else (some 4)))) else (bif Nat.blt t 105 then (bif Nat.blt t 103 then (some 1) else (bif Nat.blt t 104 then (some 1) else (some 1))) else (bif Nat.blt t 106 then (some 1) else (bif Nat.blt t 107 then (some 17) else (some 17)))))) else (bif Nat.blt t 119 then (bif Nat.blt t 113 then (bif Nat.blt t 110 then (bif Nat.blt t 109 then (some 4) else (some 4)) else (bif Nat.blt t 111 then (some 1) else (bif Nat.blt t 112 then (some 21) else (some 21)))) else (bif Nat.blt t 116 then (bif Nat.blt t 114 then (some 1) else (bif Nat.blt t 115 then (some 16) else (some 16))) else (bif Nat.blt t 117 then (some 1) else (bif Nat.blt t 118 then (some 4) else (some 1))))) else (bif Nat.blt t 124 then (bif Nat.blt t 121 then (bif Nat.blt t 120 then (some 1) else (some 19)) else (bif Nat.blt t 122 then (some 19) else (bif Nat.blt t 123 then (some 7) else (some 1)))) else (bif Nat.blt t 127 then (bif Nat.blt t 125 then (some 1) else (bif Nat.blt t 126 then (some 2) else (some 2))) else (bif Nat.blt t 128 then (some 3) else (bif Nat.blt t 129 then (some 3) else (some 1))))))) else (bif Nat.blt t 152 then (bif Nat.blt t 141 then (bif Nat.blt t 135 then (bif Nat.blt t 132 then (bif Nat.blt t 131 then (some 1) else (some 1)) else (bif Nat.blt t 133 then (some 1) else (bif Nat.blt t 134 then (some 1) else (some 1)))) else (bif Nat.blt t 138 then (bif Nat.blt t 136 then (some 1) else (bif Nat.blt t 137 then (some 1) else (some 11))) else (bif Nat.blt t 139 then (some 11) else (bif Nat.blt t 140 then (some 2) else (some 2))))) else (bif Nat.blt t 146 then (bif Nat.blt t 143 then (bif Nat.blt t 142 then (some 1) else (some 1)) else (bif Nat.blt t 144 then (some 1) else (bif Nat.blt t 145 then (some 1) else (some 1)))) else (bif Nat.blt t 149 then (bif Nat.blt t 147 then (some 1) else (bif Nat.blt t 148 then (some 1) else (some 1))) else (bif Nat.blt t 150 then (some 1) else (bif Nat.blt t 151 then (some 11) else (some 11)))))) else (bif Nat.blt t 163 then (bif Nat.blt t 157 then (bif Nat.blt t 154 then (bif Nat.blt t 153 then (some 1) else (some 1)) else (bif Nat.blt t 155 then (some 1) else (bif Nat.blt t 156 then (some 2) else (some 2)))) else (bif Nat.blt t 160 then (bif Nat.blt t 158 then (some 1) else (bif Nat.blt t 159 then (some 1) else (some 4))) else (bif Nat.blt t 161 then (some 4) else (bif Nat.blt t 162 then (some 0) else (some 0))))) else (bif Nat.blt t 168 then (bif Nat.blt t 165 then (bif Nat.blt t 164 then (some 0) else (some 1)) else (bif Nat.blt t 166 then (some 1) else (bif Nat.blt t 167 then (some 1) else (some 1)))) else (bif Nat.blt t 171 then (bif Nat.blt t 169 then (some 1) else (bif Nat.blt t 170 then (some 1) else (some 1))) else (bif Nat.blt t 172 then (some 11) else (bif Nat.blt t 173 then (some 11) else (some 1))))))))
noncomputable def tZero (t : Nat) : Option Value := bif Nat.blt t 87 then (bif Nat.blt t 43 then (bif Nat.blt t 21 then (bif Nat.blt t 10 then (bif Nat.blt t 5 then (bif Nat.blt t 2 then (bif Nat.blt t 1 then (some (Value.tuple { toList := [] })) else (some Value.nilFunc)) else (bif Nat.blt t 3 then (some (Value.int IntKind.i64 0)) else (bif Nat.blt t 4 then (some (Value.int IntKind.i64 0)) else (some (Value.bool false))))) else (bif Nat.blt t 7 then (bif Nat.blt t 6 then (some (Value.int IntKind.u8 0)) else (some (Value.int IntKind.u8 0))) else (bif Nat.blt t 8 then (some (Value.agg { toList := [Value.int IntKind.i64 0, Value.int IntKind.i64 0, Value.bool false, Value.int IntKind.u8 0] })) else (bif Nat.blt t 9 then (some (Value.agg { toList := [Value.int IntKind.i64 0, Value.int IntKind.i64 0, Value.bool false, Value.int IntKind.u8 0] })) else (some (Value.string { data := { toList := [] } })))))) else (bif Nat.blt t 15 then (bif Nat.blt t 12 then (bif Nat.blt t 11 then (some (Value.string { data := { toList := [] } })) else (some (Value.string { data := { toList := [] } }))) else (bif Nat.blt t 13 then (some (Value.int IntKind.u64 0)) else (bif Nat.blt t 14 then (some (Value.agg { toList := [Value.string { data := { toList := [] } }, Value.int IntKind.u64 0] })) else (some (Value.agg { toList := [Value.string { data := { toList := [] } }, Value.int IntKind.u64 0] }))))) else (bif Nat.blt t 18 then (bif Nat.blt t 16 then (some (Value.pointer none)) else (bif Nat.blt t 17 then (some (Value.pointer none)) else (some (Value.pointer none)))) else (bif Nat.blt t 19 then (some (Value.agg { toList := [Value.pointer none] })) else (bif Nat.blt t 20 then (some (Value.agg { toList := [Value.pointer none] })) else (some Value.nilIface)))))) else (bif Nat.blt t 32 then (bif Nat.blt t 26 then (bif Nat.blt t 23 then (bif Nat.blt t 22 then (some (Value.int IntKind.i32 0)) else (some (Value.slice none 0 0))) else (bif Nat.blt t 24 then (some (Value.slice none 0 0)) else (bif Nat.blt t 25 then (some Value.nilFunc) else (some (Value.pointer none))))) else (bif Nat.blt t 29 then (bif Nat.blt t 27 then (some (Value.pointer none)) else (bif Nat.blt t 28 then (some (Value.tuple { toList := [Value.pointer none, Value.pointer none] })) else (some Value.nilFunc))) else (bif Nat.blt t 30 then (some Value.nilFunc) else (bif Nat.blt t 31 then (some (Value.pointer none)) else (some Value.nilFunc))))) else (bif Nat.blt t 37 then (bif Nat.blt t 34 then (bif Nat.blt t 33 then (some (Value.agg { toList := [Value.int IntKind.i64 0, Value.int IntKind.i64 0] })) else (some (Value.agg { toList := [Value.int IntKind.i64 0, Value.int IntKind.i64 0] }))) else (bif Nat.blt t 35 then (some (Value.agg { toList := [Value.int IntKind.i64 0, Value.int IntKind.i64 0, Value.int IntKind.i64 0, Value.int IntKind.i64 0, Value.int IntKind.i64 0, Value.int IntKind.i64 0, Value.int IntKind.i64 0] })) else (bif Nat.blt t 36 then (some (Value.agg { toList := [Value.int IntKind.i64 0, Value.int IntKind.i64 0, Value.int IntKind.i64 0, Value.int IntKind.i64 0, Value.int IntKind.i64 0, Value.int IntKind.i64 0, Value.int IntKind.i64 0] })) else (some (Value.agg { toList := [Value.int IntKind.i64 0, Value.int IntKind.i64 0, Value.int IntKind.i64 0] }))))) else (bif Nat.blt t 40 then (bif Nat.blt t 38 then (some (Value.agg { toList := [Value.int IntKind.i64 0, Value.int IntKind.i64 0, Value.int IntKind.i64 0] })) else (bif Nat.blt t 39 then (some (Value.int IntKind.u64 0)) else (some (Value.agg { toList := [Value.int IntKind.i64 0, Value.int IntKind.u64 0] })))) else (bif Nat.blt t 41 then (some (Value.agg { toList := [Value.int IntKind.i64 0, Value.int IntKind.u64 0] })) else (bif Nat.blt t 42 then (some Value.nilFunc) else (some (Value.int IntKind.i64 0)))))))) else (bif Nat.blt t 65 then (bif Nat.blt t 54 then (bif Nat.blt t 48 then (bif Nat.blt t 45 then (bif Nat.blt t 44 then (some (Value.agg { toList := [Value.int IntKind.i64 0, Value.int IntKind.i64 0, Value.int IntKind.i64 0, Value.bool false] })) else (some (Value.agg { toList := [Value.int IntKind.i64 0, Value.int IntKind.i64 0, Value.int IntKind.i64 0, Value.bool false] }))) else (bif Nat.blt t 46 then (some Value.nilFunc) else (bif Nat.blt t 47 then (some Value.nilFunc) else (some (Value.slice none 0 0))))) else (bif Nat.blt t 51 then (bif Nat.blt t 49 then (some (Value.slice none 0 0)) else (bif Nat.blt t 50 then (some (Value.agg { toList := [Value.slice none 0 0, Value.int IntKind.i64 0, Value.int IntKind.i64 0, Value.slice none 0 0] })) else (some (Value.agg { toList := [Value.slice none 0 0, Value.int IntKind.i64 0, Value.int IntKind.i64 0, Value.slice none 0 0] })))) else (bif Nat.blt t 52 then (some Value.nilFunc) else (bif Nat.blt t 53 then (some (Value.agg { toList := [Value.int IntKind.i64 0, Value.int IntKind.i64 0, Value.int IntKind.i64 0, Value.int IntKind.i64 0, Value.int IntKind.i64 0, Value.int IntKind.i64 0, Value.int IntKind.i64 0] })) else (some (Value.agg { toList := [Value.int IntKind.i64 0, Value.int IntKind.i64 0, Value.int IntKind.i64 0, Value.int IntKind.i64 0, Value.int IntKind.i64 0, Value.int IntKind.i64 0, Value.int IntKind.i64 0] })))))) else (bif Nat.blt t 59 then (bif Nat.blt t 56 then (bif Nat.blt t 55 then (some (Value.agg { toList := [Value.int IntKind.i64 0, Value.int IntKind.i64 0, Value.int IntKind.i64 0, Value.int IntKind.i64 0, Value.int IntKind.i64 0, Value.int IntKind.i64 0, Value.int IntKind.i64 0, Value.int IntKind.i64 0, Value.int IntKind.i64 0, Value.int IntKind.i64 0, Value.int IntKind.i64 0, Value.int IntKind.i64 0, Value.int IntKind.i64 0, Value.int IntKind.i64 0, Value.int IntKind.i64 0] })) else (some (Value.agg { toList := [Value.int IntKind.i64 0, Value.int IntKind.i64 0, Value.int IntKind.i64 0, Value.int IntKind.i64 0, Value.int IntKind.i64 0, Value.int IntKind.i64 0, Value.int IntKind.i64 0, Value.int IntKind.i64 0, Value.int IntKind.i64 0, Value.int IntKind.i64 0, Value.int IntKind.i64 0, Value.int IntKind.i64 0, Value.int IntKind.i64 0, Value.int IntKind.i64 0, Value.int IntKind.i64 0] }))) else (bif Nat.blt t 57 then (some Value.nilFunc) else (bif Nat.blt t 58 then (some Value.nilFunc) else (some Value.nilFunc)))) else (bif Nat.blt t 62 then (bif Nat.blt t 60 then (some Value.nilFunc) else (bif Nat.blt t 61 then (some Value.nilFunc) else (some Value.nilFunc))) else (bif Nat.blt t 63 then (some Value.nilFunc) else (bif Nat.blt t 64 then (some Value.nilFunc) else (some Value.nilFunc)))))) else (bif Nat.blt t 76 then (bif Nat.blt t 70 then (bif Nat.blt t 67 then (bif Nat.blt t 66 then (some Value.nilFunc) else (some Value.nilFunc)) else (bif Nat.blt t 68 then (some (Value.agg { toList := [Value.int IntKind.i64 0, Value.slice none 0 0] })) else (bif Nat.blt t 69 then (some (Value.agg { toList := [Value.int IntKind.i64 0, Value.slice none 0 0] })) else (some (Value.slice none 0 0))))) else (bif Nat.blt t 73 then (bif Nat.blt t 71 then (some (Value.agg { toList := [Value.pointer none, Value.pointer none, Value.pointer none] })) else (bif Nat.blt t 72 then (some (Value.pointer none)) else (some (Value.agg { toList := [Value.pointer none, Value.pointer none, Value.pointer none] })))) else (bif Nat.blt t 74 then (some Value.nilFunc) else (bif Nat.blt t 75 then (some Value.nilFunc) else (some Value.nilFunc))))) else (bif Nat.blt t 81 then (bif Nat.blt t 78 then (bif Nat.blt t 77 then (some Value.nilFunc) else (some (Value.pointer none))) else (bif Nat.blt t 79 then (some (Value.pointer none)) else (bif Nat.blt t 80 then (some (Value.agg { toList := [Value.int IntKind.i64 0, Value.int IntKind.i64 0, Value.int IntKind.i64 0, Value.int IntKind.i64 0, Value.int IntKind.i64 0, Value.int IntKind.i64 0, Value.int IntKind.i64 0, Value.int IntKind.i64 0, Value.int IntKind.i64 0, Value.int IntKind.i64 0, Value.int IntKind.i64 0, Value.int IntKind.u64 0, Value.int IntKind.i64 0, Value.int IntKind.i64 0, Value.pointer none, Value.pointer none, Value.bool false, Value.int IntKind.i64 0, Value.int IntKind.i64 0, Value.int IntKind.i64 0, Value.bool false] })) else (some (Value.agg { toList := [Value.int IntKind.i64 0, Value.int IntKind.i64 0, Value.int IntKind.i64 0, Value.int IntKind.i64 0, Value.int IntKind.i64 0, Value.int IntKind.i64 0, Value.int IntKind.i64 0, Value.int IntKind.i64 0, Value.int IntKind.i64 0, Value.int IntKind.i64 0, Value.int IntKind.i64 0, Value.int IntKind.u64 0, Value.int IntKind.i64 0, Value.int IntKind.i64 0, Value.pointer none, Value.pointer none, Value.bool false, Value.int IntKind.i64 0, Value.int IntKind.i64 0, Value.int IntKind.i64 0, Value.bool false] }))))) else (bif Nat.blt t 84 then (bif Nat.blt t 82 then (some Value.nilFunc) else (bif Nat.blt t 83 then (some Value.nilFunc) else (some (Value.tuple { toList := [Value.pointer none, Value.int IntKind.i64 0] })))) else (bif Nat.blt t 85 then (some Value.nilFunc) else (bif Nat.blt t 86 then (some (Value.tuple { toList := [Value.pointer none, Value.int IntKind.i64 0] })) else (some Value.nilFunc)))))))) else (bif Nat.blt t 130 then (bif Nat.blt t 108 then (bif Nat.blt t 97 then (bif Nat.blt t 92 then (bif Nat.blt t 89 then (bif Nat.blt t 88 then (some (Value.pointer none)) else (some (Value.pointer none))) else (bif Nat.blt t 90 then (some (Value.agg { toList := [Value.int IntKind.i64 0, Value.int IntKind.i64 0, Value.int IntKind.i64 0, Value.int IntKind.i64 0, Value.int IntKind.i64 0, Value.int IntKind.i64 0, Value.int IntKind.i64 0, Value.int IntKind.i64 0, Value.int IntKind.i64 0, Value.int IntKind.i64 0, Value.int IntKind.i64 0, Value.int IntKind.u64 0, Value.int IntKind.i64 0, Value.int IntKind.i64 0, Value.pointer none, Value.pointer none, Value.bool false, Value.bool false, Value.int IntKind.i64 0, Value.int IntKind.i64 0, Value.int IntKind.i64 0, Value.bool false] })) else (bif Nat.blt t 91 then (some (Value.agg { toList := [Value.int IntKind.i64 0, Value.int IntKind.i64 0, Value.int IntKind.i64 0, Value.int IntKind.i64 0, Value.int IntKind.i64 0, Value.int IntKind.i64 0, Value.int IntKind.i64 0, Value.int IntKind.i64 0, Value.int IntKind.i64 0, Value.int IntKind.i64 0, Value.int IntKind.i64 0, Value.int IntKind.u64 0, Value.int IntKind.i64 0, Value.int IntKind.i64 0, Value.pointer none, Value.pointer none, Value.bool false, Value.bool false, Value.int IntKind.i64 0, Value.int IntKind.i64 0, Value.int IntKind.i64 0, Value.bool false] })) else (some Value.nilFunc)))) else (bif Nat.blt t 94 then (bif Nat.blt t 93 then (some Value.nilFunc) else (some Value.nilFunc)) else (bif Nat.blt t 95 then (some Value.nilFunc) else (bif Nat.blt t 96 then (some (Value.pointer none)) else (some Value.nilFunc))))) else (bif Nat.blt t 102 then (bif Nat.blt t 99 then (bif Nat.blt t 98 then (some Value.nilFunc) else (some Value.nilFunc)) else (bif Nat.blt t 100 then (some Value.nilFunc) else (bif Nat.blt t 101 then (some (Value.agg { toList := [Value.slice none 0 0, Value.int IntKind.i64 0, Value.int IntKind.i64 0, Value.slice none 0 0] })) else (some (Value.agg { toList := [Value.slice none 0 0, Value.int IntKind.i64 0, Value.int IntKind.i64 0, Value.slice none 0 0] }))))) else (bif Nat.blt t 105 then (bif Nat.blt t 103 then (some (Value.int IntKind.u64 0)) else (bif Nat.blt t 104 then (some Value.nilFunc) else (some Value.nilFunc))) else (bif Nat.blt t 106 then (some Value.nilFunc) else (bif Nat.blt t 107 then (some (Value.agg { toList := [Value.int IntKind.i64 0, Value.int IntKind.i64 0, Value.int IntKind.i64 0, Value.int IntKind.i64 0, Value.int IntKind.i64 0, Value.int IntKind.i64 0, Value.int IntKind.i64 0, Value.int IntKind.i64 0, Value.int IntKind.i64 0, Value.int IntKind.i64 0, Value.int IntKind.i64 0, Value.pointer none, Value.bool false, Value.int IntKind.i64 0, Value.int IntKind.i64 0, Value.int IntKind.i64 0, Value.bool false] })) else (some (Value.agg { toList := [Value.int IntKind.i64 0, Value.int IntKind.i64 0, Value.int IntKind.i64 0, Value.int IntKind.i64 0, Value.int IntKind.i64 0, Value.int IntKind.i64 0, Value.int IntKind.i64 0, Value.int IntKind.i64 0, Value.int IntKind.i64 0, Value.int IntKind.i64 0, Value.int IntKind.i64 0, Value.pointer none, Value.bool false, Value.int IntKind.i64 0, Value.int IntKind.i64 0, Value.int IntKind.i64 0, Value.bool false] }))))))) else (bif Nat.blt t 119 then (bif Nat.blt t 113 then (bif Nat.blt t 110 then (bif Nat.blt t 109 then (some (Value.agg { toList := [Value.bool false, Value.bool false, Value.bool false, Value.int IntKind.i64 0] })) else (some (Value.agg { toList := [Value.bool false, Value.bool false, Value.bool false, Value.int IntKind.i64 0] }))) else (bif Nat.blt t 111 then (some (Value.pointer none)) else (bif Nat.blt t 112 then (some (Value.agg { toList := [Value.int IntKind.i64 0, Value.int IntKind.i64 0, Value.int IntKind.i64 0, Value.int IntKind.i64 0, Value.int IntKind.i64 0, Value.int IntKind.i64 0, Value.int IntKind.i64 0, Value.int IntKind.i64 0, Value.bool false, Value.bool false, Value.bool false, Value.int IntKind.i64 0, Value.int IntKind.i64 0, Value.int IntKind.u64 0, Value.int IntKind.i64 0, Value.pointer none, Value.bool false, Value.int IntKind.i64 0, Value.int IntKind.i64 0, Value.int IntKind.i64 0, Value.bool false] })) else (some (Value.agg { toList := [Value.int IntKind.i64 0, Value.int IntKind.i64 0, Value.int IntKind.i64 0, Value.int IntKind.i64 0, Value.int IntKind.i64 0, Value.int IntKind.i64 0, Value.int IntKind.i64 0, Value.int IntKind.i64 0, Value.bool false, Value.bool false, Value.bool false, Value.int IntKind.i64 0, Value.int IntKind.i64 0, Value.int IntKind.u64 0, Value.int IntKind.i64 0, Value.pointer none, Value.bool false, Value.int IntKind.i64 0, Value.int IntKind.i64 0, Value.int IntKind.i64 0, Value.bool false] }))))) else (bif Nat.blt t 116 then (bif Nat.blt t 114 then (some Value.nilFunc) else (bif Nat.blt t 115 then (some (Value.agg { toList := [Value.int IntKind.i64 0, Value.int IntKind.i64 0, Value.int IntKind.i64 0, Value.int IntKind.i64 0, Value.int IntKind.i64 0, Value.int IntKind.i64 0, Value.int IntKind.i64 0, Value.int IntKind.i64 0, Value.int IntKind.i64 0, Value.int IntKind.i64 0, Value.pointer none, Value.bool false, Value.int IntKind.i64 0, Value.int IntKind.i64 0, Value.int IntKind.i64 0, Value.bool false] })) else (some (Value.agg { toList := [Value.int IntKind.i64 0, Value.int IntKind.i64 0, Value.int IntKind.i64 0, Value.int IntKind.i64 0, Value.int IntKind.i64 0, Value.int IntKind.i64 0, Value.int IntKind.i64 0, Value.int IntKind.i64 0, Value.int IntKind.i64 0, Value.int IntKind.i64 0, Value.pointer none, Value.bool false, Value.int IntKind.i64 0, Value.int IntKind.i64 0, Value.int IntKind.i64 0, Value.bool false] })))) else (bif Nat.blt t 117 then (some Value.nilFunc) else (bif Nat.blt t 118 then (some (Value.agg { toList := [Value.bool false, Value.bool false, Value.bool false, Value.int IntKind.i64 0] })) else (some Value.nilFunc))))) else (bif Nat.blt t 124 then (bif Nat.blt t 121 then (bif Nat.blt t 120 then (some Value.nilFunc) else (some (Value.agg { toList := [Value.nilFunc, Value.int IntKind.i64 0, Value.int IntKind.i64 0, Value.int IntKind.i64 0, Value.int IntKind.i64 0, Value.int IntKind.i64 0, Value.int IntKind.i64 0, Value.int IntKind.i64 0, Value.int IntKind.i64 0, Value.bool false, Value.bool false, Value.bool false, Value.int IntKind.i64 0, Value.int IntKind.u64 0, Value.bool false, Value.int IntKind.i64 0, Value.int IntKind.i64 0, Value.int IntKind.i64 0, Value.bool false] }))) else (bif Nat.blt t 122 then (some (Value.agg { toList := [Value.nilFunc, Value.int IntKind.i64 0, Value.int IntKind.i64 0, Value.int IntKind.i64 0, Value.int IntKind.i64 0, Value.int IntKind.i64 0, Value.int IntKind.i64 0, Value.int IntKind.i64 0, Value.int IntKind.i64 0, Value.bool false, Value.bool false, Value.bool false, Value.int IntKind.i64 0, Value.int IntKind.u64 0, Value.bool false, Value.int IntKind.i64 0, Value.int IntKind.i64 0, Value.int IntKind.i64 0, Value.bool false] })) else (bif Nat.blt t 123 then (some (Value.agg { toList := [Value.int IntKind.i64 0, Value.int IntKind.i64 0, Value.int IntKind.i64 0, Value.int IntKind.i64 0, Value.int IntKind.i64 0, Value.int IntKind.i64 0, Value.int IntKind.i64 0] })) else (some Value.nilFunc)))) else (bif Nat.blt t 127 then (bif Nat.blt t 125 then (some Value.nilFunc) else (bif Nat.blt t 126 then (some (Value.agg { toList := [Value.int IntKind.i64 0, Value.int IntKind.i64 0] })) else (some (Value.agg { toList := [Value.int IntKind.i64 0, Value.int IntKind.i64 0] })))) else (bif Nat.blt t 128 then (some (Value.agg { toList := [Value.int IntKind.i64 0, Value.int IntKind.i64 0, Value.bool false] })) else (bif Nat.blt t 129 then (some (Value.agg { toList := [Value.int IntKind.i64 0, Value.int IntKind.i64 0, Value.bool false] })) else (some Value.nilFunc))))))) else (bif Nat.blt t 152 then (bif Nat.blt t 141 then (bif Nat.blt t 135 then (bif Nat.blt t 132 then (bif Nat.blt t 131 then (some Value.nilFunc) else (some Value.nilFunc)) else (bif Nat.blt t 133 then (some Value.nilFunc) else (bif Nat.blt t 134 then (some Value.nilFunc) else (some Value.nilFunc)))) else (bif Nat.blt t 138 then (bif Nat.blt t 136 then (some (Value.slice none 0 0)) else (bif Nat.blt t 137 then (some Value.nilFunc) else (some (Value.agg { toList := [Value.int IntKind.i64 0, Value.int IntKind.i64 0, Value.int IntKind.i64 0, Value.int IntKind.i64 0, Value.int IntKind.i64 0, Value.int IntKind.i64 0, Value.int IntKind.i64 0, Value.int IntKind.i64 0, Value.int IntKind.i64 0, Value.int IntKind.i64 0, Value.int IntKind.u64 0] })))) else (bif Nat.blt t 139 then (some (Value.agg { toList := [Value.int IntKind.i64 0, Value.int IntKind.i64 0, Value.int IntKind.i64 0, Value.int IntKind.i64 0, Value.int IntKind.i64 0, Value.int IntKind.i64 0, Value.int IntKind.i64 0, Value.int IntKind.i64 0, Value.int IntKind.i64 0, Value.int IntKind.i64 0, Value.int IntKind.u64 0] })) else (bif Nat.blt t 140 then (some (Value.agg { toList := [Value.int IntKind.i64 0, Value.int IntKind.i64 0] })) else (some (Value.agg { toList := [Value.int IntKind.i64 0, Value.int IntKind.i64 0] })))))) else (bif Nat.blt t 146 then (bif Nat.blt t 143 then (bif Nat.blt t 142 then (some Value.nilFunc) else (some Value.nilFunc)) else (bif Nat.blt t 144 then (some Value.nilFunc) else (bif Nat.blt t 145 then (some Value.nilFunc) else (some Value.nilFunc)))) else (bif Nat.blt t 149 then (bif Nat.blt t 147 then (some Value.nilFunc) else (bif Nat.blt t 148 then (some (Value.pointer none)) else (some Value.nilFunc))) else (bif Nat.blt t 150 then (some Value.nilFunc) else (bif Nat.blt t 151 then (some (Value.agg { toList := [Value.int IntKind.i64 0, Value.int IntKind.i64 0, Value.int IntKind.i64 0, Value.int IntKind.u64 0, Value.int IntKind.i64 0, Value.int IntKind.i64 0, Value.int IntKind.i64 0, Value.int IntKind.i64 0, Value.int IntKind.i64 0, Value.int IntKind.i64 0, Value.int IntKind.i64 0] })) else (some (Value.agg { toList := [Value.int IntKind.i64 0, Value.int IntKind.i64 0, Value.int IntKind.i64 0, Value.int IntKind.u64 0, Value.int IntKind.i64 0, Value.int IntKind.i64 0, Value.int IntKind.i64 0, Value.int IntKind.i64 0, Value.int IntKind.i64 0, Value.int IntKind.i64 0, Value.int IntKind.i64 0] }))))))) else (bif Nat.blt t 163 then (bif Nat.blt t 157 then (bif Nat.blt t 154 then (bif Nat.blt t 153 then (some Value.nilFunc) else (some Value.nilFunc)) else (bif Nat.blt t 155 then (some (Value.pointer none)) else (bif Nat.blt t 156 then (some (Value.agg { toList := [Value.int IntKind.u64 0, Value.int IntKind.i64 0] })) else (some (Value.agg { toList := [Value.int IntKind.u64 0, Value.int IntKind.i64 0] }))))) else (bif Nat.blt t 160 then (bif Nat.blt t 158 then (some Value.nilFunc) else (bif Nat.blt t 159 then (some Value.nilFunc) else (some (Value.agg { toList := [Value.pointer none, Value.pointer none, Value.pointer none, Value.string { data := { toList := [] } }] })))) else (bif Nat.blt t 161 then (some (Value.agg { toList := [Value.pointer none, Value.pointer none, Value.pointer none, Value.string { data := { toList := [] } }] })) else (bif Nat.blt t 162 then (some (Value.agg { toList := [] })) else (some (Value.agg { toList := [] })))))) else (bif Nat.blt t 168 then (bif Nat.blt t 165 then (bif Nat.blt t 164 then (some (Value.agg { toList := [] })) else (some (Value.int IntKind.u32 0))) else (bif Nat.blt t 166 then (some (Value.int IntKind.u8 0)) else (bif Nat.blt t 167 then (some (Value.int IntKind.u8 0)) else (some Value.nilFunc)))) else (bif Nat.blt t 171 then (bif Nat.blt t 169 then (some (Value.pointer none)) else (bif Nat.blt t 170 then (some (Value.int IntKind.i32 0)) else (some (Value.int IntKind.i32 0)))) else (bif Nat.blt t 172 then (some (Value.agg { toList := [Value.int IntKind.u64 0, Value.int IntKind.u64 0, Value.int IntKind.u32 0, Value.int IntKind.u8 0, Value.int IntKind.u8 0, Value.int IntKind.u8 0, Value.int IntKind.u8 0, Value.nilFunc, Value.pointer none, Value.int IntKind.i32 0, Value.int IntKind.i32 0] })) else (bif Nat.blt t 173 then (some (Value.agg { toList := [Value.int IntKind.u64 0, Value.int IntKind.u64 0, Value.int IntKind.u32 0, Value.int IntKind.u8 0, Value.int IntKind.u8 0, Value.int IntKind.u8 0, Value.int IntKind.u8 0, Value.nilFunc, Value.pointer none, Value.int IntKind.i32 0, Value.int IntKind.i32 0] })) else (some (Value.pointer none)))))))))
noncomputable def tPlain (t : Nat) : Bool := bif Nat.blt t 87 then (bif Nat.blt t 43 then (bif Nat.blt t 21 then (bif Nat.blt t 10 then (bif Nat.blt t 5 then (bif Nat.blt t 2 then (bif Nat.blt t 1 then (true) else (true)) else (bif Nat.blt t 3 then (true) else (bif Nat.blt t 4 then (true) else (true)))) else (bif Nat.blt t 7 then (bif Nat.blt t 6 then (true) else (true)) else (bif Nat.blt t 8 then (true) else (bif Nat.blt t 9 then (true) else (true))))) else (bif Nat.blt t 15 then (bif Nat.blt t 12 then (bif Nat.blt t 11 then (true) else (true)) else (bif Nat.blt t 13 then (true) else (bif Nat.blt t 14 then (false) else (false)))) else (bif Nat.blt t 18 then (bif Nat.blt t 16 then (true) else (bif Nat.blt t 17 then (true) else (true))) else (bif Nat.blt t 19 then (false) else (bif Nat.blt t 20 then (false) else (true)))))) else (bif Nat.blt t 32 then (bif Nat.blt t 26 then (bif Nat.blt t 23 then (bif Nat.blt t 22 then (true) else (true)) else (bif Nat.blt t 24 then (true) else (bif Nat.blt t 25 then (true) else (true)))) else (bif Nat.blt t 29 then (bif Nat.blt t 27 then (true) else (bif Nat.blt t 28 then (true) else (true))) else (bif Nat.blt t 30 then (true) else (bif Nat.blt t 31 then (true) else (true))))) else (bif Nat.blt t 37 then (bif Nat.blt t 34 then (bif Nat.blt t 33 then (true) else (true)) else (bif Nat.blt t 35 then (true) else (bif Nat.blt t 36 then (true) else (true)))) else (bif Nat.blt t 40 then (bif Nat.blt t 38 then (true) else (bif Nat.blt t 39 then (true) else (true))) else (bif Nat.blt t 41 then (true) else (bif Nat.blt t 42 then (true) else (true))))))) else (bif Nat.blt t 65 then (bif Nat.blt t 54 then (bif Nat.blt t 48 then (bif Nat.blt t 45 then (bif Nat.blt t 44 then (true) else (true)) else (bif Nat.blt t 46 then (true) else (bif Nat.blt t 47 then (true) else (true)))) else (bif Nat.blt t 51 then (bif Nat.blt t 49 then (true) else (bif Nat.blt t 50 then (true) else (true))) else (bif Nat.blt t 52 then (true) else (bif Nat.blt t 53 then (true) else (true))))) else (bif Nat.blt t 59 then (bif Nat.blt t 56 then (bif Nat.blt t 55 then (true) else (true)) else (bif Nat.blt t 57 then (true) else (bif Nat.blt t 58 then (true) else (true)))) else (bif Nat.blt t 62 then (bif Nat.blt t 60 then (true) else (bif Nat.blt t 61 then (true) else (true))) else (bif Nat.blt t 63 then (true) else (bif Nat.blt t 64 then (true) else (true)))))) else (bif Nat.blt t 76 then (bif Nat.blt t 70 then (bif Nat.blt t 67 then (bif Nat.blt t 66 then (true) else (true)) else (bif Nat.blt t 68 then (true) else (bif Nat.blt t 69 then (true) else (true)))) else (bif Nat.blt t 73 then (bif Nat.blt t 71 then (true) else (bif Nat.blt t 72 then (true) else (true))) else (bif Nat.blt t 74 then (true) else (bif Nat.blt t 75 then (true) else (true))))) else (bif Nat.blt t 81 then (bif Nat.blt t 78 then (bif Nat.blt t 77 then (true) else (true)) else (bif Nat.blt t 79 then (true) else (bif Nat.blt t 80 then (true) else (true)))) else (bif Nat.blt t 84 then (bif Nat.blt t 82 then (true) else (bif Nat.blt t 83 then (true) else (true))) else (bif Nat.blt t 85 then (true) else (bif Nat.blt t 86 then (true) else (true)))))))) else (bif Nat.blt t 130 then (bif Nat.blt t 108 then (bif Nat.blt t 97 then (bif Nat.blt t 92 then (bif Nat.blt t 89 then (bif Nat.blt t 88 then (true) else (true)) else (bif Nat.blt t 90 then (true) else (bif Nat.blt t 91 then (true) else (true)))) else (bif Nat.blt t 94 then (bif Nat.blt t 93 then (true) else (true)) else (bif Nat.blt t 95 then (true) else (bif Nat.blt t 96 then (true) else (true))))) else (bif Nat.blt t 102 then (bif Nat.blt t 99 then (bif Nat.blt t 98 then (true) else (true)) else (bif Nat.blt t 100 then (true) else (bif Nat.blt t 101 then (true) else (true)))) else (bif Nat.blt t 105 then (bif Nat.blt t 103 then (true) else (bif Nat.blt t 104 then (true) else (true))) else (bif Nat.blt t 106 then (true) else (bif Nat.blt t 107 then (true) else (true)))))) else (bif Nat.blt t 119 then (bif Nat.blt t 113 then (bif Nat.blt t 110 then (bif Nat.blt t 109 then (true) else (true)) else (bif Nat.blt t 111 then (true) else (bif Nat.blt t 112 then (true) else (true)))) else (bif Nat.blt t 116 then (bif Nat.blt t 114 then (true) else (bif Nat.blt t 115 then (true) else (true))) else (bif Nat.blt t 117 then (true) else (bif Nat.blt t 118 then (true) else (true))))) else (bif Nat.blt t 124 then (bif Nat.blt t 121 then (bif Nat.blt t 120 then (true) else (true)) else (bif Nat.blt t 122 then (true) else (bif Nat.blt t 123 then (true) else (true)))) else (bif Nat.blt t 127 then (bif Nat.blt t 125 then (true) else (bif Nat.blt t 126 then (true) else (true))) else (bif Nat.blt t 128 then (true) else (bif Nat.blt t 129 then (true) else (true))))))) else (bif Nat.blt t 152 then (bif Nat.blt t 141 then (bif Nat.blt t 135 then (bif Nat.blt t 132 then (bif Nat.blt t 131 then (true) else (true)) else (bif Nat.blt t 133 then (true) else (bif Nat.blt t 134 then (true) else (true)))) else (bif Nat.blt t 138 then (bif Nat.blt t 136 then (true) else (bif Nat.blt t 137 then (true) else (true))) else (bif Nat.blt t 139 then (true) else (bif Nat.blt t 140 then (true) else (true))))) else (bif Nat.blt t 146 then (bif Nat.blt t 143 then (bif Nat.blt t 142 then (true) else (true)) else (bif Nat.blt t 144 then (true) else (bif Nat.blt t 145 then (true) else (true)))) else (bif Nat.blt t 149 then (bif Nat.blt t 147 then (true) else (bif Nat.blt t 148 then (true) else (true))) else (bif Nat.blt t 150 then (true) else (bif Nat.blt t 151 then (true) else (true)))))) else (bif Nat.blt t 163 then (bif Nat.blt t 157 then (bif Nat.blt t 154 then (bif Nat.blt t 153 then (true) else (true)) else (bif Nat.blt t 155 then (true) else (bif Nat.blt t 156 then (true) else (true)))) else (bif Nat.blt t 160 then (bif Nat.blt t 158 then (true) else (bif Nat.blt t 159 then (true) else (false))) else (bif Nat.blt t 161 then (false) else (bif Nat.blt t 162 then (true) else (false))))) else (bif Nat.blt t 168 then (bif Nat.blt t 165 then (bif Nat.blt t 164 then (false) else (true)) else (bif Nat.blt t 166 then (true) else (bif Nat.blt t 167 then (true) else (true)))) else (bif Nat.blt t 171 then (bif Nat.blt t 169 then (true) else (bif Nat.blt t 170 then (true) else (true))) else (bif Nat.blt t 172 then (false) else (bif Nat.blt t 173 then (false) else (true))))))))
noncomputable def tGuard (t : Nat) : Bool := bif Nat.blt t 87 then (bif Nat.blt t 43 then (bif Nat.blt t 21 then (bif Nat.blt t 10 then (bif Nat.blt t 5 then (bif Nat.blt t 2 then (bif Nat.blt t 1 then (true) else (true)) else (bif Nat.blt t 3 then (true) else (bif Nat.blt t 4 then (true) else (true)))) else (bif Nat.blt t 7 then (bif Nat.blt t 6 then (true) else (true)) else (bif Nat.blt t 8 then (true) else (bif Nat.blt t 9 then (true) else (true))))) else (bif Nat.blt t 15 then (bif Nat.blt t 12 then (bif Nat.blt t 11 then (true) else (true)) else (bif Nat.blt t 13 then (true) else (bif Nat.blt t 14 then (true) else (true)))) else (bif Nat.blt t 18 then (bif Nat.blt t 16 then (true) else (bif Nat.blt t 17 then (true) else (true))) else (bif Nat.blt t 19 then (true) else (bif Nat.blt t 20 then (true) else (true)))))) else (bif Nat.blt t 32 then (bif Nat.blt t 26 then (bif Nat.blt t 23 then (bif Nat.blt t 22 then (true) else (true)) else (bif Nat.blt t 24 then (true) else (bif Nat.blt t 25 then (true) else (true)))) else (bif Nat.blt t 29 then (bif Nat.blt t 27 then (true) else (bif Nat.blt t 28 then (true) else (true))) else (bif Nat.blt t 30 then (true) else (bif Nat.blt t 31 then (true) else (true))))) else (bif Nat.blt t 37 then (bif Nat.blt t 34 then (bif Nat.blt t 33 then (true) else (true)) else (bif Nat.blt t 35 then (true) else (bif Nat.blt t 36 then (true) else (true)))) else (bif Nat.blt t 40 then (bif Nat.blt t 38 then (true) else (bif Nat.blt t 39 then (true) else (true))) else (bif Nat.blt t 41 then (true) else (bif Nat.blt t 42 then (true) else (true))))))) else (bif Nat.blt t 65 then (bif Nat.blt t 54 then (bif Nat.blt t 48 then (bif Nat.blt t 45 then (bif Nat.blt t 44 then (true) else (true)) else (bif Nat.blt t 46 then (true) else (bif Nat.blt t 47 then (true) else (true)))) else (bif Nat.blt t 51 then (bif Nat.blt t 49 then (true) else (bif Nat.blt t 50 then (true) else (true))) else (bif Nat.blt t 52 then (true) else (bif Nat.blt t 53 then (true) else (true))))) else (bif Nat.blt t 59 then (bif Nat.blt t 56 then (bif Nat.blt t 55 then (true) else (true)) else (bif Nat.blt t 57 then (true) else (bif Nat.blt t 58 then (true) else (true)))) else (bif Nat.blt t 62 then (bif Nat.blt t 60 then (true) else (bif Nat.blt t 61 then (true) else (true))) else (bif Nat.blt t 63 then (true) else (bif Nat.blt t 64 then (true) else (true)))))) else (bif Nat.blt t 76 then (bif Nat.blt t 70 then (bif Nat.blt t 67 then (bif Nat.blt t 66 then (true) else (true)) else (bif Nat.blt t 68 then (true) else (bif Nat.blt t 69 then (true) else (true)))) else (bif Nat.blt t 73 then (bif Nat.blt t 71 then (true) else (bif Nat.blt t 72 then (true) else (true))) else (bif Nat.blt t 74 then (true) else (bif Nat.blt t 75 then (true) else (true))))) else (bif Nat.blt t 81 then (bif Nat.blt t 78 then (bif Nat.blt t 77 then (true) else (true)) else (bif Nat.blt t 79 then (true) else (bif Nat.blt t 80 then (true) else (true)))) else (bif Nat.blt t 84 then (bif Nat.blt t 82 then (true) else (bif Nat.blt t 83 then (true) else (true))) else (bif Nat.blt t 85 then (true) else (bif Nat.blt t 86 then (true) else (true)))))))) else (bif Nat.blt t 130 then (bif Nat.blt t 108 then (bif Nat.blt t 97 then (bif Nat.blt t 92 then (bif Nat.blt t 89 then (bif Nat.blt t 88 then (true) else (true)) else (bif Nat.blt t 90 then (true) else (bif Nat.blt t 91 then (true) else (true)))) else (bif Nat.blt t 94 then (bif Nat.blt t 93 then (true) else (true)) else (bif Nat.blt t 95 then (true) else (bif Nat.blt t 96 then (true) else (true))))) else (bif Nat.blt t 102 then (bif Nat.blt t 99 then (bif Nat.blt t 98 then (true) else (true)) else (bif Nat.blt t 100 then (true) else (bif Nat.blt t 101 then (true) else (true)))) else (bif Nat.blt t 105 then (bif Nat.blt t 103 then (true) else (bif Nat.blt t 104 then (true) else (true))) else (bif Nat.blt t 106 then (true) else (bif Nat.blt t 107 then (true) else (true)))))) else (bif Nat.blt t 119 then (bif Nat.blt t 113 then (bif Nat.blt t 110 then (bif Nat.blt t 109 then (true) else (true)) else (bif Nat.blt t 111 then (true) else (bif Nat.blt t 112 then (true) else (true)))) else (bif Nat.blt t 116 then (bif Nat.blt t 114 then (true) else (bif Nat.blt t 115 then (true) else (true))) else (bif Nat.blt t 117 then (true) else (bif Nat.blt t 118 then (true) else (true))))) else (bif Nat.blt t 124 then (bif Nat.blt t 121 then (bif Nat.blt t 120 then (true) else (true)) else (bif Nat.blt t 122 then (true) else (bif Nat.blt t 123 then (true) else (true)))) else (bif Nat.blt t 127 then (bif Nat.blt t 125 then (true) else (bif Nat.blt t 126 then (true) else (true))) else (bif Nat.blt t 128 then (true) else (bif Nat.blt t 129 then (true) else (true))))))) else (bif Nat.blt t 152 then (bif Nat.blt t 141 then (bif Nat.blt t 135 then (bif Nat.blt t 132 then (bif Nat.blt t 131 then (true) else (true)) else (bif Nat.blt t 133 then (true) else (bif Nat.blt t 134 then (true) else (true)))) else (bif Nat.blt t 138 then (bif Nat.blt t 136 then (true) else (bif Nat.blt t 137 then (true) else (true))) else (bif Nat.blt t 139 then (true) else (bif Nat.blt t 140 then (true) else (true))))) else (bif Nat.blt t 146 then (bif Nat.blt t 143 then (bif Nat.blt t 142 then (true) else (true)) else (bif Nat.blt t 144 then (true) else (bif Nat.blt t 145 then (true) else (true)))) else (bif Nat.blt t 149 then (bif Nat.blt t 147 then (true) else (bif Nat.blt t 148 then (true) else (true))) else (bif Nat.blt t 150 then (true) else (bif Nat.blt t 151 then (true) else (true)))))) else (bif Nat.blt t 163 then (bif Nat.blt t 157 then (bif Nat.blt t 154 then (bif Nat.blt t 153 then (true) else (true)) else (bif Nat.blt t 155 then (true) else (bif Nat.blt t 156 then (true) else (true)))) else (bif Nat.blt t 160 then (bif Nat.blt t 158 then (true) else (bif Nat.blt t 159 then (true) else (true))) else (bif Nat.blt t 161 then (true) else (bif Nat.blt t 162 then (true) else (true))))) else (bif Nat.blt t 168 then (bif Nat.blt t 165 then (bif Nat.blt t 164 then (true) else (true)) else (bif Nat.blt t 166 then (true) else (bif Nat.blt t 167 then (true) else (true)))) else (bif Nat.blt t 171 then (bif Nat.blt t 169 then (true) else (bif Nat.blt t 170 then (true) else (true))) else (bif Nat.blt t 172 then (true) else (bif Nat.blt t 173 then (true) else (true))))))))
noncomputable def tFunc (t : Nat) : Option Func := bif Nat.blt t 60 then (bif Nat.blt t 30 then (bif Nat.blt t 15 then (bif Nat.blt t 7 then (bif Nat.blt t 3 then (bif Nat.blt t 1 then (some Go.Proofs.Try.f0) else (bif Nat.blt t 2 then (some Go.Proofs.Try.f1) else (some Go.Proofs.Try.f2))) else (bif Nat.blt t 5 then (bif Nat.blt t 4 then (some Go.Proofs.Try.f3) else (some Go.Proofs.Try.f4)) else (bif Nat.blt t 6 then (some Go.Proofs.Try.f5) else (some Go.Proofs.Try.f6)))) else (bif Nat.blt t 11 then (bif Nat.blt t 9 then (bif Nat.blt t 8 then (some Go.Proofs.Try.f7) else (some Go.Proofs.Try.f8)) else (bif Nat.blt t 10 then (some Go.Proofs.Try.f9) else (some Go.Proofs.Try.f10))) else (bif Nat.blt t 13 then (bif Nat.blt t 12 then (some Go.Proofs.Try.f11) else (some Go.Proofs.Try.f12)) else (bif Nat.blt t 14 then (some Go.Proofs.Try.f13) else (some Go.Proofs.Try.f14))))) else (bif Nat.blt t 22 then (bif Nat.blt t 18 then (bif Nat.blt t 16 then (some Go.Proofs.Try.f15) else (bif Nat.blt t 17 then (some Go.Proofs.Try.f16) else (some Go.Proofs.Try.f17))) else (bif Nat.blt t 20 then (bif Nat.blt t 19 then (some Go.Proofs.Try.f18) else (some Go.Proofs.Try.f19)) else (bif Nat.blt t 21 then (some Go.Proofs.Try.f20) else (some Go.Proofs.Try.f21)))) else (bif Nat.blt t 26 then (bif Nat.blt t 24 then (bif Nat.blt t 23 then (some Go.Proofs.Try.f22) else (some Go.Proofs.Try.f23)) else (bif Nat.blt t 25 then (some Go.Proofs.Try.f24) else (some Go.Proofs.Try.f25))) else (bif Nat.blt t 28 then (bif Nat.blt t 27 then (some Go.Proofs.Try.f26) else (some Go.Proofs.Try.f27)) else (bif Nat.blt t 29 then (some Go.Proofs.Try.f28) else (some Go.Proofs.Try.f29)))))) else (bif Nat.blt t 45 then (bif Nat.blt t 37 then (bif Nat.blt t 33 then (bif Nat.blt t 31 then (some Go.Proofs.Try.f30) else (bif Nat.blt t 32 then (some Go.Proofs.Try.f31) else (some Go.Proofs.Try.f32))) else (bif Nat.blt t 35 then (bif Nat.blt t 34 then (some Go.Proofs.Try.f33) else (some Go.Proofs.Try.f34)) else (bif Nat.blt t 36 then (some Go.Proofs.Try.f35) else (some Go.Proofs.Try.f36)))) else (bif Nat.blt t 41 then (bif Nat.blt t 39 then (bif Nat.blt t 38 then (some Go.Proofs.Try.f37) else (some Go.Proofs.Try.f38)) else (bif Nat.blt t 40 then (some Go.Proofs.Try.f39) else (some Go.Proofs.Try.f40))) else (bif Nat.blt t 43 then (bif Nat.blt t 42 then (some Go.Proofs.Try.f41) else (some Go.Proofs.Try.f42)) else (bif Nat.blt t 44 then (some Go.Proofs.Try.f43) else (some Go.Proofs.Try.f44))))) else (bif Nat.blt t 52 then (bif Nat.blt t 48 then (bif Nat.blt t 46 then (some Go.Proofs.Try.f45) else (bif Nat.blt t 47 then (some Go.Proofs.Try.f46) else (some Go.Proofs.Try.f47))) else (bif Nat.blt t 50 then (bif Nat.blt t 49 then (some Go.Proofs.Try.f48) else (some Go.Proofs.Try.f49)) else (bif Nat.blt t 51 then (some Go.Proofs.Try.f50) else (some Go.Proofs.Try.f51)))) else (bif Nat.blt t 56 then (bif Nat.blt t 54 then (bif Nat.blt t 53 then (some Go.Proofs.Try.f52) else (some Go.Proofs.Try.f53)) else (bif Nat.blt t 55 then (some Go.Proofs.Try.f54) else (some Go.Proofs.Try.f55))) else (bif Nat.blt t 58 then (bif Nat.blt t 57 then (some Go.Proofs.Try.f56) else (some Go.Proofs.Try.f57)) else (bif Nat.blt t 59 then (some Go.Proofs.Try.f58) else (some Go.Proofs.Try.f59))))))) else (bif Nat.blt t 90 then (bif Nat.blt t 75 then (bif Nat.blt t 67 then (bif Nat.blt t 63 then (bif Nat.blt t 61 then (some Go.Proofs.Try.f60) else (bif Nat.blt t 62 then (some Go.Proofs.Try.f61) else (some Go.Proofs.Try.f62))) else (bif Nat.blt t 65 then (bif Nat.blt t 64 then (some Go.Proofs.Try.f63) else (some Go.Proofs.Try.f64)) else (bif Nat.blt t 66 then (some Go.Proofs.Try.f65) else (some Go.Proofs.Try.f66)))) else (bif Nat.blt t 71 then (bif Nat.blt t 69 then (bif Nat.blt t 68 then (some Go.Proofs.Try.f67) else (some Go.Proofs.Try.f68)) else (bif Nat.blt t 70 then (some Go.Proofs.Try.f69) else (some Go.Proofs.Try.f70))) else (bif Nat.blt t 73 then (bif Nat.blt t 72 then (some Go.Proofs.Try.f71) else (some Go.Proofs.Try.f72)) else (bif Nat.blt t 74 then (some Go.Proofs.Try.f73) else (some Go.Proofs.Try.f74))))) else (bif Nat.blt t 82 then (bif Nat.blt t 78 then (bif Nat.blt t 76 then (some Go.Proofs.Try.f75) else (bif Nat.blt t 77 then (some Go.Proofs.Try.f76) else (some Go.Proofs.Try.f77))) else (bif Nat.blt t 80 then (bif Nat.blt t 79 then (some Go.Proofs.Try.f78) else (some Go.Proofs.Try.f79)) else (bif Nat.blt t 81 then (some Go.Proofs.Try.f80) else (some Go.Proofs.Try.f81)))) else (bif Nat.blt t 86 then (bif Nat.blt t 84 then (bif Nat.blt t 83 then (some Go.Proofs.Try.f82) else (some Go.Proofs.Try.f83)) else (bif Nat.blt t 85 then (some Go.Proofs.Try.f84) else (some Go.Proofs.Try.f85))) else (bif Nat.blt t 88 then (bif Nat.blt t 87 then (some Go.Proofs.Try.f86) else (some Go.Proofs.Try.f87)) else (bif Nat.blt t 89 then (some Go.Proofs.Try.f88) else (some Go.Proofs.Try.f89)))))) else (bif Nat.blt t 105 then (bif Nat.blt t 97 then (bif Nat.blt t 93 then (bif Nat.blt t 91 then (some Go.Proofs.Try.f90) else (bif Nat.blt t 92 then (some Go.Proofs.Try.f91) else (some Go.Proofs.Try.f92))) else (bif Nat.blt t 95 then (bif Nat.blt t 94 then (some Go.Proofs.Try.f93) else (some Go.Proofs.Try.f94)) else (bif Nat.blt t 96 then (some Go.Proofs.Try.f95) else (some Go.Proofs.Try.f96)))) else (bif Nat.blt t 101 then (bif Nat.blt t 99 then (bif Nat.blt t 98 then (some Go.Proofs.Try.f97) else (some Go.Proofs.Try.f98)) else (bif Nat.blt t 100 then (some Go.Proofs.Try.f99) else (some Go.Proofs.Try.f100))) else (bif Nat.blt t 103 then (bif Nat.blt t 102 then (some Go.Proofs.Try.f101) else (some Go.Proofs.Try.f102)) else (bif Nat.blt t 104 then (some Go.Proofs.Try.f103) else (some Go.Proofs.Try.f104))))) else (bif Nat.blt t 113 then (bif Nat.blt t 109 then (bif Nat.blt t 107 then (bif Nat.blt t 106 then (some Go.Proofs.Try.f105) else (some Go.Proofs.Try.f106)) else (bif Nat.blt t 108 then (some Go.Proofs.Try.f107) else (some Go.Proofs.Try.f108))) else (bif Nat.blt t 111 then (bif Nat.blt t 110 then (some Go.Proofs.Try.f109) else (some Go.Proofs.Try.f110)) else (bif Nat.blt t 112 then (some Go.Proofs.Try.f111) else (some Go.Proofs.Try.f112)))) else (bif Nat.blt t 117 then (bif Nat.blt t 115 then (bif Nat.blt t 114 then (some Go.Proofs.Try.f113) else (some Go.Proofs.Try.f114)) else (bif Nat.blt t 116 then (some Go.Proofs.Try.f115) else (some Go.Proofs.Try.f116))) else (bif Nat.blt t 119 then (bif Nat.blt t 118 then (some Go.Proofs.Try.f117) else (some Go.Proofs.Try.f118)) else (bif Nat.blt t 120 then (some Go.Proofs.Try.f119) else (some Go.Proofs.Try.f120)))))))
theorem tUnd_eq : (List.range 174).map tUnd = (List.range 174).map (fun t => Go.Proofs.Try.prog.underlying t) := by kernel_rfl
theorem tSize_eq : (List.range 174).map tSize = (List.range 174).map (fun t => (Go.Proofs.Try.prog.info? t).map (·.size)) := by kernel_rfl
theorem tZero_eq : (List.range 174).map tZero = (List.range 174).map (fun t => (Go.Proofs.Try.prog.info? t).bind (·.zero)) := by kernel_rfl
theorem tPlain_eq : (List.range 174).map tPlain = (List.range 174).map (fun t => !(Go.Proofs.Try.prog.stoodInHeld t)) := by kernel_rfl
theorem tGuard_eq : (List.range 174).map tGuard = (List.range 174).map (fun t => !(Go.Proofs.Try.prog.eqGuardType Go.Proofs.Try.prog.depth t)) := by kernel_rfl
theorem tFunc_eq : (List.range 121).map tFunc = (List.range 121).map (fun t => Go.Proofs.Try.prog.funcs[t]?) := by kernel_rfl
noncomputable instance : Fast Go.Proofs.Try.prog where
  und t := bif Nat.blt t 174 then tUnd t else none
  size t := bif Nat.blt t 174 then tSize t else none
  zero t := bif Nat.blt t 174 then tZero t else none
  func t := bif Nat.blt t 121 then tFunc t else none
  plain t := bif Nat.blt t 174 then tPlain t else false
  guard t := bif Nat.blt t 174 then tGuard t else false
  und_ok := by
    intro t d h
    by_cases ht : t < 174
    · rw [blt_of ht] at h; rw [← of_range tUnd_eq ht]; exact h
    · rw [blt_not ht] at h; cases h
  size_ok := by
    intro t n h
    by_cases ht : t < 174
    · rw [blt_of ht] at h
      have e := of_range tSize_eq ht
      simp only [cond_true] at h
      rw [h] at e
      cases hi : Go.Proofs.Try.prog.info? t with
      | none => rw [hi] at e; cases e
      | some i => rw [hi] at e; simp at e; exact ⟨i, rfl, e.symm⟩
    · rw [blt_not ht] at h; cases h
  zero_ok := by
    intro t v h
    by_cases ht : t < 174
    · rw [blt_of ht] at h
      have e := of_range tZero_eq ht
      simp only [cond_true] at h
      rw [h] at e
      cases hi : Go.Proofs.Try.prog.info? t with
      | none => rw [hi] at e; cases e
      | some i => rw [hi] at e; simp at e; exact ⟨i, rfl, e.symm⟩
    · rw [blt_not ht] at h; cases h
  func_ok := by
    intro f fn h
    by_cases ht : f < 121
    · rw [blt_of ht] at h; rw [← of_range tFunc_eq ht]; exact h
    · rw [blt_not ht] at h; cases h
  plain_ok := by
    intro t h
    by_cases ht : t < 174
    · rw [blt_of ht] at h
      have e := of_range tPlain_eq ht
      simp only [cond_true] at h
      rw [h] at e
      simpa using e.symm
    · rw [blt_not ht] at h; cases h
  guard_ok := by
    intro t h
    by_cases ht : t < 174
    · rw [blt_of ht] at h
      have e := of_range tGuard_eq ht
      simp only [cond_true] at h
      rw [h] at e
      simpa using e.symm
    · rw [blt_not ht] at h; cases h
end Go.Proofs.Ytmmpnjcmaodkcaa.Ev
/- What is proved: the table of contracts that the evaluator takes in this translation. Conditions: none beyond the contracts' own. -/
namespace Go.Proofs.Ytmmpnjcmaodkcaa.Ev
open Go Go.RowKit Go.Proofs.Ytmmpnjcmaodkcaa.Sep Go.Proofs.Ytmmpnjcmaodkcaa.Num Go.Proofs.Ytmmpnjcmaodkcaa.Mem
set_option maxRecDepth 100000
set_option linter.unusedVariables false
set_option linter.unusedSimpArgs false
set_option maxHeartbeats 1000000 in
theorem slotWord_c (k n : Int) (w : World) :
    Calls Try.prog 85 #[.agg #[.int .i64 k, .int .i64 n]] w (Ret w (.int .u64 (sW k n))) := by
  have hw : Hid (bits .or .u64 (bits .and .u64 (IntKind.u64.wrap k) 3) (IntKind.u64.wrap (IntKind.u64.wrap n * 8)) = sW k n) := word1 k n
  go_enter Try.func85, Try.ntmps85
  go_wp2_with fail
  go_ret
  exact ⟨ret_int hw.out, (Below.refl _ _).alloc (Nat.le_refl _) _⟩
section
variable {X : Type} [Obj X]
def Γ : Ctr (MO X) :=
  ctrCons 18 (cLoad 101) <|
  ctrCons 20 (cStore 101) <|
  ctrCons 44 (cCas 101) <|
  ctrCons 42 (cU1 valA) <|
  ctrCons 15 (cU1 valA) <|
  ctrCons 85 cWord <|
  ctrCons 21 cWord <|
  ctrCons 43 (cU1 headA) <|
  ctrCons 17 (cU1 headA) <|
  ctrCons 95 cMoved <|
  ctrCons 69 cMoved <|
  ctrCons 24 cHeadWord <|
  ctrCons 25 (cStore 50) <|
  ctrNone
theorem Γ_ok : CtrOk Try.prog (Γ : Ctr (MO X)) :=
  ctrCons_ok (cLoad_ok load_calls) <|
  ctrCons_ok (cStore_ok store_calls) <|
  ctrCons_ok (cCas_ok cas_calls) <|
  ctrCons_ok (cU1_ok fun x w h0 h1 => by rw [valA_den]; exact slotOf_calls _ w h0 h1) <|
  ctrCons_ok (cU1_ok fun x w h0 h1 => by rw [valA_den]; exact ref01Of_calls _ w h0 h1) <|
  ctrCons_ok (cWord_ok slotWord_c) <|
  ctrCons_ok (cWord_ok ref01Word_calls) <|
  ctrCons_ok (cU1_ok fun x w h0 h1 => by rw [headA_den]; exact headOf_calls _ w h0 h1) <|
  ctrCons_ok (cU1_ok fun x w h0 h1 => by rw [headA_den]; exact ref02Of_calls _ w h0 h1) <|
  ctrCons_ok (cMoved_ok headMoved_calls) <|
  ctrCons_ok (cMoved_ok ref02Moved_calls) <|
  ctrCons_ok (cHeadWord_ok ref02Word_calls) <|
  ctrCons_ok (cStore_ok refStore_calls) <|
  ctrNone_ok _
end
end Go.Proofs.Ytmmpnjcmaodkcaa.Ev
/- What is proved: contracts of head.Word, of package stamp and of its reference. Conditions: stated with each contract. -/
namespace Go.Proofs.Ytmmpnjcmaodkcaa.Ev
open Go Go.RowKit Go.Proofs.Ytmmpnjcmaodkcaa.Sep Go.Proofs.Ytmmpnjcmaodkcaa.Num Go.Proofs.Ytmmpnjcmaodkcaa.Mem
set_option maxRecDepth 100000
set_option linter.unusedVariables false
set_option linter.unusedSimpArgs false
instance : Obj Empty where
  den := fun x _ => Empty.elim x
  known := fun _ _ => none
  known_ok := fun {x} => Empty.elim x
set_option maxRecDepth 1000000 in
theorem ofTop_ev (w : Int) : evF (A := MO Empty) Try.prog Γ 1000 false 98 [.c (sU w)] [] 0 [] =
  Tree.new fun (b1 : Nat) => Tree.new fun (b2 : Nat) => same [b1, b1, b1, b1, b1, b1, b2, b2] (Tree.done (Leaf.val (SV.a (SA.agg [sI (IntKind.wrap IntKind.i64 (bitsV BinOp.and IntKind.u64 w (IntKind.wrap IntKind.u64 (shlV IntKind.u64 1 12 - 1)))), sI (IntKind.wrap IntKind.i64 (bitsV BinOp.and IntKind.u64 (shrV IntKind.u64 w 12) (IntKind.wrap IntKind.u64 (shlV IntKind.u64 1 40 - 1))))])) [] 2)) := by kernel_rfl
set_option maxRecDepth 1000000 in
theorem next_ev (w a : Int) : evF (A := MO Empty) Try.prog Γ 1000 false 99 [.c (sU w), .c (sI a)] [] 0 [] =
  Tree.new fun (b2 : Nat) => Tree.new fun (b3 : Nat) => same [b2, b2, b2, b2, b2, b2, b3, b3] (Tree.need (inR IntKind.i64 (IntKind.wrap IntKind.i64 (bitsV BinOp.and IntKind.u64 (shrV IntKind.u64 w 12) (IntKind.wrap IntKind.u64 (shlV IntKind.u64 1 40 - 1))) + 1)) (Tree.new fun (b4 : Nat) => same [b4, b4] (Tree.new fun (b5 : Nat) => Tree.new fun (b6 : Nat) => same [b5, b5, b5, b5] (sameC [lI 0] (same [b5] (sameC [lI 0] (same [b5] (sameC [lU 0] (same [b6, b5] (sameC [lI 0] (same [b5] (sameC [lI 0] (same [b5] (sameC [lU 0] (same [b6, b4] (sameC [sI (IntKind.wrap IntKind.i64 (bitsV BinOp.and IntKind.u64 (shrV IntKind.u64 w 12) (IntKind.wrap IntKind.u64 (shlV IntKind.u64 1 40 - 1))) + 1)] (same [b4] (sameC [sI a] (Tree.new fun (b7 : Nat) => Tree.new fun (b8 : Nat) => same [b7, b7, b7, b7] (sameC [lI (IntKind.wrap IntKind.i64 (0 + 12))] (same [b7] (sameC [lI (IntKind.wrap IntKind.i64 (0 + 12))] (same [b7] (sameC [sU (bitsV BinOp.or IntKind.u64 0 (shlV IntKind.u64 (bitsV BinOp.and IntKind.u64 (IntKind.wrap IntKind.u64 a) (IntKind.wrap IntKind.u64 (shlV IntKind.u64 1 12 - 1))) 0))] (same [b8, b7] (sameC [lI (IntKind.wrap IntKind.i64 (0 + 12))] (same [b7] (sameC [lI (IntKind.wrap IntKind.i64 (0 + 12))] (same [b7] (sameC [sU (bitsV BinOp.or IntKind.u64 0 (shlV IntKind.u64 (bitsV BinOp.and IntKind.u64 (IntKind.wrap IntKind.u64 a) (IntKind.wrap IntKind.u64 (shlV IntKind.u64 1 12 - 1))) 0))] (same [b8, b4] (sameC [sI (IntKind.wrap IntKind.i64 (bitsV BinOp.and IntKind.u64 (shrV IntKind.u64 w 12) (IntKind.wrap IntKind.u64 (shlV IntKind.u64 1 40 - 1))) + 1)] (same [b4] (sameC [sI a] (Tree.done (Leaf.val (SV.a (SA.one (sU (bitsV BinOp.or IntKind.u64 (bitsV BinOp.or IntKind.u64 0 (shlV IntKind.u64 (bitsV BinOp.and IntKind.u64 (IntKind.wrap IntKind.u64 a) (IntKind.wrap IntKind.u64 (shlV IntKind.u64 1 12 - 1))) 0)) (shlV IntKind.u64 (bitsV BinOp.and IntKind.u64 (IntKind.wrap IntKind.u64 (IntKind.wrap IntKind.i64 (bitsV BinOp.and IntKind.u64 (shrV IntKind.u64 w 12) (IntKind.wrap IntKind.u64 (shlV IntKind.u64 1 40 - 1))) + 1)) (IntKind.wrap IntKind.u64 (shlV IntKind.u64 1 40 - 1))) (IntKind.wrap IntKind.i64 (0 + 12))))))) [] 7)))))))))))))))))))))))))))))))))))) := by kernel_rfl
set_option maxRecDepth 1000000 in
theorem headWord_ev (a b c d e f g : Int) : evF (A := MO Empty) Try.prog Γ 1000 false 45 [.a (.agg [sI a, sI b, sI c, sI d, sI e, sI f, sI g])] [] 0 [] =
  Tree.new fun (b7 : Nat) => same [b7, b7, b7, b7, b7, b7, b7] (Tree.new fun (b8 : Nat) => same [b8] (Tree.new fun (b9 : Nat) => same [b9, b9, b9, b9, b8] (Tree.new fun (b10 : Nat) => same [b10, b10, b10, b10, b8] (Tree.new fun (b11 : Nat) => same [b11, b11, b11, b11, b8] (Tree.new fun (b12 : Nat) => same [b12, b12, b12, b12, b8] (Tree.new fun (b13 : Nat) => same [b13, b13, b13, b13, b8] (Tree.new fun (b14 : Nat) => same [b14, b14, b14, b14, b8] (Tree.new fun (b15 : Nat) => same [b15, b15, b15, b15] (Tree.done (Leaf.val (SV.a (SA.one (sU (bitsV BinOp.or IntKind.u64 (bitsV BinOp.or IntKind.u64 (bitsV BinOp.or IntKind.u64 (bitsV BinOp.or IntKind.u64 (bitsV BinOp.or IntKind.u64 (bitsV BinOp.or IntKind.u64 (bitsV BinOp.or IntKind.u64 0 (shlV IntKind.u64 (bitsV BinOp.and IntKind.u64 (IntKind.wrap IntKind.u64 a) (IntKind.wrap IntKind.u64 (shlV IntKind.u64 1 2 - 1))) 0)) (shlV IntKind.u64 (bitsV BinOp.and IntKind.u64 (IntKind.wrap IntKind.u64 b) (IntKind.wrap IntKind.u64 (shlV IntKind.u64 1 2 - 1))) (IntKind.wrap IntKind.i64 (0 + 2)))) (shlV IntKind.u64 (bitsV BinOp.and IntKind.u64 (IntKind.wrap IntKind.u64 c) (IntKind.wrap IntKind.u64 (shlV IntKind.u64 1 3 - 1))) (IntKind.wrap IntKind.i64 (IntKind.wrap IntKind.i64 (0 + 2) + 2)))) (shlV IntKind.u64 (bitsV BinOp.and IntKind.u64 (IntKind.wrap IntKind.u64 d) (IntKind.wrap IntKind.u64 (shlV IntKind.u64 1 1 - 1))) (IntKind.wrap IntKind.i64 (IntKind.wrap IntKind.i64 (IntKind.wrap IntKind.i64 (0 + 2) + 2) + 3)))) (shlV IntKind.u64 (bitsV BinOp.and IntKind.u64 (IntKind.wrap IntKind.u64 e) (IntKind.wrap IntKind.u64 (shlV IntKind.u64 1 1 - 1))) (IntKind.wrap IntKind.i64 (IntKind.wrap IntKind.i64 (IntKind.wrap IntKind.i64 (IntKind.wrap IntKind.i64 (0 + 2) + 2) + 3) + 1)))) (shlV IntKind.u64 (bitsV BinOp.and IntKind.u64 (IntKind.wrap IntKind.u64 f) (IntKind.wrap IntKind.u64 (shlV IntKind.u64 1 3 - 1))) (IntKind.wrap IntKind.i64 (IntKind.wrap IntKind.i64 (IntKind.wrap IntKind.i64 (IntKind.wrap IntKind.i64 (IntKind.wrap IntKind.i64 (0 + 2) + 2) + 3) + 1) + 1)))) (shlV IntKind.u64 (bitsV BinOp.and IntKind.u64 (IntKind.wrap IntKind.u64 g) (IntKind.wrap IntKind.u64 (shlV IntKind.u64 1 12 - 1))) (IntKind.wrap IntKind.i64 (IntKind.wrap IntKind.i64 (IntKind.wrap IntKind.i64 (IntKind.wrap IntKind.i64 (IntKind.wrap IntKind.i64 (IntKind.wrap IntKind.i64 (0 + 2) + 2) + 3) + 1) + 1) + 3))))))) [] 9)))))))))) := by kernel_rfl
set_option maxRecDepth 1000000 in
theorem rofTop_ev (w : Int) : evF (A := MO Empty) Try.prog Γ 1000 false 79 [.c (sU w)] [] 0 [] =
  Tree.new fun (b1 : Nat) => same [b1, b1] (Tree.done (Leaf.val (SV.a (SA.agg [sI (IntKind.wrap IntKind.i64 (Int.tmod (shrV IntKind.u64 w 0) (shlV IntKind.u64 1 12))), sI (IntKind.wrap IntKind.i64 (Int.tmod (shrV IntKind.u64 w 12) (shlV IntKind.u64 1 40)))])) [] 1)) := by kernel_rfl
set_option maxRecDepth 1000000 in
theorem rnext_ev (w a : Int) : evF (A := MO Empty) Try.prog Γ 1000 false 80 [.c (sU w), .c (sI a)] [] 0 [] =
  Tree.new fun (b2 : Nat) => same [b2, b2] (Tree.new fun (b3 : Nat) => same [b3, b3] (Tree.need (inR IntKind.i64 (IntKind.wrap IntKind.i64 (Int.tmod (shrV IntKind.u64 w 12) (shlV IntKind.u64 1 40)) + 1)) (Tree.new fun (b4 : Nat) => same [b4, b4, b4] (sameC [sI (IntKind.wrap IntKind.i64 (Int.tmod (shrV IntKind.u64 w 12) (shlV IntKind.u64 1 40)) + 1)] (same [b4] (sameC [sI a] (same [b4] (sameC [sI (IntKind.wrap IntKind.i64 (Int.tmod (shrV IntKind.u64 w 12) (shlV IntKind.u64 1 40)) + 1)] (same [b4] (sameC [sI a] (Tree.done (Leaf.val (SV.a (SA.one (sU (IntKind.wrap IntKind.u64 (IntKind.wrap IntKind.u64 (0 + shlV IntKind.u64 (Int.tmod (IntKind.wrap IntKind.u64 a) (shlV IntKind.u64 1 12)) 0) + shlV IntKind.u64 (Int.tmod (IntKind.wrap IntKind.u64 (IntKind.wrap IntKind.i64 (Int.tmod (shrV IntKind.u64 w 12) (shlV IntKind.u64 1 40)) + 1)) (shlV IntKind.u64 1 40)) 12))))) [] 3)))))))))))) := by kernel_rfl
/-! ### the numbers -/
theorem bitsV_and (x y : Int) : bitsV .and .u64 x y = bits .and .u64 x y := rfl
theorem bitsV_or (x y : Int) : bitsV .or .u64 x y = bits .or .u64 x y := rfl
theorem maskV {x : Int} (n m : Nat) (c : Int) (hc : c = (m : Int)) (h0 : 0 ≤ x) (h : x < 18446744073709551616) (hm : m = 2 ^ n - 1) (hn : m < 18446744073709551616) : bitsV .and .u64 x c = x % (2 ^ n : Nat) := by
  rw [hc, bitsV_and]; exact andMask x n m h0 h hm hn
theorem orShl {a v : Int} (n p : Nat) (c : Int) (hp : p = 2 ^ n) (hc : c = (n : Int)) (hn : n < 64) (a0 : 0 ≤ a) (a1 : a < (p : Int)) (v0 : 0 ≤ v) (v1 : v * (p : Int) < 18446744073709551616) : bitsV .or .u64 a (shlV .u64 v c) = a + v * (p : Int) := by
  subst hc
  have e1 : shlV .u64 v (n : Int) = v * (p : Int) := by
    unfold shlV
    have e : min ((n : Int).toNat) (IntKind.u64.bits) = n := by
      show min ((n : Int).toNat) 64 = n
      omega
    rw [e, show ((2 : Int) ^ n) = (p : Int) by rw [hp, Int.natCast_pow]; rfl]
    exact wrapU_in _ (Int.mul_nonneg v0 (by omega)) v1
  rw [e1, bitsV_or]
  obtain ⟨a, rfl⟩ := Int.eq_ofNat_of_zero_le a0
  obtain ⟨v, rfl⟩ := Int.eq_ofNat_of_zero_le v0
  have hlt : a < 2 ^ n := by rw [← hp]; omega
  have hb : v * p < 18446744073709551616 := by
    have h1 : ((v * p : Nat) : Int) < 18446744073709551616 := by rw [Int.natCast_mul]; exact v1
    omega
  have ha : a < 18446744073709551616 := by
    have h1 : (2 : Nat) ^ n ≤ 2 ^ 63 := Nat.pow_le_pow_right (by omega) (by omega)
    have h2 : (2 : Nat) ^ 63 = 9223372036854775808 := by decide
    rw [h2] at h1
    omega
  have := bits_or_u64_nat a (v * p) ha hb
  rw [show ((v : Int) * (p : Int)) = ((v * p : Nat) : Int) from (Int.natCast_mul v p).symm, this]
  have e2 := Nat.two_pow_add_eq_or_of_lt hlt v
  rw [← hp] at e2
  rw [Nat.or_comm, show v * p = p * v by rw [Nat.mul_comm], ← e2]
  omega
/-- A function that only computes, out of what the evaluator finds. -/
theorem ret_of_ev {f g : Nat} {s : Bool} {args : List SV} {t : Tree (MO Empty)} (ht : evF Try.prog Γ g s f args [] 0 [] = t) {v : SV} (hl : t.Leads Try.prog fun x => ∃ u H n, x = .val u H n ∧ u.den = v.den) (w : World) :
    Calls Try.prog f (args.map SV.den).toArray w (Ret w v.den) := by
  refine (evF_ok noGos mixedOrders Γ_ok ht hl (R := old w.heap.size w) ((holds_old _ w).cast (star_empl _).symm)).mono ?_
  rintro e w' ⟨u, H', n', ⟨u', H'', n'', hx, he⟩, rfl, h, st⟩
  simp only [Leaf.val.injEq] at hx
  obtain ⟨rfl, rfl, rfl⟩ := hx
  exact ⟨by rw [he], h.drop.below (Nat.le_refl _) st⟩
theorem headWord_c (v : HV) (w : World) : Calls Try.prog 45 #[v.agg] w (Ret w (.int .u64 v.w)) := by
  obtain ⟨a, b, c, d, e, f, g⟩ := v
  refine ret_of_ev (headWord_ev a b c d e f g) (v := .c (sU (HV.w ⟨a, b, c, d, e, f, g⟩))) ?_ w
  simp only [Tree.Leads, same_leads, sameC_leads]
  intro _ _ _ _ _ _ _ _ _
  refine ⟨_, _, _, rfl, ?_⟩
  show Value.int .u64 _ = Value.int .u64 _
  congr 1
  simp only [SI.v, HV.w]
  have wr : ∀ x : Int, 0 ≤ IntKind.u64.wrap x ∧ IntKind.u64.wrap x < 18446744073709551616 := fun x => by rw [IntKind.wrap_u64]; omega
  have k1 := fun x => maskV 1 1 _ (show IntKind.wrap IntKind.u64 (shlV IntKind.u64 1 1 - 1) = ((1 : Nat) : Int) by decide +kernel) (wr x).1 (wr x).2 (by decide) (by decide)
  have k2 := fun x => maskV 2 3 _ (show IntKind.wrap IntKind.u64 (shlV IntKind.u64 1 2 - 1) = ((3 : Nat) : Int) by decide +kernel) (wr x).1 (wr x).2 (by decide) (by decide)
  have k3 := fun x => maskV 3 7 _ (show IntKind.wrap IntKind.u64 (shlV IntKind.u64 1 3 - 1) = ((7 : Nat) : Int) by decide +kernel) (wr x).1 (wr x).2 (by decide) (by decide)
  have k12 := fun x => maskV 12 4095 _ (show IntKind.wrap IntKind.u64 (shlV IntKind.u64 1 12 - 1) = ((4095 : Nat) : Int) by decide +kernel) (wr x).1 (wr x).2 (by decide) (by decide)
  simp only [k1, k2, k3, k12]
  have m : ∀ x : Int, IntKind.u64.wrap x % ((2 ^ 1 : Nat) : Int) = x % 2 ∧ IntKind.u64.wrap x % ((2 ^ 2 : Nat) : Int) = x % 4 ∧ IntKind.u64.wrap x % ((2 ^ 3 : Nat) : Int) = x % 8 ∧ IntKind.u64.wrap x % ((2 ^ 12 : Nat) : Int) = x % 4096 := fun x => by
    rw [IntKind.wrap_u64]; refine ⟨?_, ?_, ?_, ?_⟩ <;> simp <;> omega
  simp only [(m _).1, (m _).2.1, (m _).2.2.1, (m _).2.2.2]
  rw [show IntKind.i64.wrap (0 + 2) = 2 from rfl, show IntKind.i64.wrap (2 + 2) = 4 from rfl, show IntKind.i64.wrap (4 + 3) = 7 from rfl, show IntKind.i64.wrap (7 + 1) = 8 from rfl, show IntKind.i64.wrap (8 + 1) = 9 from rfl, show IntKind.i64.wrap (9 + 3) = 12 from rfl]
  rw [orShl 0 1 0 rfl rfl (by decide) (by omega) (by omega) (by omega) (by omega)]
  rw [orShl 2 4 2 rfl rfl (by decide) (by omega) (by omega) (by omega) (by omega)]
  rw [orShl 4 16 4 rfl rfl (by decide) (by omega) (by omega) (by omega) (by omega)]
  rw [orShl 7 128 7 rfl rfl (by decide) (by omega) (by omega) (by omega) (by omega)]
  rw [orShl 8 256 8 rfl rfl (by decide) (by omega) (by omega) (by omega) (by omega)]
  rw [orShl 9 512 9 rfl rfl (by decide) (by omega) (by omega) (by omega) (by omega)]
  rw [orShl 12 4096 12 rfl rfl (by decide) (by omega) (by omega) (by omega) (by omega)]
  omega
/-! ### heads of lists -/
def topAt (w : Int) : Int := w % 4096
def topVer (w : Int) : Int := w / 4096 % 1099511627776
def topNext (w a : Int) : Int := a % 4096 + (topVer w + 1) % 1099511627776 * 4096
theorem topNext_rng (w a : Int) : 0 ≤ topNext w a ∧ topNext w a < 18446744073709551616 := by unfold topNext; omega
theorem shr12 {w : Int} (h0 : 0 ≤ w) (h : w < 18446744073709551616) : shrV .u64 w 12 = w / 4096 := by
  unfold shrV
  rw [show min ((12 : Int).toNat) IntKind.u64.bits = 12 from rfl, show ((2 : Int) ^ 12) = 4096 from rfl, Int.fdiv_eq_ediv_of_nonneg _ (by omega)]
theorem shr0 {w : Int} : shrV .u64 w 0 = w := by
  unfold shrV
  rw [show min ((0 : Int).toNat) IntKind.u64.bits = 0 from rfl, show ((2 : Int) ^ 0) = 1 from rfl]
  simp
theorem ofTop_c (w : Int) (W : World) (h0 : 0 ≤ w) (h : w < 18446744073709551616) : Calls Try.prog 98 #[.int .u64 w] W (Ret W (.agg #[.int .i64 (topAt w), .int .i64 (topVer w)])) := by
  refine ret_of_ev (ofTop_ev w) (v := .a (.agg [sI (topAt w), sI (topVer w)])) ?_ W
  simp only [Tree.Leads, same_leads, sameC_leads]
  intro _ _
  refine ⟨_, _, _, rfl, ?_⟩
  have k12 := maskV 12 4095 _ (show IntKind.wrap IntKind.u64 (shlV IntKind.u64 1 12 - 1) = ((4095 : Nat) : Int) by decide +kernel) h0 h (by decide) (by decide)
  have k40 := maskV (x := w / 4096) 40 1099511627775 _ (show IntKind.wrap IntKind.u64 (shlV IntKind.u64 1 40 - 1) = ((1099511627775 : Nat) : Int) by decide +kernel) (by omega) (by omega) (by decide) (by decide)
  rw [shr12 h0 h, k12, k40]
  have e1 : IntKind.i64.wrap (w % ((2 ^ 12 : Nat) : Int)) = topAt w := by rw [IntKind.wrap_i64]; unfold topAt; simp; omega
  have e2 : IntKind.i64.wrap (w / 4096 % ((2 ^ 40 : Nat) : Int)) = topVer w := by rw [IntKind.wrap_i64]; unfold topVer; simp; omega
  rw [e1, e2]
theorem rofTop_c (w : Int) (W : World) (h0 : 0 ≤ w) (h : w < 18446744073709551616) : Calls Try.prog 79 #[.int .u64 w] W (Ret W (.agg #[.int .i64 (topAt w), .int .i64 (topVer w)])) := by
  refine ret_of_ev (rofTop_ev w) (v := .a (.agg [sI (topAt w), sI (topVer w)])) ?_ W
  simp only [Tree.Leads, same_leads, sameC_leads]
  intro _
  refine ⟨_, _, _, rfl, ?_⟩
  rw [shr12 h0 h, shr0, show shlV .u64 1 12 = 4096 from rfl, show shlV .u64 1 40 = 1099511627776 from rfl, Int.tmod_eq_emod_of_nonneg h0, Int.tmod_eq_emod_of_nonneg (by omega)]
  have e1 : IntKind.i64.wrap (w % 4096) = topAt w := by rw [IntKind.wrap_i64]; unfold topAt; omega
  have e2 : IntKind.i64.wrap (w / 4096 % 1099511627776) = topVer w := by rw [IntKind.wrap_i64]; unfold topVer; omega
  rw [e1, e2]
theorem next_c (w a : Int) (W : World) (h0 : 0 ≤ w) (h : w < 18446744073709551616) : Calls Try.prog 99 #[.int .u64 w, .int .i64 a] W (Ret W (.int .u64 (topNext w a))) := by
  refine ret_of_ev (next_ev w a) (v := .c (sU (topNext w a))) ?_ W
  have k40 := maskV (x := w / 4096) 40 1099511627775 _ (show IntKind.wrap IntKind.u64 (shlV IntKind.u64 1 40 - 1) = ((1099511627775 : Nat) : Int) by decide +kernel) (by omega) (by omega) (by decide) (by decide)
  have e2 : IntKind.i64.wrap (w / 4096 % ((2 ^ 40 : Nat) : Int)) = topVer w := by rw [IntKind.wrap_i64]; unfold topVer; simp; omega
  have t0 : 0 ≤ topVer w ∧ topVer w < 1099511627776 := by unfold topVer; omega
  simp only [Tree.Leads, same_leads, sameC_leads]
  rw [shr12 h0 h, k40, e2]
  intro _ _
  refine ⟨by unfold inR; simp [IntKind.min, IntKind.max, IntKind.signed, IntKind.bits]; omega, ?_⟩
  intro _ _ _ _ _
  refine ⟨_, _, _, rfl, ?_⟩
  show Value.int .u64 _ = Value.int .u64 _
  congr 1
  simp only [SI.v]
  have wr : ∀ x : Int, 0 ≤ IntKind.u64.wrap x ∧ IntKind.u64.wrap x < 18446744073709551616 := fun x => by rw [IntKind.wrap_u64]; omega
  have k12 := fun x => maskV 12 4095 _ (show IntKind.wrap IntKind.u64 (shlV IntKind.u64 1 12 - 1) = ((4095 : Nat) : Int) by decide +kernel) (wr x).1 (wr x).2 (by decide) (by decide)
  have k40' := fun x => maskV 40 1099511627775 _ (show IntKind.wrap IntKind.u64 (shlV IntKind.u64 1 40 - 1) = ((1099511627775 : Nat) : Int) by decide +kernel) (wr x).1 (wr x).2 (by decide) (by decide)
  have m : ∀ x : Int, IntKind.u64.wrap x % ((2 ^ 12 : Nat) : Int) = x % 4096 ∧ IntKind.u64.wrap x % ((2 ^ 40 : Nat) : Int) = x % 1099511627776 := fun x => by
    rw [IntKind.wrap_u64]; refine ⟨?_, ?_⟩ <;> simp <;> omega
  simp only [k12, k40', (m _).1, (m _).2]
  rw [show IntKind.i64.wrap (0 + 12) = 12 from rfl]
  rw [orShl 0 1 0 rfl rfl (by decide) (by omega) (by omega) (by omega) (by omega)]
  rw [orShl 12 4096 12 rfl rfl (by decide) (by omega) (by omega) (by omega) (by omega)]
  unfold topNext
  omega
theorem rnext_c (w a : Int) (W : World) (h0 : 0 ≤ w) (h : w < 18446744073709551616) : Calls Try.prog 80 #[.int .u64 w, .int .i64 a] W (Ret W (.int .u64 (topNext w a))) := by
  refine ret_of_ev (rnext_ev w a) (v := .c (sU (topNext w a))) ?_ W
  have e2 : IntKind.i64.wrap (w / 4096 % 1099511627776) = topVer w := by rw [IntKind.wrap_i64]; unfold topVer; omega
  have t0 : 0 ≤ topVer w ∧ topVer w < 1099511627776 := by unfold topVer; omega
  have wr : ∀ x : Int, 0 ≤ IntKind.u64.wrap x ∧ IntKind.u64.wrap x < 18446744073709551616 := fun x => by rw [IntKind.wrap_u64]; omega
  have sh : ∀ x : Int, shlV .u64 x 0 = IntKind.u64.wrap x ∧ shlV .u64 x 12 = IntKind.u64.wrap (x * 4096) := fun x => by
    unfold shlV
    rw [show min ((12 : Int).toNat) IntKind.u64.bits = 12 from rfl, show ((2 : Int) ^ 12) = 4096 from rfl, show min ((0 : Int).toNat) IntKind.u64.bits = 0 from rfl, show ((2 : Int) ^ 0) = 1 from rfl, Int.mul_one]
    exact ⟨rfl, rfl⟩
  have c12 : shlV .u64 1 12 = 4096 := rfl
  have c40 : shlV .u64 1 40 = 1099511627776 := rfl
  simp only [Tree.Leads, same_leads, sameC_leads]
  rw [shr12 h0 h, c40, c12, Int.tmod_eq_emod_of_nonneg (by omega), e2]
  intro _ _
  refine ⟨by unfold inR; simp [IntKind.min, IntKind.max, IntKind.signed, IntKind.bits]; omega, ?_⟩
  intro _
  refine ⟨_, _, _, rfl, ?_⟩
  show Value.int .u64 _ = Value.int .u64 _
  congr 1
  simp only [SI.v]
  rw [Int.tmod_eq_emod_of_nonneg (wr _).1, Int.tmod_eq_emod_of_nonneg (wr _).1, (sh _).1, (sh _).2]
  simp only [IntKind.wrap_u64]
  unfold topNext
  omega
end Go.Proofs.Ytmmpnjcmaodkcaa.Ev
/- What is proved: the contracts of the reference memory's Load and CAS. Conditions: that the memory is one of at most 4096 words. -/
namespace Go.Proofs.Ytmmpnjcmaodkcaa.Mem
open Go Go.RowKit Go.Proofs.Ytmmpnjcmaodkcaa.Sep
set_option maxRecDepth 100000
set_option linter.unusedVariables false
set_option linter.unusedSimpArgs false
theorem refMem_cells {w : World} {R : HProp} {mb : Nat} {M : MS} (H : Holds w (MemP 50 mb M * R)) : ∃ wb : Nat, w.cell? ⟨mb, 0, none⟩ = some (.slice (some ⟨wb, 0, none⟩) M.ws.length M.ws.length) ∧ ∀ i, i < M.ws.length → w.cell? ⟨wb, i, none⟩ = some (.int .u64 (M.ws.getD i 0)) := by
  obtain ⟨wb, tv, xs, H3⟩ := memP_open H
  have H4 := H3.cast (Q := pt wb (.cells (W M.ws) 38 (0, 0)) * (pt mb (.cells #[.slice (some ⟨wb, 0, none⟩) M.ws.length M.ws.length, .int .i64 (M.cnt : Int), .int .i64 (M.tr : Int), tv] 50 (0, 0)) * (Row 128 3 tv M.n xs * R))) (by ac_rfl)
  exact ⟨wb, H3.cell 0 _ rfl, fun i hi => H4.cell i _ (W_get _ _ hi)⟩
set_option maxHeartbeats 1000000 in
theorem refLoad_calls (w : World) (R : HProp) (mb : Nat) (M : MS) (a : Int) (H : Holds w (MemP 50 mb M * R)) (hok : M.ok) :
    Calls Try.prog 56 #[.pointer (some ⟨mb, 0, none⟩), .int .i64 a] w fun e w' => e = .returned (.int .u64 (M.load a)) ∧ Holds w' (MemP 50 mb (M.loaded a) * R) ∧ Strm w w' := by
  have HT : Hid (∀ w, Holds w (MemP 50 mb M * R) → Calls Try.prog 52 #[.pointer (some ⟨mb, 0, none⟩), .int .i64 a] w fun e w' => e = .returned (.bool (M.there a)) ∧ w = w') := fun w H => refThere_calls w R mb M a H hok
  have HO : Hid (∀ w b ok, Holds w (MemP 50 mb M * R) → Calls Try.prog 53 #[.pointer (some ⟨mb, 0, none⟩), .int .i64 1, .int .i64 a, .bool b, .bool ok] w fun e w' => e = .returned (.tuple #[]) ∧ Holds w' (MemP 50 mb (M.acc b) * R) ∧ Strm w w') := fun w b ok H => told_calls w R mb M 1 a b ok H hok
  have HH : Hid (Holds w (MemP 50 mb M * R)) := H
  have hl := hok.len
  clear H hok
  rcases there_cases M a with ⟨h, h0, h1⟩ | ⟨h, hn⟩
  · have HS : Hid (M.loaded a = M.acc true) := by simp [Hid, MS.loaded, h]
    have HV : Hid (M.load a = M.ws.getD a.toNat 0) := by simp [Hid, MS.load, MS.get, h]
    have HL : Hid (a.toNat < M.ws.length) := by show _ < _; omega
    go_enter Try.func56, Try.ntmps56
    go_wp2_with (first | (go_at_call 52; refine (HT.out _ HH.out).mono ?_; rintro e w2 ⟨rfl, rfl⟩) | (go_at_call 53; refine (HO.out _ true true HH.out).mono ?_; rintro e w2 ⟨rfl, H2, s2⟩; obtain ⟨wb, hc0, hcw0⟩ := refMem_cells H2; have hc0' : w2.cell? ⟨mb, 0, none⟩ = some (.slice (some ⟨wb, 0, none⟩) M.ws.length M.ws.length) := hc0; have hcw : w2.cell? ⟨wb, a.toNat, none⟩ = some (.int .u64 (M.ws.getD a.toNat 0)) := hcw0 _ HL.out; clear hc0 hcw0; generalize M.ws.getD a.toNat 0 = y at HV hcw))
    go_ret
    rw [HV.out, HS.out]
    exact ⟨rfl, H2, s2⟩
  · have HS : Hid (M.loaded a = M.acc false) := by simp [Hid, MS.loaded, h]
    have HV : Hid (M.load a = 0) := by simp [Hid, MS.load, h]
    go_enter Try.func56, Try.ntmps56
    go_wp2_with (first | (go_at_call 52; refine (HT.out _ HH.out).mono ?_; rintro e w2 ⟨rfl, rfl⟩) | (go_at_call 53; refine (HO.out _ false false HH.out).mono ?_; rintro e w2 ⟨rfl, H2, s2⟩))
    go_ret
    rw [HV.out, HS.out]
    exact ⟨rfl, H2, s2⟩
set_option maxHeartbeats 1000000 in
theorem refCas_calls (w : World) (R : HProp) (mb : Nat) (M : MS) (a o x : Int) (H : Holds w (MemP 50 mb M * R)) (hok : M.ok) :
    Calls Try.prog 58 #[.pointer (some ⟨mb, 0, none⟩), .int .i64 a, .int .u64 o, .int .u64 x] w fun e w' => e = .returned (.bool (M.casOk a o)) ∧ Holds w' (MemP 50 mb (M.cas a o x) * R) ∧ Strm w w' := by
  have HT : Hid (∀ w, Holds w (MemP 50 mb M * R) → Calls Try.prog 52 #[.pointer (some ⟨mb, 0, none⟩), .int .i64 a] w fun e w' => e = .returned (.bool (M.there a)) ∧ w = w') := fun w H => refThere_calls w R mb M a H hok
  have HO : Hid (∀ w b ok, Holds w (MemP 50 mb M * R) → Calls Try.prog 53 #[.pointer (some ⟨mb, 0, none⟩), .int .i64 3, .int .i64 a, .bool b, .bool ok] w fun e w' => e = .returned (.tuple #[]) ∧ Holds w' (MemP 50 mb (M.acc b) * R) ∧ Strm w w') := fun w b ok H => told_calls w R mb M 3 a b ok H hok
  have HH : Hid (Holds w (MemP 50 mb M * R)) := H
  have hl := hok.len
  obtain ⟨wb0, hd0, hdw0⟩ := refMem_cells H
  clear H hok
  rcases there_cases M a with ⟨h, h0, h1⟩ | ⟨h, hn⟩
  · have HL : Hid (a.toNat < M.ws.length) := by show _ < _; omega
    have hdw : w.cell? ⟨wb0, a.toNat, none⟩ = some (.int .u64 (M.ws.getD a.toNat 0)) := hdw0 _ HL.out
    have HG : Hid (M.get a = M.ws.getD a.toNat 0) := rfl
    clear hdw0
    generalize hy : M.ws.getD a.toNat 0 = y at hdw HG
    have HY : Hid (M.ws.getD a.toNat 0 = y) := hy
    clear hy
    by_cases he : y = o
    · have he' : (y == o) = true := by simpa using he
      have HS : Hid (M.cas a o x = ({ M with ws := M.ws.set a.toNat x } : MS).acc true ∧ M.casOk a o = true) := by
        have e : M.casOk a o = true := by unfold MS.casOk; rw [h, HG.out, he]; simp
        refine ⟨?_, e⟩
        unfold MS.cas; rw [e, h]; rfl
      clear he HG
      go_enter Try.func58, Try.ntmps58
      go_wp2_with (first | (go_at_call 52; refine (HT.out _ HH.out).mono ?_; rintro e w2 ⟨rfl, rfl⟩) | (go_at_call 53; refine (HO.out _ true true HH.out).mono ?_; rintro e w2 ⟨rfl, H2, s2⟩; obtain ⟨wb, tv, xs, H3⟩ := memP_open H2; have hc0 : w2.cell? ⟨mb, 0, none⟩ = some (.slice (some ⟨wb, 0, none⟩) M.ws.length M.ws.length) := H3.cell 0 _ rfl; have H4 := H3.cast (Q := pt wb (.cells (W M.ws) 38 (0, 0)) * (pt mb (.cells #[.slice (some ⟨wb, 0, none⟩) M.ws.length M.ws.length, .int .i64 ((M.acc true).cnt : Int), .int .i64 ((M.acc true).tr : Int), tv] 50 (0, 0)) * (Row 128 3 tv (M.acc true).n xs * R))) (by unfold MS.acc; ac_rfl); obtain ⟨y2, hcw⟩ : ∃ y, w2.cell? ⟨wb, a.toNat, none⟩ = some (.int .u64 y) := ⟨_, H4.cell a.toNat _ (W_get _ _ HL.out)⟩; have hfw := H4.free a.toNat; have H5 := H4.set a.toNat (.int .u64 x)))
      go_ret
      rw [HS.out.1, HS.out.2]
      refine ⟨rfl, ?_, s2.set _ _⟩
      rw [W_set] at H5
      refine memP_close (wb := wb) (tv := tv) (xs := xs) (H5.cast ?_)
      simp only [MS.acc, List.length_set]
      ac_rfl
    · have he' : (y == o) = false := by simpa using he
      have HS : Hid (M.cas a o x = M.acc true ∧ M.casOk a o = false) := by
        have e : M.casOk a o = false := by unfold MS.casOk; rw [h, HG.out]; simpa using he
        refine ⟨?_, e⟩
        unfold MS.cas; rw [e, h]; rfl
      clear he HG
      go_enter Try.func58, Try.ntmps58
      go_wp2_with (first | (go_at_call 52; refine (HT.out _ HH.out).mono ?_; rintro e w2 ⟨rfl, rfl⟩) | (go_at_call 53; refine (HO.out _ true false HH.out).mono ?_; rintro e w2 ⟨rfl, H2, s2⟩))
      go_ret
      rw [HS.out.1, HS.out.2]
      exact ⟨rfl, H2, s2⟩
  · have HS : Hid (M.cas a o x = M.acc false ∧ M.casOk a o = false) := by
      have e : M.casOk a o = false := by unfold MS.casOk; rw [h]; rfl
      refine ⟨?_, e⟩
      unfold MS.cas; rw [e, h]; rfl
    clear hd0 hdw0
    go_enter Try.func58, Try.ntmps58
    go_wp2_with (first | (go_at_call 52; refine (HT.out _ HH.out).mono ?_; rintro e w2 ⟨rfl, rfl⟩) | (go_at_call 53; refine (HO.out _ false false HH.out).mono ?_; rintro e w2 ⟨rfl, H2, s2⟩))
    go_ret
    rw [HS.out.1, HS.out.2]
    exact ⟨rfl, H2, s2⟩
end Go.Proofs.Ytmmpnjcmaodkcaa.Mem
/- What is proved: what the second evaluator's symbols mean, what its closed objects hold; contracts of the functions on words and on memories. Conditions: stated with each contract. -/
namespace Go.Proofs.Ytmmpnjcmaodkcaa.Ef
open Go Go.RowKit Go.Proofs.Ytmmpnjcmaodkcaa.Sep Go.Proofs.Ytmmpnjcmaodkcaa.Num Go.Proofs.Ytmmpnjcmaodkcaa.Mem
open Go.Proofs.Ytmmpnjcmaodkcaa.Ev (Fast topAt topVer topNext topNext_rng)
set_option maxRecDepth 100000
set_option linter.unusedVariables false
set_option linter.unusedSimpArgs false
set_option linter.unusedSectionVars false
/-- A memory; what lay in memory ahead of the call, below a block; a row of numbers. -/
inductive Om where
  | mem (M : MS)
  | old (w : World) (B : Nat)
  | row (l : List Int)
abbrev UM := U Om
/-- What a statement's own text adds: symbols from 100 on, objects from 10 on. -/
class Ext where
  e1 : Nat → UM → UM
  e2 : Nat → UM → UM → UM
  eo : Nat → UM → List Nat → Nat → HProp
  g1 : Nat → Rg
  g2 : Nat → Rg
  g1_ok : ∀ n u, (g1 n).has (e1 n u).int
  g2_ok : ∀ n u v, (g2 n).has (e2 n u v).int
def memOf : UM → MS
  | .o (.mem M) => M
  | _ => ⟨[], 0, 0, 0⟩
def listOf : UM → List Int
  | .o (.row l) => l
  | _ => []
def ci64 (x : Int) : Int := (x + 9223372036854775808) % 18446744073709551616 - 9223372036854775808
theorem ci64_in {x : Int} (h : -9223372036854775808 ≤ x ∧ x ≤ 9223372036854775807) : ci64 x = x := by unfold ci64; omega
/-- A word laid into a memory, without an access. -/
def _root_.Go.Proofs.Ytmmpnjcmaodkcaa.Mem.MS.poke (M : MS) (a x : Int) : MS := if (M.load a) % 18446744073709551616 = x then M else M.put a x
/-- A memory of n words. -/
def _root_.Go.Proofs.Ytmmpnjcmaodkcaa.Mem.MS.sized (M : MS) (n : Nat) : MS := { M with ws := (M.ws ++ zeros n).take n }
def cl64 (x : Int) : Int := x % 18446744073709551616
theorem cl64_in {x : Int} (h : 0 ≤ x ∧ x < 18446744073709551616) : cl64 x = x := by unfold cl64; omega
def hvOf (x : UM) : HV := ⟨x.fst.int, x.snd.fst.int, x.snd.snd.fst.int, x.snd.snd.snd.fst.int, x.snd.snd.snd.snd.fst.int, x.snd.snd.snd.snd.snd.fst.int, x.snd.snd.snd.snd.snd.snd.int⟩
def b1 [Ext] (n : Nat) (x : UM) : UM :=
  if n = 1 then .i (vK x.int) else if n = 2 then .i (vN (cl64 x.int)) else if n = 3 then .i (HV.of x.int).st else if n = 4 then .i (HV.of x.int).cl else
  if n = 5 then .i (HV.of x.int).ct else if n = 6 then .i (HV.of x.int).mr else if n = 7 then .i (HV.of x.int).gr else if n = 8 then .i (HV.of x.int).tg else
  if n = 9 then .i (HV.of x.int).lk else if n = 10 then .i (topAt x.int) else if n = 11 then .i (topVer x.int) else if n = 12 then .i (hvOf x).w else
  if n = 13 then .o (.mem (MS.new x.int.toNat)) else if n = 14 then .i ((memOf x).ws.length : Int) else if n = 15 then .i ((memOf x).tr : Int) else if n = 16 then .i ((memOf x).cnt : Int) else if n = 31 then .i (ci64 x.int) else if n = 32 then .i (if x.int < 0 then 0 else x.int) else if 1000 < n then .i (kindOf x.int (n - 1000 : Nat)) else Ext.e1 n x
def b2 [Ext] (n : Nat) (x y : UM) : UM :=
  if n = 1 then .i (sW x.int y.int) else if n = 2 then .i (hMoved x.int y.int) else if n = 3 then .i (topNext x.int y.int) else
  if n = 20 then .i (cl64 ((memOf x).load y.int)) else if n = 21 then .o (.mem ((memOf x).loaded y.int)) else if n = 22 then .o (.mem ((memOf x).store y.fst.int y.snd.int)) else
  if n = 23 then .b ((memOf x).casOk y.fst.int y.snd.int) else if n = 24 then .o (.mem ((memOf x).cas y.fst.int y.snd.fst.int y.snd.snd.int)) else
  if n = 26 then .o (.mem ((memOf x).poke y.fst.int y.snd.int)) else if n = 27 then .o (.mem ((memOf x).sized y.int.toNat)) else if n = 28 then .o (.mem { memOf x with tr := y.int.toNat }) else if n = 30 then .i (ci64 ((listOf x).getD y.int.toNat 0)) else Ext.e2 n x y
/-- A memory of so many accesses at most. -/
def MemO (T : Nat) (u : UM) (b : Nat) : HProp := andP ((memOf u.fst).ok ∧ ((memOf u.fst).n : Int) ≤ u.snd.int ∧ ((memOf u.fst).cnt : Int) ≤ u.snd.int ∧ ((memOf u.fst).tr : Int) ≤ u.snd.int) (MemP T b (memOf u.fst))
/-- The same, with the words' block told. -/
def MemQ (T mb wb : Nat) (M : MS) : HProp := exP fun tv => exP fun xs => (pt mb (.cells #[.slice (some ⟨wb, 0, none⟩) M.ws.length M.ws.length, .int .i64 (M.cnt : Int), .int .i64 (M.tr : Int), tv] T (0, 0)) * (pt wb (.cells (W M.ws) 38 (0, 0)) * Row 128 3 tv M.n xs))
def MemOQ (T : Nat) (u : UM) (wb b : Nat) : HProp := andP ((memOf u.fst).ok ∧ ((memOf u.fst).n : Int) ≤ u.snd.int ∧ ((memOf u.fst).cnt : Int) ≤ u.snd.int ∧ ((memOf u.fst).tr : Int) ≤ u.snd.int) (MemQ T b wb (memOf u.fst))
def MemX (T : Nat) (u : UM) (ns : List Nat) (b : Nat) : HProp :=
  match ns with
  | [wb] => MemOQ T u wb b
  | _ => MemO T u b
/-- A row of whole numbers in what lay there before: row, offset, how many elements, cells an element. -/
structure RowOk (w : World) (B : Nat) (l : List Int) (off len st : Int) (b : Nat) : Prop where
  o : 0 ≤ off
  n : (l.length : Int) = len * st
  lo : b < B ∨ len = 0
  c : ∀ j, j < l.length → w.cell? ⟨b, off.toNat + j, none⟩ = some (.int .i64 (l.getD j 0))
  r : ∀ x ∈ l, -9223372036854775808 ≤ x ∧ x ≤ 9223372036854775807
def rowsOk (w : World) (B : Nat) : UM → List Nat → Prop
  | _, [] => True
  | u, b :: r => RowOk w B (listOf u.fst.fst) u.fst.snd.fst.int u.fst.snd.snd.fst.int u.fst.snd.snd.snd.int b ∧ rowsOk w B u.snd r
def oldOf : UM → Option (World × Nat)
  | .o (.old w B) => some (w, B)
  | _ => none
def OldO (u : UM) (ns : List Nat) : HProp := exP fun q : World × Nat => andP (oldOf u.fst = some q ∧ rowsOk q.1 q.2 u.snd ns) (old q.2 q.1)
instance instInterpOfExt [Ext] : Interp where
  Ω := Om
  f1 := b1
  f2 := b2
  ob k u ns b := if k = 1 then MemX 101 u ns b else if k = 2 then MemX 50 u ns b else if k = 9 then OldO u ns else Ext.eo k u ns b
def rg (a b : Int) : Rg := ⟨some a, some b⟩
theorem rg_has {a b n : Int} (h : a ≤ n ∧ n ≤ b) : (rg a b).has n := ⟨fun x hx => by simp [rg] at hx; omega, fun x hx => by simp [rg] at hx; omega⟩
def br1 [Ext] (n : Nat) : Rg :=
  bif Nat.blt 1000 n then rg 0 ((n : Int) - 1001) else bif Nat.blt 100 n then Ext.g1 n else
  match n with
  | 1 => rg 0 3 | 2 => rg 0 2305843009213693951 | 3 => rg 0 3 | 4 => rg 0 3 | 5 => rg 0 7 | 6 => rg 0 1 | 7 => rg 0 1 | 8 => rg 0 7 | 9 => rg 0 4095 | 10 => rg 0 4095 | 11 => rg 0 1099511627775 | 12 => rg 0 16777215
  | 13 => .top | 14 => ⟨some 0, none⟩ | 15 => ⟨some 0, none⟩ | 16 => ⟨some 0, none⟩ | 31 => rg (-9223372036854775808) 9223372036854775807 | 32 => ⟨some 0, none⟩
  | n => Ext.g1 n
def br2 [Ext] (n : Nat) : Rg :=
  match n with
  | 1 => rg 0 18446744073709551615 | 2 => .top | 3 => rg 0 18446744073709551615 | 20 => rg 0 18446744073709551615 | 21 => .top | 22 => .top | 23 => .top | 24 => .top | 26 => .top | 27 => .top | 28 => .top | 30 => rg (-9223372036854775808) 9223372036854775807
  | n => Ext.g2 n
theorem b1_rg [Ext] (n : Nat) (u : UM) : (br1 n).has (b1 n u).int := by
  unfold br1
  rw [blt_iff, Bool.cond_eq_ite]
  by_cases h : 1000 < n
  · rw [if_pos (by simpa using h)]
    unfold b1
    rw [if_neg (by omega), if_neg (by omega), if_neg (by omega), if_neg (by omega), if_neg (by omega), if_neg (by omega), if_neg (by omega), if_neg (by omega), if_neg (by omega), if_neg (by omega), if_neg (by omega), if_neg (by omega), if_neg (by omega), if_neg (by omega), if_neg (by omega), if_neg (by omega), if_neg (by omega), if_neg (by omega), if_pos h]
    refine rg_has ?_
    have h1 := kindOf_lo u.int ((n - 1000 : Nat) : Int) (by omega)
    have h2 := kindOf_hi u.int ((n - 1000 : Nat) : Int) (by omega)
    simp only [U.int] at h1 h2 ⊢
    omega
  · rw [if_neg (by simpa using h)]
    rw [blt_iff, Bool.cond_eq_ite]
    by_cases h' : 100 < n
    · rw [if_pos (by simpa using h')]
      unfold b1
      rw [if_neg (by omega), if_neg (by omega), if_neg (by omega), if_neg (by omega), if_neg (by omega), if_neg (by omega), if_neg (by omega), if_neg (by omega), if_neg (by omega), if_neg (by omega), if_neg (by omega), if_neg (by omega), if_neg (by omega), if_neg (by omega), if_neg (by omega), if_neg (by omega), if_neg (by omega), if_neg (by omega), if_neg h]
      exact Ext.g1_ok _ _
    rw [if_neg (by simpa using h')]
    have f := HV.of_fits u.int
    obtain ⟨f1, f2, f3, f4, f5, f6, f7⟩ := f
    split
    · refine rg_has ?_; show 0 ≤ vK _ ∧ vK _ ≤ 3; unfold vK; omega
    · refine rg_has ?_; show 0 ≤ vN (cl64 _) ∧ vN (cl64 _) ≤ _; unfold vN cl64; omega
    · refine rg_has ?_; show 0 ≤ (HV.of u.int).st ∧ (HV.of u.int).st ≤ 3; omega
    · refine rg_has ?_; show 0 ≤ (HV.of u.int).cl ∧ (HV.of u.int).cl ≤ 3; omega
    · refine rg_has ?_; show 0 ≤ (HV.of u.int).ct ∧ (HV.of u.int).ct ≤ 7; omega
    · refine rg_has ?_; show 0 ≤ (HV.of u.int).mr ∧ (HV.of u.int).mr ≤ 1; omega
    · refine rg_has ?_; show 0 ≤ (HV.of u.int).gr ∧ (HV.of u.int).gr ≤ 1; omega
    · refine rg_has ?_; show 0 ≤ (HV.of u.int).tg ∧ (HV.of u.int).tg ≤ 7; omega
    · refine rg_has ?_; show 0 ≤ (HV.of u.int).lk ∧ (HV.of u.int).lk ≤ 4095; omega
    · refine rg_has ?_; show 0 ≤ topAt _ ∧ topAt _ ≤ 4095; unfold topAt; omega
    · refine rg_has ?_; show 0 ≤ topVer _ ∧ topVer _ ≤ _; unfold topVer; omega
    · refine rg_has ?_; show 0 ≤ (hvOf u).w ∧ (hvOf u).w ≤ _; have a := HV.w_lo (hvOf u); have b := HV.w_hi (hvOf u); omega
    · exact Rg.top_has _
    · exact ⟨fun a ha => by simp at ha; subst ha; show (0 : Int) ≤ (((memOf u).ws.length : Nat) : Int); omega, fun a ha => by cases ha⟩
    · exact ⟨fun a ha => by simp at ha; subst ha; show (0 : Int) ≤ (((memOf u).tr : Nat) : Int); omega, fun a ha => by cases ha⟩
    · exact ⟨fun a ha => by simp at ha; subst ha; show (0 : Int) ≤ (((memOf u).cnt : Nat) : Int); omega, fun a ha => by cases ha⟩
    · refine rg_has ?_; show -9223372036854775808 ≤ ci64 _ ∧ ci64 _ ≤ _; unfold ci64; omega
    · refine ⟨fun a ha => ?_, fun a ha => by cases ha⟩
      simp at ha; subst ha
      show (0 : Int) ≤ (if u.int < 0 then 0 else u.int)
      split <;> omega
    · rename_i n h1 h2 h3 h4 h5 h6 h7 h8 h9 h10 h11 h12 h13 h14 h15 h16 h31 h32
      unfold b1
      simp only [if_neg h31, if_neg h32, if_neg h1, if_neg h2, if_neg h3, if_neg h4, if_neg h5, if_neg h6, if_neg h7, if_neg h8, if_neg h9, if_neg h10, if_neg h11, if_neg h12, if_neg h13, if_neg h14, if_neg h15, if_neg h16, if_neg h]
      exact Ext.g1_ok _ _
theorem b2_rg [Ext] (n : Nat) (u v : UM) : (br2 n).has (b2 n u v).int := by
  unfold br2
  split
  · refine rg_has ?_; show 0 ≤ sW _ _ ∧ sW _ _ ≤ _; have a := sW_lo u.int v.int; have b := sW_hi u.int v.int; omega
  · exact Rg.top_has _
  · refine rg_has ?_; show 0 ≤ topNext _ _ ∧ topNext _ _ ≤ _; have a := topNext_rng u.int v.int; omega
  · refine rg_has ?_; show 0 ≤ cl64 _ ∧ cl64 _ ≤ _; unfold cl64; omega
  · exact Rg.top_has _
  · exact Rg.top_has _
  · exact Rg.top_has _
  · exact Rg.top_has _
  · exact Rg.top_has _
  · exact Rg.top_has _
  · exact Rg.top_has _
  · refine rg_has ?_; show _ ≤ ci64 _ ∧ ci64 _ ≤ _; unfold ci64; omega
  · rename_i n h1 h2 h3 h4 h5 h6 h7 h8 h9 h10 h11 h12
    unfold b2
    simp only [if_neg h1, if_neg h2, if_neg h3, if_neg h4, if_neg h5, if_neg h6, if_neg h7, if_neg h8, if_neg h9, if_neg h10, if_neg h11, if_neg h12]
    exact Ext.g2_ok _ _ _
/-! ### terms of these symbols, folded -/
abbrev i1 (n : Nat) (x : Tm) : Tm := .a1 (.usr n) x
abbrev i2 (n : Nat) (x y : Tm) : Tm := .a2 (.usr n) x y
/-- Symbols that have a definition by others. -/
class Exp [Ext] where
  ex : Tm → Option Tm
  ex_ok : ∀ [Vars] x y, ex x = some y → y.den = x.den
@[reducible] def exp0 [Ext] : Exp := ⟨fun _ => none, fun _ _ h => by cases h⟩
def mkFst : Tm → Tm
  | .a2 .pair x _ => x
  | t => .a1 .fst t
def mkSnd : Tm → Tm
  | .a2 .pair _ y => y
  | t => .a1 .snd t
/-- A function of one number: of a known one at once. -/
def m1 (n : Nat) (f : Int → Int) : Tm → Tm
  | .lit a => .lit (f a)
  | x => i1 n x
def m2 (n : Nat) (f : Int → Int → Int) (x y : Tm) : Tm :=
  match x, y with
  | .lit a, .lit b => .lit (f a b)
  | x, y => i2 n x y
def mlen : Tm → Option Int
  | .a1 (.usr 13) (.lit n) => some n
  | .a2 (.usr 21) M _ => mlen M
  | .a2 (.usr 22) M _ => mlen M
  | .a2 (.usr 24) M _ => mlen M
  | .a2 (.usr 26) M _ => mlen M
  | .a2 (.usr 27) _ (.lit n) => some n
  | .a2 (.usr 28) M _ => mlen M
  | _ => none
def inLen (M : Tm) (a : Int) : Bool :=
  match mlen M with
  | some n => intLe 0 a && intLe (a + 1) n
  | none => false
/-- How many traps a memory has had. -/
def trT : Tm → Option Int
  | .a1 (.usr 13) _ => some 0
  | .a2 (.usr 21) M (.lit a) => bif inLen M a then trT M else none
  | .a2 (.usr 22) M (.a2 .pair (.lit a) _) => bif inLen M a then trT M else none
  | .a2 (.usr 26) M _ => trT M
  | .a2 (.usr 27) M _ => trT M
  | .a2 (.usr 28) _ (.lit n) => bif intLe 0 n then some n else none
  | _ => none
/-- A known function of known numbers. -/
def bk1 (n : Nat) (x : Tm) : Tm :=
  match x with
  | .lit a =>
    bif Nat.blt 1000 n then .lit (kindOf a (n - 1000 : Nat)) else
    match n with
    | 1 => .lit (vK a) | 2 => .lit (vN (cl64 a)) | 3 => .lit (HV.of a).st | 4 => .lit (HV.of a).cl | 5 => .lit (HV.of a).ct | 6 => .lit (HV.of a).mr | 7 => .lit (HV.of a).gr | 8 => .lit (HV.of a).tg | 9 => .lit (HV.of a).lk
    | 10 => .lit (topAt a) | 11 => .lit (topVer a)
    | n => i1 n (.lit a)
  | .a2 .pair (.lit a) (.a2 .pair (.lit b) (.a2 .pair (.lit c) (.a2 .pair (.lit d) (.a2 .pair (.lit e) (.a2 .pair (.lit f) (.lit g)))))) =>
    match n with
    | 12 => .lit (HV.mk a b c d e f g).w
    | n => i1 n x
  | x => i1 n x
def isLit64 : Tm → Bool
  | .lit a => intLe 0 a && intLe a 18446744073709551615
  | .a2 (.usr 1) _ _ => true
  | .a2 (.usr 3) _ _ => true
  | .a2 (.usr 20) _ _ => true
  | .a1 (.usr 12) _ => true
  | _ => false
def loadX (a : Tm) : Tm → Tm
  | .a2 (.usr 21) M _ => loadX a M
  | .a2 (.usr 22) M (.a2 .pair (.lit b) x) =>
    match a with
    | .lit c => bif intBeq b c then (bif inLen M c && isLit64 x then x else i2 20 (i2 22 M (.a2 .pair (.lit b) x)) a) else loadX a M
    | a => i2 20 (i2 22 M (.a2 .pair (.lit b) x)) a
  | .a2 (.usr 26) M (.a2 .pair (.lit b) x) =>
    match a with
    | .lit c => bif intBeq b c then (bif inLen M c && isLit64 x then x else i2 20 (i2 26 M (.a2 .pair (.lit b) x)) a) else loadX a M
    | a => i2 20 (i2 26 M (.a2 .pair (.lit b) x)) a
  | .a1 (.usr 13) n => .lit 0
  | M => i2 20 M a
/-- Surely a memory. -/
def isM : Tm → Bool
  | .a1 (.usr 13) _ => true
  | .a2 (.usr 21) _ _ => true
  | .a2 (.usr 22) _ _ => true
  | .a2 (.usr 24) _ _ => true
  | .a2 (.usr 26) _ _ => true
  | .a2 (.usr 27) _ _ => true
  | .a2 (.usr 28) _ _ => true
  | _ => false
def bk2 (n : Nat) (x y : Tm) : Tm :=
  match n with
  | 1 => m2 1 sW x y
  | 2 => m2 2 hMoved x y
  | 3 => m2 3 topNext x y
  | 20 => loadX y x
  | 26 => match y with
    | .a2 .pair (.lit a) v => bif isM x && isLit64 v && Tm.beq v (loadX (.lit a) x) then x else i2 26 x (.a2 .pair (.lit a) v)
    | y => i2 26 x y
  | 27 => match y with
    | .lit n => match mlen x with
      | some m => bif intBeq m n && (intLe 0 n && isM x) then x else i2 27 x y
      | none => i2 27 x y
    | y => i2 27 x y
  | 28 => match y with
    | .lit n => match trT x with
      | some m => bif intBeq m n && isM x then x else i2 28 x y
      | none => i2 28 x y
    | y => i2 28 x y
  | n => i2 n x y
section
variable [Ext]
variable [Vars]
theorem fst_den (x : Tm) : (mkFst x).den = x.den.fst := by unfold mkFst; split <;> rfl
theorem snd_den (x : Tm) : (mkSnd x).den = x.den.snd := by unfold mkSnd; split <;> rfl
theorem snd_v (x : Tm) : (mkSnd x).v = x.den.snd.int := by unfold Tm.v; rw [snd_den]
theorem m1_v {n : Nat} {f : Int → Int} (h : ∀ x : UM, (b1 n x).int = f x.int) (x : Tm) : (m1 n f x).v = f x.v := by
  unfold m1; split
  · rfl
  · exact h _
theorem m2_v {n : Nat} {f : Int → Int → Int} (h : ∀ x y : UM, (b2 n x y).int = f x.int y.int) (x y : Tm) : (m2 n f x y).v = f x.v y.v := by
  unfold m2; split
  · rfl
  · exact h _ _
theorem load_v (M a : Tm) : (i2 20 M a).v = cl64 ((memOf M.den).load a.v) := rfl
theorem put_len (M : MS) (a x : Int) : (M.put a x).ws.length = M.ws.length := by
  unfold MS.put; split <;> simp
theorem poke_len (M : MS) (a x : Int) : (M.poke a x).ws.length = M.ws.length := by
  unfold MS.poke; split
  · rfl
  · exact put_len _ _ _
theorem poke_same {M : MS} {a x : Int} (h : M.load a % 18446744073709551616 = x) : M.poke a x = M := by unfold MS.poke; rw [if_pos h]
theorem sized_same {M : MS} {n : Nat} (h : M.ws.length = n) : M.sized n = M := by
  unfold MS.sized; subst h; simp
theorem mlen_ok : ∀ {M : Tm} {n : Int}, mlen M = some n → 0 ≤ n → ((memOf M.den).ws.length : Int) = n
  | .lit _, _, h, _ => by cases h
  | .bl _, _, h, _ => by cases h
  | .var _, _, h, _ => by cases h
  | .a1 f x, n, h, h0 => by
    unfold mlen at h
    split at h
    · rename_i k e
      cases e
      simp only [Option.some.injEq] at h
      subst h
      show (((MS.new k.toNat).ws.length : Nat) : Int) = k
      simp [MS.new, zeros]
      omega
    · rename_i e; cases e
    · rename_i e; cases e
    · rename_i e; cases e
    · rename_i e; cases e
    · rename_i e; cases e
    · rename_i e; cases e
    · cases h
  | .a2 f x y, n, h, h0 => by
    unfold mlen at h
    split at h
    · rename_i e; cases e
    · rename_i M a e
      cases e
      exact mlen_ok (M := x) h h0
    · rename_i M a e
      cases e
      have := mlen_ok (M := x) h h0
      rw [← this]
      show (((memOf x.den).store y.den.fst.int y.den.snd.int).ws.length : Int) = _
      unfold MS.store MS.put MS.acc
      split <;> simp
    · rename_i M a e
      cases e
      have := mlen_ok (M := x) h h0
      rw [← this]
      show (((memOf x.den).cas y.den.fst.int y.den.snd.fst.int y.den.snd.snd.int).ws.length : Int) = _
      unfold MS.cas MS.acc
      split <;> simp
    · rename_i M a e
      cases e
      have := mlen_ok (M := x) h h0
      rw [← this]
      show (((memOf x.den).poke y.den.fst.int y.den.snd.int).ws.length : Int) = _
      rw [poke_len]
    · rename_i M k e
      cases e
      simp only [Option.some.injEq] at h
      subst h
      show ((((memOf x.den).sized k.toNat).ws.length : Nat) : Int) = k
      simp [MS.sized, zeros]
      omega
    · rename_i M k e
      cases e
      exact mlen_ok (M := x) h h0
    · cases h
theorem load_loaded (M : MS) (a b : Int) : (M.loaded b).load a = M.load a := rfl
theorem load_store_ne (M : MS) {a b : Int} (x : Int) (h : a ≠ b) : (M.store b x).load a = M.load a := by
  have e : ((M.store b x).ws.length) = M.ws.length := by unfold MS.store MS.put MS.acc; split <;> simp
  unfold MS.load MS.there
  rw [e]
  split
  · rename_i h1
    simp at h1
    unfold MS.store MS.put MS.acc MS.get
    split
    · rename_i h2
      simp [MS.there] at h2
      simp only [List.getD_eq_getElem?_getD]
      rw [List.getElem?_set_ne (by omega)]
    · rfl
  · rfl
theorem load_store_eq (M : MS) {a : Int} (x : Int) (h0 : 0 ≤ a) (h1 : a < M.ws.length) : (M.store a x).load a = x := by
  have e : ((M.store a x).ws.length) = M.ws.length := by unfold MS.store MS.put MS.acc; split <;> simp
  have ht : M.there a = true := by simp [MS.there]; omega
  unfold MS.load MS.there
  rw [e, if_pos (by simp; omega)]
  unfold MS.store MS.put MS.acc MS.get
  rw [if_pos ht]
  simp only [List.getD_eq_getElem?_getD]
  rw [List.getElem?_set_self (by omega)]
  rfl
theorem load_put_ne (M : MS) {a b : Int} (x : Int) (h : a ≠ b) : (M.put b x).load a = M.load a := by
  have e := put_len M b x
  unfold MS.load MS.there
  rw [e]
  split
  · rename_i h1
    simp at h1
    unfold MS.put MS.get
    split
    · rename_i h2
      simp [MS.there] at h2
      simp only [List.getD_eq_getElem?_getD]
      rw [List.getElem?_set_ne (by omega)]
    · rfl
  · rfl
theorem load_put_eq (M : MS) {a : Int} (x : Int) (h0 : 0 ≤ a) (h1 : a < M.ws.length) : (M.put a x).load a = x := by
  have e := put_len M a x
  have ht : M.there a = true := by simp [MS.there]; omega
  unfold MS.load MS.there
  rw [e, if_pos (by simp; omega)]
  unfold MS.put MS.get
  rw [if_pos ht]
  simp only [List.getD_eq_getElem?_getD]
  rw [List.getElem?_set_self (by omega)]
  rfl
theorem load_poke_ne (M : MS) {a b : Int} (x : Int) (h : a ≠ b) : (M.poke b x).load a = M.load a := by
  unfold MS.poke; split
  · rfl
  · exact load_put_ne M x h
theorem load_poke_eq (M : MS) {a : Int} {x : Int} (hx : cl64 x = x) (h0 : 0 ≤ a) (h1 : a < M.ws.length) : cl64 ((M.poke a x).load a) = x := by
  unfold MS.poke; split
  · rename_i h; exact h
  · rw [load_put_eq _ _ h0 h1]; exact hx
theorem load_new (n : Nat) (a : Int) : (MS.new n).load a = 0 := by
  unfold MS.load MS.get
  split
  · simp only [MS.new, zeros, List.getD_eq_getElem?_getD]
    cases h : (List.replicate n (0 : Int))[a.toNat]? with
    | none => rfl
    | some v => have := List.mem_of_getElem? h; simp at this; exact this.2
  · rfl
end
section
variable [Ext] [Vars]
theorem bk1_ok (n : Nat) (x : Tm) : (bk1 n x).den = b1 n x.den := by
  unfold bk1
  split
  · rename_i a
    rw [blt_iff, Bool.cond_eq_ite]
    split
    · rename_i h
      have h : 1000 < n := by simpa using h
      obtain ⟨m, rfl⟩ : ∃ m, n = 1000 + m := ⟨n - 1000, by omega⟩
      show U.i _ = b1 (1000 + m) (.i a)
      unfold b1
      rw [if_neg (by omega), if_neg (by omega), if_neg (by omega), if_neg (by omega), if_neg (by omega), if_neg (by omega), if_neg (by omega), if_neg (by omega), if_neg (by omega), if_neg (by omega), if_neg (by omega), if_neg (by omega), if_neg (by omega), if_neg (by omega), if_neg (by omega), if_neg (by omega), if_neg (by omega), if_neg (by omega), if_pos (by omega)]
      rfl
    · split <;> rfl
  · split <;> rfl
  · rfl
theorem lit64_ok {z : Tm} (hz : isLit64 z = true) : z.den = .i (cl64 z.v) := by
  unfold isLit64 at hz
  split at hz
  · rename_i n
    rw [Bool.and_eq_true] at hz
    have h1 : 0 ≤ n := of_decide_eq_true hz.1
    have h2 : n ≤ 18446744073709551615 := of_decide_eq_true hz.2
    show U.i n = .i (cl64 n)
    rw [cl64_in ⟨h1, by omega⟩]
  · rename_i p q
    show U.i (sW p.v q.v) = .i (cl64 (sW p.v q.v))
    rw [cl64_in ⟨sW_lo _ _, sW_hi _ _⟩]
  · rename_i p q
    show U.i (topNext p.v q.v) = .i (cl64 (topNext p.v q.v))
    rw [cl64_in (topNext_rng _ _)]
  · rename_i p q
    show U.i (cl64 ((memOf p.den).load q.v)) = .i (cl64 (cl64 ((memOf p.den).load q.v)))
    rw [cl64_in (x := cl64 _) (by unfold cl64; omega)]
  · rename_i p
    show U.i ((hvOf p.den).w) = .i (cl64 ((hvOf p.den).w))
    rw [cl64_in ⟨HV.w_lo _, by have := HV.w_hi (hvOf p.den); omega⟩]
  · cases hz
theorem inLen_ok {M : Tm} {a : Int} (h : inLen M a = true) : 0 ≤ a ∧ a < ((memOf M.den).ws.length : Int) := by
  unfold inLen at h
  split at h
  · rename_i n hn
    rw [Bool.and_eq_true] at h
    have g0 : 0 ≤ a := of_decide_eq_true h.1
    have g1 : a + 1 ≤ n := of_decide_eq_true h.2
    have hl := mlen_ok hn (by omega)
    omega
  · cases h
theorem loadX_ok (a : Tm) : ∀ M : Tm, (loadX a M).den = .i (cl64 ((memOf M.den).load a.v))
  | .lit _ => rfl
  | .bl _ => rfl
  | .var _ => rfl
  | .a1 f x => by
    unfold loadX
    split
    · rename_i e; cases e
    · rename_i e; cases e
    · rename_i e; cases e
    · rename_i k e
      cases e
      show U.i (0 : Int) = .i (cl64 ((MS.new _).load a.v))
      rw [load_new]; rfl
    · rfl
  | .a2 f x y => by
    unfold loadX
    split
    · rename_i M b e
      cases e
      exact loadX_ok a x
    · rename_i M b z e
      cases e
      split
      · rename_i c
        rw [Bool.cond_eq_ite]
        split
        · rename_i hb
          have hb := intBeq_eq hb
          subst hb
          rw [Bool.cond_eq_ite]
          split
          · rename_i hc
            rw [Bool.and_eq_true] at hc
            obtain ⟨g0, g1⟩ := inLen_ok hc.1
            show z.den = .i (cl64 (((memOf x.den).store b z.v).load b))
            rw [load_store_eq _ _ g0 g1, lit64_ok hc.2]
          · rfl
        · rename_i hb
          have hne : c ≠ b := fun e => hb (by subst e; cases c <;> simp [intBeq])
          show (loadX (.lit c) x).den = .i (cl64 (((memOf x.den).store b z.v).load c))
          rw [load_store_ne _ _ hne]
          exact loadX_ok (.lit c) x
      · rfl
    · rename_i M b z e
      cases e
      split
      · rename_i c
        rw [Bool.cond_eq_ite]
        split
        · rename_i hb
          have hb := intBeq_eq hb
          subst hb
          rw [Bool.cond_eq_ite]
          split
          · rename_i hc
            rw [Bool.and_eq_true] at hc
            obtain ⟨g0, g1⟩ := inLen_ok hc.1
            show z.den = .i (cl64 (((memOf x.den).poke b z.v).load b))
            have hz := lit64_ok hc.2
            have hv : cl64 z.v = z.v := by
              have := congrArg U.int hz
              exact this.symm
            rw [load_poke_eq _ hv g0 g1, hz]
            show _ = U.i z.v
            rw [hv]
          · rfl
        · rename_i hb
          have hne : c ≠ b := fun e => hb (by subst e; cases c <;> simp [intBeq])
          show (loadX (.lit c) x).den = .i (cl64 (((memOf x.den).poke b z.v).load c))
          rw [load_poke_ne _ _ hne]
          exact loadX_ok (.lit c) x
      · rfl
    · rename_i e; cases e
    · rfl
theorem isM_ok {M : Tm} (h : isM M = true) : M.den = .o (.mem (memOf M.den)) := by
  unfold isM at h
  split at h
  · rfl
  · rfl
  · rfl
  · rfl
  · rfl
  · rfl
  · rfl
  · cases h
theorem trT_ok : ∀ {M : Tm} {n : Int}, trT M = some n → ((memOf M.den).tr : Int) = n
  | .lit _, _, h => by cases h
  | .bl _, _, h => by cases h
  | .var _, _, h => by cases h
  | .a1 f x, n, h => by
    unfold trT at h
    split at h
    · rename_i k e
      cases e
      cases h
      rfl
    · rename_i e; cases e
    · rename_i e; cases e
    · rename_i e; cases e
    · rename_i e; cases e
    · rename_i e; cases e
    · cases h
  | .a2 f x y, n, h => by
    unfold trT at h
    split at h
    · rename_i e; cases e
    · rename_i M a e
      cases e
      rw [Bool.cond_eq_ite] at h
      split at h
      · rename_i hl
        obtain ⟨g0, g1⟩ := inLen_ok hl
        rw [← trT_ok h]
        show ((((memOf x.den).loaded a).tr : Nat) : Int) = _
        unfold MS.loaded MS.acc
        rw [if_pos (by unfold MS.there; simp [g0, g1])]
      · cases h
    · rename_i M a v e
      cases e
      rw [Bool.cond_eq_ite] at h
      split at h
      · rename_i hl
        obtain ⟨g0, g1⟩ := inLen_ok hl
        rw [← trT_ok h]
        show ((((memOf x.den).store a v.v).tr : Nat) : Int) = _
        unfold MS.store MS.acc MS.put
        rw [if_pos (by unfold MS.there; simp [g0, g1]), if_pos (by unfold MS.there; simp [g0, g1])]
      · cases h
    · rename_i M a e
      cases e
      rw [← trT_ok h]
      show ((((memOf x.den).poke y.den.fst.int y.den.snd.int).tr : Nat) : Int) = _
      unfold MS.poke MS.put
      split
      · rfl
      · split <;> rfl
    · rename_i M a e
      cases e
      rw [← trT_ok h]
      rfl
    · rename_i M k e
      cases e
      rw [Bool.cond_eq_ite] at h
      split at h
      · rename_i hk
        cases h
        have hk : 0 ≤ n := of_decide_eq_true hk
        show ((n.toNat : Nat) : Int) = n
        omega
      · cases h
    · cases h
theorem bk2_ok (n : Nat) (x y : Tm) : (bk2 n x y).den = b2 n x.den y.den := by
  unfold bk2
  split
  · unfold m2; split <;> rfl
  · unfold m2; split <;> rfl
  · unfold m2; split <;> rfl
  · rw [loadX_ok]; rfl
  · split
    · rename_i a v
      rw [Bool.cond_eq_ite]
      split
      · rename_i hc
        simp only [Bool.and_eq_true] at hc
        obtain ⟨⟨hM, hv⟩, he⟩ := hc
        have hz := Tm.beq_eq he
        have h1 := loadX_ok (.lit a) x
        rw [← hz] at h1
        show x.den = .o (.mem ((memOf x.den).poke a v.v))
        have h2 : v.v = cl64 ((memOf x.den).load a) := congrArg U.int h1
        rw [poke_same (by rw [h2]; rfl)]
        exact isM_ok hM
      · rfl
    · rfl
  · split
    · rename_i n
      split
      · rename_i m hm
        rw [Bool.cond_eq_ite]
        split
        · rename_i hc
          simp only [Bool.and_eq_true] at hc
          obtain ⟨h1, h2, h3⟩ := hc
          have h1 := intBeq_eq h1
          have h2 : 0 ≤ n := of_decide_eq_true h2
          have hl := mlen_ok hm (by omega)
          show x.den = .o (.mem ((memOf x.den).sized n.toNat))
          rw [sized_same (by omega)]
          exact isM_ok h3
        · rfl
      · rfl
    · rfl
  · split
    · rename_i n
      split
      · rename_i m hm
        rw [Bool.cond_eq_ite]
        split
        · rename_i hc
          rw [Bool.and_eq_true] at hc
          have h1 := intBeq_eq hc.1
          have h2 := trT_ok hm
          subst h1
          show x.den = .o (.mem { memOf x.den with tr := m.toNat })
          have e : ({ memOf x.den with tr := m.toNat } : MS) = memOf x.den := by
            rw [← h2, Int.toNat_natCast]
          rw [e]
          exact isM_ok hc.2
        · rfl
      · rfl
    · rfl
  · rfl
end
instance [Ext] [Exp] : Rules := ⟨br1, br2, b1_rg, b2_rg, bk1, bk2, bk1_ok, bk2_ok, Exp.ex, Exp.ex_ok⟩
section
variable [Ext] [Exp]
def mkLoad (π : Pi) (a : Tm) : Tm → Tm
  | .a2 (.usr 21) M _ => mkLoad π a M
  | .a2 (.usr 22) M (.a2 .pair (.lit b) x) =>
    match a with
    | .lit c => bif intBeq b c then (bif inLen M c && (selRg π x).inside 0 18446744073709551615 then x else i2 20 (i2 22 M (.a2 .pair (.lit b) x)) a) else mkLoad π a M
    | a => i2 20 (i2 22 M (.a2 .pair (.lit b) x)) a
  | .a2 (.usr 26) M (.a2 .pair (.lit b) x) =>
    match a with
    | .lit c => bif intBeq b c then (bif inLen M c && (selRg π x).inside 0 18446744073709551615 then x else i2 20 (i2 26 M (.a2 .pair (.lit b) x)) a) else mkLoad π a M
    | a => i2 20 (i2 26 M (.a2 .pair (.lit b) x)) a
  | .a1 (.usr 13) n => .lit 0
  | M => i2 20 M a
variable [Vars]
theorem mkLoad_v {π : Pi} (hπ : facts π) (a : Tm) : ∀ M : Tm, (mkLoad π a M).v = cl64 ((memOf M.den).load a.v)
  | .lit _ => rfl
  | .bl _ => rfl
  | .var _ => rfl
  | .a1 f x => by
    unfold mkLoad
    split
    · rename_i e; cases e
    · rename_i e; cases e
    · rename_i e; cases e
    · rename_i k e
      cases e
      show (0 : Int) = cl64 ((MS.new _).load a.v)
      rw [load_new]; rfl
    · rfl
  | .a2 f x y => by
    unfold mkLoad
    split
    · rename_i M b e
      cases e
      exact mkLoad_v hπ a x
    · rename_i M b z e
      cases e
      split
      · rename_i c
        rw [Bool.cond_eq_ite]
        split
        · rename_i hb
          have hb := intBeq_eq hb
          subst hb
          rw [Bool.cond_eq_ite]
          split
          · rename_i hc
            rw [Bool.and_eq_true] at hc
            have hr := Rg.inside_ok (selRg_ok hπ z) hc.2
            obtain ⟨g0, g1⟩ := inLen_ok hc.1
            show z.v = cl64 (((memOf x.den).store b z.v).load b)
            rw [load_store_eq _ _ g0 g1]
            unfold cl64; omega
          · rfl
        · rename_i hb
          have hne : c ≠ b := fun e => hb (by subst e; cases c <;> simp [intBeq])
          show (mkLoad π (.lit c) x).v = cl64 (((memOf x.den).store b z.v).load c)
          rw [load_store_ne _ _ hne]
          exact mkLoad_v hπ (.lit c) x
      · rfl
    · rename_i M b z e
      cases e
      split
      · rename_i c
        rw [Bool.cond_eq_ite]
        split
        · rename_i hb
          have hb := intBeq_eq hb
          subst hb
          rw [Bool.cond_eq_ite]
          split
          · rename_i hc
            rw [Bool.and_eq_true] at hc
            have hr := Rg.inside_ok (selRg_ok hπ z) hc.2
            obtain ⟨g0, g1⟩ := inLen_ok hc.1
            show z.v = cl64 (((memOf x.den).poke b z.v).load b)
            rw [load_poke_eq _ (cl64_in (by omega)) g0 g1]
          · rfl
        · rename_i hb
          have hne : c ≠ b := fun e => hb (by subst e; cases c <;> simp [intBeq])
          show (mkLoad π (.lit c) x).v = cl64 (((memOf x.den).poke b z.v).load c)
          rw [load_poke_ne _ _ hne]
          exact mkLoad_v hπ (.lit c) x
      · rfl
    · rename_i e; cases e
    · rfl
end
/-! ### contracts -/
section
variable [Ext] [Exp] [Vars]
abbrev CtrAt := List SV → St → Option Rt
def CAtOk (P : Program) (f : Nat) (c : CtrAt) : Prop :=
  ∀ args s t, c args s = some t → ∀ (L : Bl → SV × St → Prop) β, t.Leads L β → (∀ x ∈ args, x.wf s.n) → (∀ x ∈ args, x.isTop = false) → ∀ (w : World) (R : HProp), At β s w R → ∀ Q : Ending → World → Prop,
    (∀ β' v s' w', L β' (v, s') → v.wf s'.n → v.isTop = false → Out β s w R β' s' w' → Q (.returned (v.den β')) w') → Calls P f (args.map (SV.den β)).toArray w Q
end
def ctrNone : Ctr := fun _ _ _ => none
def ctrCons (f : Nat) (c : CtrAt) (r : Ctr) : Ctr := fun g args s => bif Nat.beq g f then c args s else r g args s
section
variable [Ext] [Exp] [Vars]
theorem ctrNone_ok (P : Program) : CtrOk P ctrNone := fun _ _ _ _ h => by cases h
theorem ctrCons_ok {P : Program} {f : Nat} {c : CtrAt} {r : Ctr} (hc : CAtOk P f c) (hr : CtrOk P r) : CtrOk P (ctrCons f c r) := by
  intro g args s t h
  unfold ctrCons at h
  cases hg : Nat.beq g f with
  | true =>
    rw [hg] at h
    rw [Nat.eq_of_beq_eq_true hg]
    exact hc args s t h
  | false =>
    rw [hg] at h
    exact hr g args s t h
/-- A function that only computes. -/
theorem at_pure {P : Program} {f : Nat} {β : Bl} {s : St} {w : World} {R : HProp} (hw : At β s w R) {args : Array Value} {V : Value} (hc : Calls P f args w (Ret w V)) {Q : Ending → World → Prop}
    (hk : ∀ w', Out β s w R β s w' → Q (.returned V) w') : Calls P f args w Q :=
  hc.mono fun e w' ⟨he, hb⟩ => by subst he; exact hk w' ⟨Ag.refl _ _, Nat.le_refl _, ⟨hw.pi, hw.wf, hw.hold.kept hb⟩, Strm.below hb⟩
/-- A function that turns one object. -/
theorem at_obj {P : Program} {f : Nat} {β : Bl} {s : St} {w : World} {R : HProp} (hw : At β s w R) {nm : Nat} {o o1 : SO} (hf : find s.H nm = some o) (ho : o1.wf s.n) {args : Array Value} {V : Value}
    (hc : ∀ R' : HProp, Holds w (o.den β (β nm) * R') → Calls P f args w fun e w' => e = .returned V ∧ Holds w' (o1.den β (β nm) * R') ∧ Strm w w') {Q : Ending → World → Prop}
    (hk : ∀ w', Out β s w R β ⟨s.pi, put s.H nm o1, s.n⟩ w' → Q (.returned V) w') : Calls P f args w Q :=
  (hc _ (focus hf hw.hold)).mono fun e w' ⟨he, h1, h2⟩ => by subst he; exact hk w' ⟨Ag.refl _ _, Nat.le_refl _, ⟨hw.pi, put_wf hw.wf ho, unfocus hf h1⟩, h2⟩
def isU64 (x : Tm) : List Tm := [mkNot (mkLt x (.lit 0)), mkLt x (.lit 18446744073709551616)]
theorem isU64_ok {x : Tm} (h : ∀ p ∈ isU64 x, p.tv = true) : 0 ≤ x.v ∧ x.v < 18446744073709551616 := by
  have h1 := h _ (List.mem_cons_self ..)
  have h2 := h _ (List.mem_cons_of_mem _ (List.mem_singleton.2 rfl))
  rw [mkNot_tv, mkLt_tv, lit_v] at h1
  rw [mkLt_tv, lit_v] at h2
  simp at h1 h2
  omega
end
def aggI (l : List Tm) : SV := .a (.agg (l.map fun x => .int .i64 x))
theorem aggI_wf (l : List Tm) (n : Nat) : (aggI l).wf n := by
  intro c hc
  obtain ⟨x, _, rfl⟩ := List.mem_map.1 hc
  trivial
section
variable [Ext] [Exp]
/-- One word in, numbers out. -/
def cU1 (f : Pi → Tm → SV) : CtrAt := fun args s =>
  match args with
  | [.a (.one (.int .u64 x))] => some (needs s.pi (isU64 x) (frcV (f s.pi x) fun v => .done (v, s)))
  | _ => none
/-- Not parted by a truth. -/
def noSel : Tm → Bool
  | .a2 .sel _ _ => false
  | _ => true
def vkT (π : Pi) (x : Tm) : Tm :=
  match x with
  | .a2 (.usr 1) k n => bif noSel k && (selRg π k).inside 0 3 then k else i1 1 (i2 1 k n)
  | x => m1 1 vK x
def vnT (π : Pi) (x : Tm) : Tm :=
  match x with
  | .a2 (.usr 1) k n => bif noSel n && (selRg π n).inside 0 2305843009213693951 then n else i1 2 (i2 1 k n)
  | x => m1 2 (fun w => vN (cl64 w)) x
def valA (π : Pi) (x : Tm) : SV := aggI [vkT π x, vnT π x]
def hdL (x : Tm) : List Tm := [m1 3 (fun w => (HV.of w).st) x, m1 4 (fun w => (HV.of w).cl) x, m1 5 (fun w => (HV.of w).ct) x, m1 6 (fun w => (HV.of w).mr) x, m1 7 (fun w => (HV.of w).gr) x, m1 8 (fun w => (HV.of w).tg) x, m1 9 (fun w => (HV.of w).lk) x]
def hdT (π : Pi) (x : Tm) : List Tm :=
  match x with
  | .a1 (.usr 12) (.a2 .pair a (.a2 .pair b (.a2 .pair c (.a2 .pair d (.a2 .pair e (.a2 .pair f g)))))) =>
    bif (selRg π a).inside 0 3 && ((selRg π b).inside 0 3 && ((selRg π c).inside 0 7 && ((selRg π d).inside 0 1 && ((selRg π e).inside 0 1 && ((selRg π f).inside 0 7 && (selRg π g).inside 0 4095))))) then [a, b, c, d, e, f, g]
    else hdL (i1 12 (.a2 .pair a (.a2 .pair b (.a2 .pair c (.a2 .pair d (.a2 .pair e (.a2 .pair f g)))))))
  | x => hdL x
def headA (π : Pi) (x : Tm) : SV := aggI (hdT π x)
def topA (π : Pi) (x : Tm) : SV := aggI [m1 10 topAt x, m1 11 topVer x]
def cW2 (n : Nat) (f : Int → Int → Int) (k : IntKind) : CtrAt := fun args s =>
  match args with
  | [.a (.one (.int .u64 x)), .a (.one (.int .i64 a))] => some (needs s.pi (isU64 x) (frcT (m2 n f x a) fun t => .done (.c (.int k t), s)))
  | _ => none
/-- Where an object is, by a known header. -/
def movT (x a : Tm) : Tm :=
  match x with
  | .lit w => bif intBeq (HV.of w).st 1 && intBeq (HV.of w).tg 2 then .lit (HV.of w).lk else a
  | x => i2 2 x a
def cMoved : CtrAt := fun args s =>
  match args with
  | [.a (.one (.int .u64 x)), .a (.one (.int .i64 a))] => some (needs s.pi (isU64 x) (frcT (movT x a) fun t => .done (.c (.int .i64 t), s)))
  | _ => none
def cWord : CtrAt := fun args s =>
  match args with
  | [.a (.agg [.int .i64 a, .int .i64 b])] => some (frcT (m2 1 sW a b) fun t => .done (.c (.int .u64 t), s))
  | _ => none
def prs (a b c d e f g : Tm) : Tm := .a2 .pair a (.a2 .pair b (.a2 .pair c (.a2 .pair d (.a2 .pair e (.a2 .pair f g)))))
def mkHead (a b c d e f g : Tm) : Tm :=
  match a, b, c, d, e, f, g with
  | .lit a, .lit b, .lit c, .lit d, .lit e, .lit f, .lit g => .lit (HV.mk a b c d e f g).w
  | a, b, c, d, e, f, g => i1 12 (prs a b c d e f g)
def cHeadWord : CtrAt := fun args s =>
  match args with
  | [.a (.agg [.int .i64 a, .int .i64 b, .int .i64 c, .int .i64 d, .int .i64 e, .int .i64 f, .int .i64 g])] => some (frcT (mkHead a b c d e f g) fun t => .done (.c (.int .u64 t), s))
  | _ => none
/-- Which of n kinds. -/
def cKind : CtrAt := fun args s =>
  match args with
  | [.a (.one (.int .i64 c)), .a (.one (.int .i64 (.lit n)))] =>
    bif intLe 1 n && intLe n 100000 then some (needs s.pi [mkNot (mkLt c (.lit (-9223372036854775808))), mkLt c (.lit 9223372036854775808)]
      (frcT (m1 (1000 + n.toNat) (fun c => kindOf c n) c) fun t => .done (.c (.int .i64 t), s))) else none
  | _ => none
/-- The same, parted into its numbers if they are few. -/
def cKindF (N : Int) : CtrAt := fun args s =>
  match args with
  | [.a (.one (.int .i64 c)), .a (.one (.int .i64 (.lit n)))] =>
    bif intLe 1 n && intLe n N && intLe n 100000 then some (needs s.pi [mkNot (mkLt c (.lit (-9223372036854775808))), mkLt c (.lit 9223372036854775808)]
      (frcT (m1 (1000 + n.toNat) (fun c => kindOf c n) c) fun t => forkI t (fun π j => .done (.c (.int .i64 (.lit (j : Int))), ⟨π, s.H, s.n⟩)) 40 0 s.pi)) else cKind args s
  | _ => none
/-- The same, but of some numbers not parted. -/
def cKindS (N : Int) (skip : Tm → Bool) : CtrAt := fun args s =>
  match args with
  | .a (.one (.int k c)) :: r => bif skip c then cKind args s else cKindF N args s
  | _ => cKind args s
def room (c : Tm) : List Tm := [mkLt c (.lit 1099511627775)]
def cLoad (k : Nat) : CtrAt := fun args s =>
  match args with
  | [.a (.one (.ptr nm 0)), .a (.one (.int .i64 a))] =>
    match s with
    | ⟨π, H, n⟩ =>
      match find H nm with
      | some (.abs j x ns) => bif Nat.beq j k then
          frcT (mkFst x) fun M => frcT (mkSnd x) fun c => frcT (mkLoad π a M) fun t => frcT (mkAdd c (.lit 1)) fun c1 =>
            frcH (put H nm (.abs k (.a2 .pair (i2 21 M a) c1) [])) fun H => some (needs π (room c) (.done (.c (.int .u64 t), ⟨π, H, n⟩))) else none
      | _ => none
  | _ => none
def cStore (k : Nat) : CtrAt := fun args s =>
  match args with
  | [.a (.one (.ptr nm 0)), .a (.one (.int .i64 a)), .a (.one (.int .u64 v))] =>
    match s with
    | ⟨π, H, n⟩ =>
      match find H nm with
      | some (.abs j x ns) => bif Nat.beq j k then
          frcT (mkFst x) fun M => frcT (mkSnd x) fun c => frcT (mkAdd c (.lit 1)) fun c1 =>
            frcH (put H nm (.abs k (.a2 .pair (i2 22 M (.a2 .pair a v)) c1) [])) fun H => some (needs π (room c ++ isU64 v) (.done (.un, ⟨π, H, n⟩))) else none
      | _ => none
  | _ => none
/-- Whether two words are the same: if one is made of a kind and a number, these are held against the other's first. -/
def brW (x o : Tm) (π : Pi) (k : Pi → Bool → Rt) : Rt :=
  match x with
  | .a2 (.usr 1) p q => bif !(Tm.beq (i2 1 p q) o) && (noSel p && noSel q) && (selRg π p).inside 0 3 && (selRg π q).inside 0 2305843009213693951 && (selRg π o).inside 0 18446744073709551615 then
      br (mkAnd (mkEq p (vkT π o)) (mkEq q (vnT π o))) π fun π b => bif b then br (mkEq (i2 1 p q) o) π k else k π false
    else br (mkEq (i2 1 p q) o) π k
  | x => br (mkEq x o) π k
def known (M a : Tm) : Bool :=
  match a with
  | .lit a => inLen M a
  | _ => false
def cCas (k : Nat) : CtrAt := fun args s =>
  match args with
  | [.a (.one (.ptr nm 0)), .a (.one (.int .i64 a)), .a (.one (.int .u64 o)), .a (.one (.int .u64 v))] =>
    match s with
    | ⟨π, H, n⟩ =>
      match find H nm with
      | some (.abs j x ns) => bif Nat.beq j k then
          frcT (mkFst x) fun M => frcT (mkSnd x) fun c => frcT (mkAdd c (.lit 1)) fun c1 =>
            bif known M a then
              some (needs π (room c ++ isU64 v) (brW (mkLoad π a M) o π fun π t =>
                bif t then frcH (put H nm (.abs k (.a2 .pair (i2 22 M (.a2 .pair a v)) c1) [])) fun H => .done (.c (.bool (.bl true)), ⟨π, H, n⟩)
                else frcH (put H nm (.abs k (.a2 .pair (i2 21 M a) c1) [])) fun H => .done (.c (.bool (.bl false)), ⟨π, H, n⟩)))
            else frcH (put H nm (.abs k (.a2 .pair (i2 24 M (.a2 .pair a (.a2 .pair o v))) c1) [])) fun H =>
              some (needs π (room c ++ isU64 v) (.done (.c (.bool (i2 23 M (.a2 .pair a o))), ⟨π, H, n⟩))) else none
      | _ => none
  | _ => none
variable [Vars]
theorem cU1_ok {P : Program} {g : Nat} {f : Pi → Tm → SV} (hwf : ∀ π x n, (f π x).wf n ∧ (f π x).isTop = false) (h : ∀ (π : Pi) (x : Tm) (β : Bl) (w : World), facts π → 0 ≤ x.v → x.v < 18446744073709551616 → Calls P g #[.int .u64 x.v] w (Ret w ((f π x).den β))) : CAtOk P g (cU1 f) := by
  intro args s t ht L β hl ha htp w R hw Q hk
  unfold cU1 at ht
  split at ht
  · rename_i x
    simp only [Option.some.injEq] at ht
    subst ht
    obtain ⟨h1, h2⟩ := needs_leads hw.pi hl
    rw [frcV_eq] at h2
    have hx := isU64_ok h1
    exact at_pure hw (h s.pi x β w hw.pi hx.1 hx.2) fun w' ho => hk β (f s.pi x) s w' h2 (hwf s.pi x _).1 (hwf s.pi x 0).2 ho
  · cases ht
theorem cW2_ok {P : Program} {g n : Nat} {f : Int → Int → Int} {k : IntKind} (hn : ∀ x y : UM, (b2 n x y).int = f x.int y.int) (h : ∀ (x a : Int) (w : World), 0 ≤ x → x < 18446744073709551616 → Calls P g #[.int .u64 x, .int .i64 a] w (Ret w (.int k (f x a)))) : CAtOk P g (cW2 n f k) := by
  intro args s t ht L β hl ha htp w R hw Q hk
  unfold cW2 at ht
  split at ht
  · rename_i x a
    simp only [Option.some.injEq] at ht
    subst ht
    obtain ⟨h1, h2⟩ := needs_leads hw.pi hl
    rw [frcT_eq] at h2
    have hx := isU64_ok h1
    refine at_pure hw (h x.v a.v w hx.1 hx.2) fun w' ho => ?_
    have := hk β (.c (.int k (m2 n f x a))) s w' h2 trivial rfl ho
    rw [show (SV.c (.int k (m2 n f x a))).den β = .int k (m2 n f x a).v from rfl, m2_v hn] at this
    exact this
  · cases ht
theorem movT_v (x a : Tm) : (movT x a).v = hMoved x.v a.v := by
  unfold movT
  split
  · rename_i w
    rw [Bool.cond_eq_ite]
    show _ = hMoved w a.v
    unfold hMoved
    split
    · rename_i h
      rw [Bool.and_eq_true] at h
      rw [if_pos ⟨intBeq_eq h.1, intBeq_eq h.2⟩]
      rfl
    · rename_i h
      rw [if_neg]
      rintro ⟨h1, h2⟩
      apply h
      rw [h1, h2]
      rfl
  · rfl
theorem cMoved_ok {P : Program} {g : Nat} (h : ∀ (x a : Int) (w : World), 0 ≤ x → x < 18446744073709551616 → Calls P g #[.int .u64 x, .int .i64 a] w (Ret w (.int .i64 (hMoved x a)))) : CAtOk P g cMoved := by
  intro args s t ht L β hl ha htp w R hw Q hk
  unfold cMoved at ht
  split at ht
  · rename_i x a
    simp only [Option.some.injEq] at ht
    subst ht
    obtain ⟨h1, h2⟩ := needs_leads hw.pi hl
    rw [frcT_eq] at h2
    have hx := isU64_ok h1
    refine at_pure hw (h x.v a.v w hx.1 hx.2) fun w' ho => ?_
    have := hk β (.c (.int .i64 (movT x a))) s w' h2 trivial rfl ho
    rw [show (SV.c (.int .i64 (movT x a))).den β = .int .i64 (movT x a).v from rfl, movT_v] at this
    exact this
  · cases ht
theorem cWord_ok {P : Program} {g : Nat} (h : ∀ (a b : Int) (w : World), Calls P g #[.agg #[.int .i64 a, .int .i64 b]] w (Ret w (.int .u64 (sW a b)))) : CAtOk P g cWord := by
  intro args s t ht L β hl ha htp w R hw Q hk
  unfold cWord at ht
  split at ht
  · rename_i a b
    simp only [Option.some.injEq] at ht
    subst ht
    rw [frcT_eq] at hl
    refine at_pure hw (h a.v b.v w) fun w' ho => ?_
    have := hk β (.c (.int .u64 (m2 1 sW a b))) s w' hl trivial rfl ho
    rw [show (SV.c (.int .u64 (m2 1 sW a b))).den β = .int .u64 (m2 1 sW a b).v from rfl, m2_v (fun _ _ => rfl)] at this
    exact this
  · cases ht
theorem mkHead_v (a b c d e f g : Tm) : (mkHead a b c d e f g).v = (HV.mk a.v b.v c.v d.v e.v f.v g.v).w := by
  unfold mkHead
  split <;> rfl
theorem cHeadWord_ok {P : Program} {g : Nat} (h : ∀ (v : HV) (w : World), Calls P g #[v.agg] w (Ret w (.int .u64 v.w))) : CAtOk P g cHeadWord := by
  intro args s t ht L β hl ha htp w R hw Q hk
  unfold cHeadWord at ht
  split at ht
  · rename_i a b c d e f g
    simp only [Option.some.injEq] at ht
    subst ht
    rw [frcT_eq] at hl
    refine at_pure hw (h (HV.mk a.v b.v c.v d.v e.v f.v g.v) w) fun w' ho => ?_
    have := hk β (.c (.int .u64 (mkHead a b c d e f g))) s w' hl trivial rfl ho
    rw [show (SV.c (.int .u64 (mkHead a b c d e f g))).den β = .int .u64 (mkHead a b c d e f g).v from rfl, mkHead_v] at this
    exact this
  · cases ht
theorem kind_int (n : Nat) (h : 0 < n) (x : UM) : (b1 (1000 + n) x).int = kindOf x.int (n : Int) := by
  unfold b1
  rw [if_neg (by omega), if_neg (by omega), if_neg (by omega), if_neg (by omega), if_neg (by omega), if_neg (by omega), if_neg (by omega), if_neg (by omega), if_neg (by omega), if_neg (by omega), if_neg (by omega), if_neg (by omega), if_neg (by omega), if_neg (by omega), if_neg (by omega), if_neg (by omega), if_neg (by omega), if_neg (by omega), if_pos (by omega)]
  show kindOf x.int ((1000 + n - 1000 : Nat) : Int) = _
  rw [show 1000 + n - 1000 = n by omega]
theorem cKind_ok {P : Program} {g : Nat} (h : ∀ (c n : Int) (w : World), -9223372036854775808 ≤ c → c ≤ 9223372036854775807 → 0 < n → n ≤ 100000 → Calls P g #[.int .i64 c, .int .i64 n] w (fun e w' => e = .returned (.int .i64 (kindOf c n)) ∧ w' = w)) : CAtOk P g cKind := by
  intro args s t ht L β hl ha htp w R hw Q hk
  unfold cKind at ht
  split at ht
  · rename_i c n
    rw [Bool.cond_eq_ite] at ht
    split at ht
    · rename_i hn
      rw [Bool.and_eq_true] at hn
      have n1 : 1 ≤ n := of_decide_eq_true hn.1
      have n2 : n ≤ 100000 := of_decide_eq_true hn.2
      simp only [Option.some.injEq] at ht
      subst ht
      obtain ⟨h1, h2⟩ := needs_leads hw.pi hl
      rw [frcT_eq] at h2
      have a1 := h1 _ (List.mem_cons_self ..)
      have a2 := h1 _ (List.mem_cons_of_mem _ (List.mem_singleton.2 rfl))
      rw [mkNot_tv, mkLt_tv, lit_v] at a1
      rw [mkLt_tv, lit_v] at a2
      simp at a1 a2
      refine at_pure hw ((h c.v n w (by omega) (by omega) (by omega) n2).mono fun e w' ⟨he, hw'⟩ => ⟨he, by rw [hw']; exact Below.refl _ _⟩) fun w' ho => ?_
      have := hk β (.c (.int .i64 (m1 (1000 + n.toNat) (fun c => kindOf c n) c))) s w' h2 trivial rfl ho
      rw [show (SV.c (.int .i64 (m1 (1000 + n.toNat) (fun c => kindOf c n) c))).den β = .int .i64 (m1 (1000 + n.toNat) (fun c => kindOf c n) c).v from rfl, m1_v (fun x => by rw [kind_int _ (by omega), show ((n.toNat : Nat) : Int) = n by omega])] at this
      exact this
    · cases ht
  · cases ht
theorem cKindF_ok {P : Program} {g : Nat} (N : Int) (h : ∀ (c n : Int) (w : World), -9223372036854775808 ≤ c → c ≤ 9223372036854775807 → 0 < n → n ≤ 100000 → Calls P g #[.int .i64 c, .int .i64 n] w (fun e w' => e = .returned (.int .i64 (kindOf c n)) ∧ w' = w)) : CAtOk P g (cKindF N) := by
  intro args s t ht L β hl ha htp w R hw Q hk
  unfold cKindF at ht
  split at ht
  · rename_i c n
    rw [Bool.cond_eq_ite] at ht
    split at ht
    · rename_i hn
      simp only [Bool.and_eq_true] at hn
      obtain ⟨⟨n1, _⟩, n2⟩ := hn
      have n1 : 1 ≤ n := of_decide_eq_true n1
      have n2 : n ≤ 100000 := of_decide_eq_true n2
      simp only [Option.some.injEq] at ht
      subst ht
      obtain ⟨h1, h2⟩ := needs_leads hw.pi hl
      rw [frcT_eq] at h2
      have a1 := h1 _ (List.mem_cons_self ..)
      have a2 := h1 _ (List.mem_cons_of_mem _ (List.mem_singleton.2 rfl))
      rw [mkNot_tv, mkLt_tv, lit_v] at a1
      rw [mkLt_tv, lit_v] at a2
      simp at a1 a2
      obtain ⟨π', m, hp, hm, h3⟩ := forkI_leads h2 hw.pi
      rw [m1_v (fun x => by rw [kind_int _ (by omega), show ((n.toNat : Nat) : Int) = n by omega])] at hm
      refine at_pure hw ((h c.v n w (by omega) (by omega) (by omega) n2).mono fun e w' ⟨he, hw'⟩ => ⟨he, by rw [hw']; exact Below.refl _ _⟩) fun w' ho => ?_
      have := hk β (.c (.int .i64 (.lit (m : Int)))) ⟨π', s.H, s.n⟩ w' h3 trivial rfl ⟨ho.ag, ho.n, ⟨hp, ho.at_.wf, ho.at_.hold⟩, ho.st⟩
      rw [show (SV.c (.int .i64 (.lit (m : Int)))).den β = .int .i64 (m : Int) from rfl, ← hm] at this
      exact this
    · exact cKind_ok h _ s t ht L β hl ha htp w R hw Q hk
  · cases ht
theorem cKindS_ok {P : Program} {g : Nat} (N : Int) (skip : Tm → Bool) (h : ∀ (c n : Int) (w : World), -9223372036854775808 ≤ c → c ≤ 9223372036854775807 → 0 < n → n ≤ 100000 → Calls P g #[.int .i64 c, .int .i64 n] w (fun e w' => e = .returned (.int .i64 (kindOf c n)) ∧ w' = w)) : CAtOk P g (cKindS N skip) := by
  intro args s t ht
  unfold cKindS at ht
  split at ht
  · rw [Bool.cond_eq_ite] at ht
    split at ht
    · exact cKind_ok h _ _ _ ht
    · exact cKindF_ok N h _ _ _ ht
  · exact cKind_ok h _ _ _ ht
theorem room_ok {c : Tm} (h : ∀ p ∈ room c, p.tv = true) : c.v < 1099511627775 := by
  have h1 := h _ (List.mem_singleton.2 rfl)
  rw [mkLt_tv, lit_v] at h1
  simpa using h1
/-- What a memory's object holds. -/
theorem memO_open {T : Nat} {u : UM} {b : Nat} {w : World} {R : HProp} (H : Holds w (MemO T u b * R)) : ((memOf u.fst).ok ∧ ((memOf u.fst).n : Int) ≤ u.snd.int ∧ ((memOf u.fst).cnt : Int) ≤ u.snd.int ∧ ((memOf u.fst).tr : Int) ≤ u.snd.int) ∧ Holds w (MemP T b (memOf u.fst) * R) := holds_and H
theorem ok_acc {M : MS} {c : Int} (h : M.ok) (h1 : (M.n : Int) ≤ c) (h2 : (M.cnt : Int) ≤ c) (h3 : (M.tr : Int) ≤ c) (hc : c < 1099511627775) (b : Bool) : (M.acc b).ok ∧ ((M.acc b).n : Int) ≤ c + 1 ∧ ((M.acc b).cnt : Int) ≤ c + 1 ∧ ((M.acc b).tr : Int) ≤ c + 1 := by
  obtain ⟨g1, g2, g3, g4, g5⟩ := h
  refine ⟨⟨g1, g2, ?_, ?_, ?_⟩, ?_, ?_, ?_⟩ <;> cases b <;> simp only [MS.acc, if_true, Bool.false_eq_true, if_false] <;> omega
theorem ok_set {M : MS} (h : M.ok) (i : Nat) {x : Int} (hx : 0 ≤ x ∧ x < 18446744073709551616) : ({ M with ws := M.ws.set i x } : MS).ok := by
  obtain ⟨g1, g2, g3, g4, g5⟩ := h
  refine ⟨by simpa using g1, fun y hy => ?_, g3, g4, g5⟩
  rcases List.mem_or_eq_of_mem_set hy with hy | rfl
  · exact g2 y hy
  · exact hx
theorem ok_store {M : MS} {c : Int} (h : M.ok) (h1 : (M.n : Int) ≤ c) (h2 : (M.cnt : Int) ≤ c) (h3 : (M.tr : Int) ≤ c) (hc : c < 1099511627775) (a : Int) {x : Int} (hx : 0 ≤ x ∧ x < 18446744073709551616) : (M.store a x).ok ∧ ((M.store a x).n : Int) ≤ c + 1 ∧ ((M.store a x).cnt : Int) ≤ c + 1 ∧ ((M.store a x).tr : Int) ≤ c + 1 := by
  unfold MS.store MS.put
  split
  · exact ok_acc (ok_set h _ hx) h1 h2 h3 hc _
  · exact ok_acc h h1 h2 h3 hc _
theorem ok_cas {M : MS} {c : Int} (h : M.ok) (h1 : (M.n : Int) ≤ c) (h2 : (M.cnt : Int) ≤ c) (h3 : (M.tr : Int) ≤ c) (hc : c < 1099511627775) (a o : Int) {x : Int} (hx : 0 ≤ x ∧ x < 18446744073709551616) : (M.cas a o x).ok ∧ ((M.cas a o x).n : Int) ≤ c + 1 ∧ ((M.cas a o x).cnt : Int) ≤ c + 1 ∧ ((M.cas a o x).tr : Int) ≤ c + 1 := by
  unfold MS.cas
  split
  · exact ok_acc (ok_set h _ hx) h1 h2 h3 hc _
  · exact ok_acc h h1 h2 h3 hc _
theorem load_in {M : MS} (h : M.ok) (a : Int) : 0 ≤ M.load a ∧ M.load a < 18446744073709551616 := by
  unfold MS.load
  split
  · unfold MS.get
    cases hh : M.ws[a.toNat]? with
    | none => simp [hh]
    | some v =>
      simp only [List.getD_eq_getElem?_getD, hh, Option.getD_some]
      exact h.wd v (List.mem_of_getElem? hh)
  · omega
theorem memO_of {T : Nat} {u : UM} {ns : List Nat} {b : Nat} {h : Hp} (H : MemX T u ns b h) : MemO T u b h := by
  unfold MemX at H
  split at H
  · obtain ⟨h1, h2⟩ := H
    exact ⟨h1, _, h2⟩
  · exact H
theorem ob_of {k T : Nat} (hk : k = 1 ∧ T = 101 ∨ k = 2 ∧ T = 50) (u : UM) (b : Nat) : Interp.ob k u [] b = MemO T u b := by
  rcases hk with ⟨rfl, rfl⟩ | ⟨rfl, rfl⟩ <;> rfl
theorem ob_get {k T : Nat} (hk : k = 1 ∧ T = 101 ∨ k = 2 ∧ T = 50) {u : UM} {ns : List Nat} {b : Nat} {w : World} {R : HProp} (H : Holds w (Interp.ob k u ns b * R)) : Holds w (MemO T u b * R) := by
  rcases hk with ⟨rfl, rfl⟩ | ⟨rfl, rfl⟩
  · exact H.mono (star_mono (fun _ p => memO_of p) (fun _ r => r))
  · exact H.mono (star_mono (fun _ p => memO_of p) (fun _ r => r))
theorem cLoad_ok {P : Program} {g k T : Nat} (hk0 : k = 1 ∧ T = 101 ∨ k = 2 ∧ T = 50)
    (h : ∀ (w : World) (R : HProp) (mb : Nat) (M : MS) (a : Int), Holds w (MemP T mb M * R) → M.ok → Calls P g #[.pointer (some ⟨mb, 0, none⟩), .int .i64 a] w fun e w' => e = .returned (.int .u64 (M.load a)) ∧ Holds w' (MemP T mb (M.loaded a) * R) ∧ Strm w w') : CAtOk P g (cLoad k) := by
  intro args s t ht L β hl ha htp w R hw Q hk
  unfold cLoad at ht
  split at ht
  · rename_i nm a
    obtain ⟨π, H, n⟩ := s
    dsimp only at ht
    split at ht
    · rename_i j x ns hf
      rw [Bool.cond_eq_ite] at ht
      split at ht
      · rename_i hj
        have hj := Nat.eq_of_beq_eq_true hj
        subst hj
        simp only [frcT_eq, frcH_eq, Option.some.injEq] at ht
        subst ht
        obtain ⟨h1, h2⟩ := needs_leads hw.pi hl
        have hc := room_ok h1
        rw [snd_v] at hc
        have hx : x.den.fst = (mkFst x).den := (fst_den x).symm
        have hns : ∀ m ∈ ns, m < n := (hw.wf _ (find_mem hf)).2
        have hf' : find (⟨π, H, n⟩ : St).H nm = some (.abs j x ns) := hf
        have hob := focus hf hw.hold
        have hob2 : Holds w (MemO T x.den (β nm) * (hden β (del H nm) * R)) := ob_get hk0 hob
        obtain ⟨⟨ok, b1', b2', b3'⟩, _⟩ := memO_open hob2
        have hcall := h w
        refine at_obj (o := .abs j x ns) (o1 := .abs j (.a2 .pair (i2 21 (mkFst x) a) (mkAdd (mkSnd x) (.lit 1))) []) hw hf' (fun _ h => nomatch h) (V := .int .u64 ((memOf x.den.fst).load a.v)) (fun R' hR => ?_) fun w' ho => ?_
        · have hR2 : Holds w (MemO T x.den (β nm) * R') := ob_get hk0 hR
          refine (h w R' (β nm) _ a.v (memO_open hR2).2 ok).mono ?_
          rintro e w' ⟨rfl, g1, g2⟩
          refine ⟨rfl, ?_, g2⟩
          show Holds w' (Interp.ob j _ [] _ * R')
          rw [ob_of hk0]
          refine holds_and_mk ?_ ?_
          · show ((memOf (mkFst x).den).loaded a.v).ok ∧ (((memOf (mkFst x).den).loaded a.v).n : Int) ≤ (mkAdd (mkSnd x) (.lit 1)).v ∧ (((memOf (mkFst x).den).loaded a.v).cnt : Int) ≤ (mkAdd (mkSnd x) (.lit 1)).v ∧ (((memOf (mkFst x).den).loaded a.v).tr : Int) ≤ (mkAdd (mkSnd x) (.lit 1)).v
            rw [mkAdd_v, lit_v, ← hx, snd_v]
            exact ok_acc ok b1' b2' b3' hc _
          · show Holds w' (MemP T (β nm) ((memOf (mkFst x).den).loaded a.v) * R')
            rw [← hx]; exact g1
        · have := hk β (.c (.int .u64 (mkLoad π a (mkFst x)))) _ w' h2 trivial rfl ho
          rw [show (SV.c (.int .u64 (mkLoad π a (mkFst x)))).den β = .int .u64 (mkLoad π a (mkFst x)).v from rfl, mkLoad_v hw.pi, ← hx, cl64_in (load_in ok _)] at this
          exact this
      · cases ht
    · cases ht
  · cases ht
theorem cStore_ok {P : Program} {g k T : Nat} (hk0 : k = 1 ∧ T = 101 ∨ k = 2 ∧ T = 50)
    (h : ∀ (w : World) (R : HProp) (mb : Nat) (M : MS) (a x : Int), Holds w (MemP T mb M * R) → M.ok → Calls P g #[.pointer (some ⟨mb, 0, none⟩), .int .i64 a, .int .u64 x] w fun e w' => e = .returned (.tuple #[]) ∧ Holds w' (MemP T mb (M.store a x) * R) ∧ Strm w w') : CAtOk P g (cStore k) := by
  intro args s t ht L β hl ha htp w R hw Q hk
  unfold cStore at ht
  split at ht
  · rename_i nm a v
    obtain ⟨π, H, n⟩ := s
    dsimp only at ht
    split at ht
    · rename_i j x ns hf
      rw [Bool.cond_eq_ite] at ht
      split at ht
      · rename_i hj
        have hj := Nat.eq_of_beq_eq_true hj
        subst hj
        simp only [frcT_eq, frcH_eq, Option.some.injEq] at ht
        subst ht
        obtain ⟨h1, h2⟩ := needs_leads hw.pi hl
        have hc := room_ok (c := mkSnd x) (fun p hp => h1 p (List.mem_append_left _ hp))
        have hv := isU64_ok (x := v) (fun p hp => h1 p (List.mem_append_right _ hp))
        rw [snd_v] at hc
        have hx : x.den.fst = (mkFst x).den := (fst_den x).symm
        have hns : ∀ m ∈ ns, m < n := (hw.wf _ (find_mem hf)).2
        have hf' : find (⟨π, H, n⟩ : St).H nm = some (.abs j x ns) := hf
        have hob := focus hf hw.hold
        have hob2 : Holds w (MemO T x.den (β nm) * (hden β (del H nm) * R)) := ob_get hk0 hob
        obtain ⟨⟨ok, b1', b2', b3'⟩, _⟩ := memO_open hob2
        refine at_obj (o := .abs j x ns) (o1 := .abs j (.a2 .pair (i2 22 (mkFst x) (.a2 .pair a v)) (mkAdd (mkSnd x) (.lit 1))) []) hw hf' (fun _ h => nomatch h) (V := .tuple #[]) (fun R' hR => ?_) fun w' ho => ?_
        · have hR2 : Holds w (MemO T x.den (β nm) * R') := ob_get hk0 hR
          refine (h w R' (β nm) _ a.v v.v (memO_open hR2).2 ok).mono ?_
          rintro e w' ⟨rfl, g1, g2⟩
          refine ⟨rfl, ?_, g2⟩
          show Holds w' (Interp.ob j _ [] _ * R')
          rw [ob_of hk0]
          refine holds_and_mk ?_ ?_
          · show ((memOf (mkFst x).den).store a.v v.v).ok ∧ (((memOf (mkFst x).den).store a.v v.v).n : Int) ≤ (mkAdd (mkSnd x) (.lit 1)).v ∧ (((memOf (mkFst x).den).store a.v v.v).cnt : Int) ≤ (mkAdd (mkSnd x) (.lit 1)).v ∧ (((memOf (mkFst x).den).store a.v v.v).tr : Int) ≤ (mkAdd (mkSnd x) (.lit 1)).v
            rw [mkAdd_v, lit_v, ← hx, snd_v]
            exact ok_store ok b1' b2' b3' hc _ hv
          · show Holds w' (MemP T (β nm) ((memOf (mkFst x).den).store a.v v.v) * R')
            rw [← hx]; exact g1
        · exact hk β .un _ w' h2 (un_wf _) rfl ho
      · cases ht
    · cases ht
  · cases ht
theorem cas_yes {M : MS} {a o x : Int} (h0 : 0 ≤ a) (h1 : a < M.ws.length) (he : M.load a = o) : M.casOk a o = true ∧ M.cas a o x = M.store a x := by
  have ht : M.there a = true := by simp [MS.there]; omega
  have hg : M.get a = o := by rw [← he]; unfold MS.load; rw [if_pos ht]
  have hc : M.casOk a o = true := by simp [MS.casOk, ht, hg]
  refine ⟨hc, ?_⟩
  unfold MS.cas MS.store MS.put
  rw [if_pos hc, if_pos ht]
theorem cas_no {M : MS} {a o x : Int} (h0 : 0 ≤ a) (h1 : a < M.ws.length) (he : M.load a ≠ o) : M.casOk a o = false ∧ M.cas a o x = M.loaded a := by
  have ht : M.there a = true := by simp [MS.there]; omega
  have hg : M.get a ≠ o := fun e => he (by rw [← e]; unfold MS.load; rw [if_pos ht])
  have hc : M.casOk a o = false := by simp [MS.casOk, ht, hg]
  refine ⟨hc, ?_⟩
  unfold MS.cas MS.loaded
  rw [if_neg (by rw [hc]; simp)]
theorem vkT_v {π : Pi} (hπ : facts π) (x : Tm) : (vkT π x).v = vK x.v := by
  unfold vkT
  split
  · rename_i k n
    rw [Bool.cond_eq_ite]
    split
    · rename_i h
      rw [Bool.and_eq_true] at h
      have hr := Rg.inside_ok (selRg_ok hπ k) h.2
      show k.v = vK (sW k.v n.v)
      rw [vK_sW _ _ (by omega) (by omega)]
    · rfl
  · exact m1_v (fun _ => rfl) _
theorem vnT_v {π : Pi} (hπ : facts π) (x : Tm) : (vnT π x).v = vN (cl64 x.v) := by
  unfold vnT
  split
  · rename_i k n
    rw [Bool.cond_eq_ite]
    split
    · rename_i h
      rw [Bool.and_eq_true] at h
      have hr := Rg.inside_ok (selRg_ok hπ n) h.2
      show n.v = vN (cl64 (sW k.v n.v))
      rw [cl64_in ⟨sW_lo _ _, sW_hi _ _⟩, vN_sW _ _ (by omega) (by omega)]
    · rfl
  · exact m1_v (fun _ => rfl) _
theorem brW_leads {x o : Tm} {π : Pi} {k : Pi → Bool → Rt} {L : Bl → SV × St → Prop} {β : Bl} (h : (brW x o π k).Leads L β) (hπ : facts π) : ∃ π', facts π' ∧ (k π' (mkEq x o).tv).Leads L β := by
  unfold brW at h
  split at h
  · rename_i p q
    rw [Bool.cond_eq_ite] at h
    split at h
    · rename_i hc
      simp only [Bool.and_eq_true] at hc
      obtain ⟨⟨⟨_, h1⟩, h2⟩, h3⟩ := hc
      have r1 := Rg.inside_ok (selRg_ok hπ p) h1
      have r2 := Rg.inside_ok (selRg_ok hπ q) h2
      have r3 := Rg.inside_ok (selRg_ok hπ o) h3
      obtain ⟨π', hp, h4⟩ := br_leads h hπ
      cases hb : (mkAnd (mkEq p (vkT π o)) (mkEq q (vnT π o))).tv with
      | true =>
        rw [hb] at h4
        exact br_leads h4 hp
      | false =>
        rw [hb] at h4
        refine ⟨π', hp, ?_⟩
        have e : (mkEq (i2 1 p q) o).tv = false := by
          rw [mkEq_tv]
          refine decide_eq_false fun he => ?_
          have he : sW p.v q.v = o.v := he
          rw [mkAnd_tv, mkEq_tv, mkEq_tv, vkT_v hπ, vnT_v hπ, ← he, cl64_in ⟨sW_lo _ _, sW_hi _ _⟩, vK_sW _ _ (by omega) (by omega), vN_sW _ _ (by omega) (by omega)] at hb
          simp at hb
        rw [e]
        exact h4
    · exact br_leads h hπ
  · exact br_leads h hπ
theorem cCas_ok {P : Program} {g k T : Nat} (hk0 : k = 1 ∧ T = 101 ∨ k = 2 ∧ T = 50)
    (h : ∀ (w : World) (R : HProp) (mb : Nat) (M : MS) (a o x : Int), Holds w (MemP T mb M * R) → M.ok → Calls P g #[.pointer (some ⟨mb, 0, none⟩), .int .i64 a, .int .u64 o, .int .u64 x] w fun e w' => e = .returned (.bool (M.casOk a o)) ∧ Holds w' (MemP T mb (M.cas a o x) * R) ∧ Strm w w') : CAtOk P g (cCas k) := by
  intro args s t ht L β hl ha htp w R hw Q hk
  unfold cCas at ht
  split at ht
  · rename_i nm a o v
    obtain ⟨π, H, n⟩ := s
    dsimp only at ht
    split at ht
    · rename_i j x ns hf
      rw [Bool.cond_eq_ite] at ht
      split at ht
      · rename_i hj
        have hj := Nat.eq_of_beq_eq_true hj
        subst hj
        simp only [frcT_eq, frcH_eq] at ht
        have hx : x.den.fst = (mkFst x).den := (fst_den x).symm
        have hns : ∀ m ∈ ns, m < n := (hw.wf _ (find_mem hf)).2
        have hf' : find (⟨π, H, n⟩ : St).H nm = some (.abs j x ns) := hf
        have hob := focus hf hw.hold
        have hob2 : Holds w (MemO T x.den (β nm) * (hden β (del H nm) * R)) := ob_get hk0 hob
        obtain ⟨⟨ok, b1', b2', b3'⟩, _⟩ := memO_open hob2
        have core : ∀ (M1 : Tm) (V : Bool) (s0 : St), s0 = ⟨π, H, n⟩ ∨ (∃ π', facts π' ∧ s0 = ⟨π', H, n⟩) → (mkSnd x).v < 1099511627775 → (0 ≤ v.v ∧ v.v < 18446744073709551616) → memOf M1.den = (memOf x.den.fst).cas a.v o.v v.v → V = (memOf x.den.fst).casOk a.v o.v →
            (∀ w', Out β ⟨π, H, n⟩ w R β ⟨s0.pi, put H nm (.abs j (.a2 .pair M1 (mkAdd (mkSnd x) (.lit 1))) []), n⟩ w' → Q (.returned (.bool V)) w') → Calls P g #[.pointer (some ⟨β nm, 0, none⟩), .int .i64 a.v, .int .u64 o.v, .int .u64 v.v] w Q := by
          intro M1 V s0 hs0 hc hv hM hV hfin
          rw [snd_v] at hc
          refine at_obj (o := .abs j x ns) (o1 := .abs j (.a2 .pair M1 (mkAdd (mkSnd x) (.lit 1))) []) hw hf' (fun _ h => nomatch h) (V := .bool V) (fun R' hR => ?_) fun w' ho => ?_
          · have hR2 : Holds w (MemO T x.den (β nm) * R') := ob_get hk0 hR
            refine (h w R' (β nm) _ a.v o.v v.v (memO_open hR2).2 ok).mono ?_
            rintro e w' ⟨rfl, g1, g2⟩
            refine ⟨by rw [hV], ?_, g2⟩
            show Holds w' (Interp.ob j _ [] _ * R')
            rw [ob_of hk0]
            refine holds_and_mk ?_ ?_
            · show (memOf M1.den).ok ∧ ((memOf M1.den).n : Int) ≤ (mkAdd (mkSnd x) (.lit 1)).v ∧ ((memOf M1.den).cnt : Int) ≤ (mkAdd (mkSnd x) (.lit 1)).v ∧ ((memOf M1.den).tr : Int) ≤ (mkAdd (mkSnd x) (.lit 1)).v
              rw [mkAdd_v, lit_v, hM, snd_v]
              exact ok_cas ok b1' b2' b3' hc _ _ hv
            · show Holds w' (MemP T (β nm) (memOf M1.den) * R')
              rw [hM]; exact g1
          · refine hfin w' ?_
            rcases hs0 with rfl | ⟨π', hp, rfl⟩
            · exact ho
            · exact ⟨ho.ag, ho.n, ⟨hp, ho.at_.wf, ho.at_.hold⟩, ho.st⟩
        rw [Bool.cond_eq_ite] at ht
        split at ht
        · rename_i hkn
          simp only [Option.some.injEq] at ht
          subst ht
          obtain ⟨h1, h2⟩ := needs_leads hw.pi hl
          have hc := room_ok (c := mkSnd x) (fun p hp => h1 p (List.mem_append_left _ hp))
          have hv := isU64_ok (x := v) (fun p hp => h1 p (List.mem_append_right _ hp))
          obtain ⟨π', hp, h3⟩ := brW_leads h2 hw.pi
          unfold known at hkn
          split at hkn
          · rename_i a0
            unfold inLen at hkn
            split at hkn
            · rename_i n0 hn0
              rw [Bool.and_eq_true] at hkn
              have g0 : 0 ≤ a0 := of_decide_eq_true hkn.1
              have g1 : a0 + 1 ≤ n0 := of_decide_eq_true hkn.2
              have hlen := mlen_ok hn0 (by omega)
              rw [← hx] at hlen
              have hld : (mkLoad π (.lit a0) (mkFst x)).v = (memOf x.den.fst).load a0 := by rw [mkLoad_v hw.pi, ← hx, lit_v, cl64_in (load_in ok _)]
              cases hb : (mkEq (mkLoad π (.lit a0) (mkFst x)) o).tv with
              | true =>
                rw [hb] at h3
                simp only [cond_true] at h3
                rw [mkEq_tv, hld] at hb
                have he : (memOf x.den.fst).load a0 = o.v := by simpa using hb
                obtain ⟨c1, c2⟩ := cas_yes (x := v.v) g0 (by omega) he
                exact core (i2 22 (mkFst x) (.a2 .pair (.lit a0) v)) true ⟨π', H, n⟩ (.inr ⟨π', hp, rfl⟩) hc hv (by rw [show (Tm.lit a0).v = a0 from rfl, c2, hx]; rfl) c1.symm fun w' ho => hk β (.c (.bool (.bl true))) _ w' h3 trivial rfl ho
              | false =>
                rw [hb] at h3
                simp only [cond_false] at h3
                rw [mkEq_tv, hld] at hb
                have he : (memOf x.den.fst).load a0 ≠ o.v := by simpa using hb
                obtain ⟨c1, c2⟩ := cas_no (x := v.v) g0 (by omega) he
                exact core (i2 21 (mkFst x) (.lit a0)) false ⟨π', H, n⟩ (.inr ⟨π', hp, rfl⟩) hc hv (by rw [show (Tm.lit a0).v = a0 from rfl, c2, hx]; rfl) c1.symm fun w' ho => hk β (.c (.bool (.bl false))) _ w' h3 trivial rfl ho
            · cases hkn
          · cases hkn
        · simp only [Option.some.injEq] at ht
          subst ht
          obtain ⟨h1, h2⟩ := needs_leads hw.pi hl
          have hc := room_ok (c := mkSnd x) (fun p hp => h1 p (List.mem_append_left _ hp))
          have hv := isU64_ok (x := v) (fun p hp => h1 p (List.mem_append_right _ hp))
          exact core (i2 24 (mkFst x) (.a2 .pair a (.a2 .pair o v))) ((memOf x.den.fst).casOk a.v o.v) ⟨π, H, n⟩ (.inl rfl) hc hv (by rw [hx]; rfl) rfl fun w' ho => by
            have := hk β (.c (.bool (i2 23 (mkFst x) (.a2 .pair a o)))) _ w' h2 trivial rfl ho
            rw [show (SV.c (.bool (i2 23 (mkFst x) (.a2 .pair a o)))).den β = .bool ((memOf (mkFst x).den).casOk a.v o.v) from rfl, ← hx] at this
            exact this
      · cases ht
    · cases ht
  · cases ht
end
/-! ### addresses by their definitions -/
section
variable [Ext] [Exp]
def conc {α : Type} : Nat → Tm → Pi → (Pi → Tm → Tree α) → Tree α
  | 0, a, π, k => k π a
  | g + 1, a, π, k =>
    match a with
    | .a2 .sel c (.a2 .pair x y) => br c π fun π b => conc g (exK π (bif b then x else y)) π k
    | a => k π a
/-- The address of a memory's access parted into what it may be. -/
def cEx (c : CtrAt) : CtrAt := fun args s =>
  match args with
  | p :: .a (.one (.int j a)) :: r => bif isEx a then
      some (conc 8 (exK s.pi a) s.pi fun π a' => frcT a' fun a' => match c (p :: .c (.int j a') :: r) ⟨π, s.H, s.n⟩ with
        | some t => t
        | none => .fail 64)
    else c args s
  | _ => c args s
variable [Vars]
theorem conc_leads {α : Type} {L : Bl → α → Prop} {β : Bl} : ∀ {g : Nat} {a : Tm} {π : Pi} {k : Pi → Tm → Tree α}, (conc g a π k).Leads L β → facts π → ∃ π' a', facts π' ∧ a'.den = a.den ∧ (k π' a').Leads L β
  | 0, a, π, k, h, hπ => ⟨π, a, hπ, rfl, h⟩
  | g + 1, a, π, k, h, hπ => by
    unfold conc at h
    split at h
    · rename_i c x y
      obtain ⟨π', h1, h2⟩ := br_leads h hπ
      obtain ⟨π'', a', h3, h4, h5⟩ := conc_leads h2 h1
      refine ⟨π'', a', h3, ?_, h5⟩
      rw [h4, exK_den h1]
      show (bif c.tv then x else y).den = (bif c.tv then x.den else y.den)
      cases c.tv <;> rfl
    · exact ⟨π, _, hπ, rfl, h⟩
theorem cEx_ok {P : Program} {f : Nat} {c : CtrAt} (hc : CAtOk P f c) : CAtOk P f (cEx c) := by
  intro args s t ht L β hl ha htp w R hw Q hk
  unfold cEx at ht
  split at ht
  · rename_i p j a r
    rw [Bool.cond_eq_ite] at ht
    split at ht
    · simp only [Option.some.injEq] at ht
      subst ht
      obtain ⟨π', a', h1, h2, h3⟩ := conc_leads hl hw.pi
      rw [frcT_eq] at h3
      split at h3
      · rename_i t ht'
        rw [exK_den hw.pi] at h2
        have e : (p :: SV.c (.int j a) :: r).map (SV.den β) = (p :: SV.c (.int j a') :: r).map (SV.den β) := by
          have : (SV.c (.int j a)).den β = (SV.c (.int j a')).den β := by
            show Value.int j a.v = .int j a'.v
            rw [Tm.v, Tm.v, h2]
          rw [List.map_cons, List.map_cons, this, List.map_cons, List.map_cons]
        rw [e]
        refine hc _ ⟨π', s.H, s.n⟩ t ht' L β h3 (fun x hx => ?_) (fun x hx => ?_) w R ⟨h1, hw.wf, hw.hold⟩ Q fun β' v s' w' g1 g2 g3 g4 => hk β' v s' w' g1 g2 g3 ⟨g4.ag, g4.n, g4.at_, g4.st⟩
        · rcases List.mem_cons.1 hx with rfl | hx
          · exact ha _ (List.mem_cons_self ..)
          · rcases List.mem_cons.1 hx with rfl | hx
            · exact trivial
            · exact ha _ (List.mem_cons_of_mem _ (List.mem_cons_of_mem _ hx))
        · rcases List.mem_cons.1 hx with rfl | hx
          · exact htp _ (List.mem_cons_self ..)
          · rcases List.mem_cons.1 hx with rfl | hx
            · rfl
            · exact htp _ (List.mem_cons_of_mem _ (List.mem_cons_of_mem _ hx))
      · exact h3.elim
    · exact hc _ _ _ ht L β hl ha htp w R hw Q hk
  · exact hc _ _ _ ht L β hl ha htp w R hw Q hk
end
end Go.Proofs.Ytmmpnjcmaodkcaa.Ef
/- What is proved: patterns of states: what fits a pattern is one of its instances. Conditions: stated with each lemma. -/
namespace Go.Proofs.Ytmmpnjcmaodkcaa.Ef
open Go Go.Proofs.Ytmmpnjcmaodkcaa.Sep
open Go.Proofs.Ytmmpnjcmaodkcaa.Ev (Fast)
set_option linter.unusedVariables false
set_option linter.unusedSimpArgs false
set_option linter.unusedSectionVars false
/-! ### terms put in for variables -/
def fstX : Tm → Tm
  | .a2 .pair x _ => x
  | t => .a1 .fst t
def sndX : Tm → Tm
  | .a2 .pair _ y => y
  | t => .a1 .snd t
def isI : Tm → Bool
  | .lit _ => true
  | .a1 (.wrap _) _ => true
  | .a2 .add _ _ => true
  | .a2 .sub _ _ => true
  | .a2 .mul _ _ => true
  | .a2 .rem _ _ => true
  | _ => false
def addX : Tm → Tm → Tm
  | .lit a, .lit b => .lit (a + b)
  | .a2 .add x (.lit a), .lit b => .a2 .add x (.lit (a + b))
  | x, .lit b => bif intBeq b 0 && isI x then x else .a2 .add x (.lit b)
  | .lit a, y => bif intBeq a 0 && isI y then y else .a2 .add y (.lit a)
  | .a2 .add x (.lit a), y => .a2 .add (.a2 .add x y) (.lit a)
  | x, y => .a2 .add x y
def subX : Tm → Tm → Tm
  | .lit a, .lit b => .lit (a - b)
  | .a2 .add x (.lit a), .lit b => .a2 .add x (.lit (a - b))
  | x, .lit b => .a2 .add x (.lit (-b))
  | x, y => .a2 .sub x y
def mulX : Tm → Tm → Tm
  | .lit a, .lit b => .lit (a * b)
  | .a2 .add x (.lit a), .lit b => .a2 .add (.a2 .mul x (.lit b)) (.lit (a * b))
  | x, .lit b => .a2 .mul x (.lit b)
  | .lit a, y => .a2 .mul y (.lit a)
  | x, y => .a2 .mul x y
def selX : Tm → Tm → Tm
  | .bl true, .a2 .pair x y => x
  | .bl false, .a2 .pair x y => y
  | c, z => .a2 .sel c z
def lkT : List (Nat × Tm) → Nat → Option Tm
  | [], _ => none
  | (j, t) :: r, i => bif Nat.beq j i then some t else lkT r i
section
variable [Interp] [Rules]
def Tm.sub (σ : List (Nat × Tm)) : Tm → Tm
  | .lit n => .lit n
  | .bl b => .bl b
  | .var i => match lkT σ i with
    | some t => t
    | none => .var i
  | .a1 f x =>
    match f with
    | .not => mkNot (x.sub σ)
    | .fst => fstX (x.sub σ)
    | .snd => sndX (x.sub σ)
    | .wrap k => match x.sub σ with
      | .lit n => .lit (k.wrap n)
      | t => .a1 (.wrap k) t
    | .usr n => Rules.k1 n (x.sub σ)
  | .a2 f x y =>
    match f with
    | .add => addX (x.sub σ) (y.sub σ)
    | .sub => subX (x.sub σ) (y.sub σ)
    | .mul => mulX (x.sub σ) (y.sub σ)
    | .eq => mkEq (x.sub σ) (y.sub σ)
    | .lt => mkLt (x.sub σ) (y.sub σ)
    | .sel => selX (x.sub σ) (y.sub σ)
    | .usr n => Rules.k2 n (x.sub σ) (y.sub σ)
    | f => .a2 f (x.sub σ) (y.sub σ)
/-- The variables with these values. -/
@[reducible] def subV [V : Vars] (σ : List (Nat × Tm)) (τ : List (Nat × SC)) (β : Bl) : Vars :=
  ⟨fun i => match lkT σ i with
    | some t => t.den
    | none => Vars.ρ i, fun i => match (τ.find? fun q => Nat.beq q.1 i) with
    | some q => q.2.den β
    | none => Vars.ω i, Vars.ad⟩
variable [V : Vars]
theorem isI_den {x : Tm} (h : isI x = true) : x.den = .i x.v := by
  unfold isI at h
  split at h <;> first | rfl | cases h
theorem addX_den (x y : Tm) : (addX x y).den = .i (x.v + y.v) := by
  unfold addX
  split <;> first
    | rfl
    | (show U.i _ = U.i _; congr 1; simp only [Tm.v, Tm.den, F2.den, U.int]; omega)
    | (rw [Bool.cond_eq_ite]; split
       · rename_i h
         rw [Bool.and_eq_true] at h
         have h1 := intBeq_eq h.1
         subst h1
         rw [isI_den h.2]
         simp [lit_v]
       · first | rfl | (show U.i _ = U.i _; congr 1; exact Int.add_comm _ _))
theorem subX_den (x y : Tm) : (subX x y).den = .i (x.v - y.v) := by
  unfold subX
  split <;> first
    | rfl
    | (show U.i _ = U.i _; congr 1; simp only [Tm.v, Tm.den, F2.den, U.int]; omega)
theorem mulX_den (x y : Tm) : (mulX x y).den = .i (x.v * y.v) := by
  unfold mulX
  split <;> first
    | rfl
    | (show U.i _ = U.i _; congr 1; exact (Int.add_mul _ _ _).symm)
    | (show U.i _ = U.i _; congr 1; exact Int.mul_comm _ _)
theorem mkEq_den (x y : Tm) : (mkEq x y).den = .b (x.v == y.v) := by
  have h := mkEq_tv x y
  have : ∃ b, (mkEq x y).den = .b b := by
    unfold mkEq
    split <;> first
      | exact ⟨_, rfl⟩
      | (rw [Bool.cond_eq_ite]; split <;> exact ⟨_, rfl⟩)
  obtain ⟨b, hb⟩ := this
  rw [hb, ← h, Tm.tv, hb]
  rfl
theorem mkLt_den (x y : Tm) : (mkLt x y).den = .b (decide (x.v < y.v)) := by
  have h := mkLt_tv x y
  have : ∃ b, (mkLt x y).den = .b b := by
    unfold mkLt
    split <;> first
      | exact ⟨_, rfl⟩
      | (rw [Bool.cond_eq_ite]; split <;> exact ⟨_, rfl⟩)
  obtain ⟨b, hb⟩ := this
  rw [hb, ← h, Tm.tv, hb]
  rfl
theorem mkNot_den (x : Tm) : (mkNot x).den = .b (!x.tv) := by
  have h := mkNot_tv x
  have : ∃ b, (mkNot x).den = .b b := by
    unfold mkNot
    split <;> exact ⟨_, rfl⟩
  obtain ⟨b, hb⟩ := this
  rw [hb, ← h, Tm.tv, hb]
  rfl
theorem fstX_den (x : Tm) : (fstX x).den = x.den.fst := by unfold fstX; split <;> rfl
theorem sndX_den (x : Tm) : (sndX x).den = x.den.snd := by unfold sndX; split <;> rfl
theorem selX_den (x y : Tm) : (selX x y).den = F2.sel.den x.den y.den := by unfold selX; split <;> rfl
theorem sub_den (σ : List (Nat × Tm)) (τ : List (Nat × SC)) (β : Bl) : ∀ t : Tm, (t.sub σ).den = @Tm.den _ (subV σ τ β) t
  | .lit n => rfl
  | .bl b => rfl
  | .var i => by
    show (match lkT σ i with | some t => t | none => .var i).den = (match lkT σ i with | some t => t.den | none => Vars.ρ i)
    cases lkT σ i <;> rfl
  | .a1 f x => by
    have ih := sub_den σ τ β x
    unfold Tm.sub
    cases f with
    | not => dsimp only; rw [mkNot_den, Tm.tv, ih]; rfl
    | fst => dsimp only; rw [fstX_den, ih]; rfl
    | snd => dsimp only; rw [sndX_den, ih]; rfl
    | wrap k =>
      dsimp only
      have e : ∀ t : Tm, (match t with | .lit n => Tm.lit (k.wrap n) | t => .a1 (.wrap k) t).den = .i (k.wrap t.den.int) := by
        intro t; cases t <;> rfl
      rw [e, ih]; rfl
    | usr n => dsimp only; rw [Rules.k1_ok, ih]; rfl
  | .a2 f x y => by
    have ihx := sub_den σ τ β x
    have ihy := sub_den σ τ β y
    unfold Tm.sub
    cases f <;> dsimp only <;> first
      | (rw [addX_den, Tm.v, Tm.v, ihx, ihy]; rfl)
      | (rw [subX_den, Tm.v, Tm.v, ihx, ihy]; rfl)
      | (rw [mulX_den, Tm.v, Tm.v, ihx, ihy]; rfl)
      | (rw [mkEq_den, Tm.v, Tm.v, ihx, ihy]; rfl)
      | (rw [mkLt_den, Tm.v, Tm.v, ihx, ihy]; rfl)
      | (rw [selX_den, ihx, ihy]; rfl)
      | (rw [Rules.k2_ok, ihx, ihy]; rfl)
      | (simp only [Tm.den, ihx, ihy]; done)
end
/-! ### names and cells put in -/
def lkN : List (Nat × Nat) → Nat → Nat
  | [], i => i
  | (j, t) :: r, i => bif Nat.beq j i then t else lkN r i
def nmP (ν : List (Nat × Nat)) (p : Nat × Nat) : Nat × Nat := (lkN ν p.1, p.2)
section
variable [Interp] [Rules]
def SC.sub (σ : List (Nat × Tm)) (τ : List (Nat × SC)) (ν : List (Nat × Nat)) : SC → SC
  | .int k t => .int k (t.sub σ)
  | .bool t => .bool (t.sub σ)
  | .ptr nm o => .ptr (lkN ν nm) o
  | .ptrR nm b t st o => .ptrR (lkN ν nm) (b.sub σ) (t.sub σ) st o
  | .nil => .nil
  | .slice nm o l c => .slice (lkN ν nm) o (l.sub σ) (c.sub σ)
  | .sliceQ nm b l c => .sliceQ (lkN ν nm) (b.sub σ) (l.sub σ) (c.sub σ)
  | .snil => .snil
  | .func f a c => .func f (a.map (nmP ν)) (c.map (nmP ν))
  | .nilF => .nilF
  | .raw v => .raw v
  | .any i => match (τ.find? fun q => Nat.beq q.1 i) with
    | some q => q.2
    | none => .any i
def subN (ν : List (Nat × Nat)) (β : Bl) : Bl := fun m => β (lkN ν m)
variable [V : Vars]
theorem sub_v (σ : List (Nat × Tm)) (τ : List (Nat × SC)) (β : Bl) (t : Tm) : (t.sub σ).v = @Tm.v _ (subV σ τ β) t := by
  unfold Tm.v; rw [sub_den σ τ β]
theorem sub_tv (σ : List (Nat × Tm)) (τ : List (Nat × SC)) (β : Bl) (t : Tm) : (t.sub σ).tv = @Tm.tv _ (subV σ τ β) t := by
  unfold Tm.tv; rw [sub_den σ τ β]
theorem subC_den (σ : List (Nat × Tm)) (τ : List (Nat × SC)) (ν : List (Nat × Nat)) (β : Bl) (c : SC) : (c.sub σ τ ν).den β = @SC.den _ (subV σ τ β) (subN ν β) c := by
  cases c with
  | int k t => simp only [SC.sub, SC.den, sub_v σ τ β]
  | bool t => simp only [SC.sub, SC.den, sub_tv σ τ β]
  | ptr nm o => rfl
  | ptrR nm b t st o => simp only [SC.sub, SC.den, sub_v σ τ β]; rfl
  | nil => rfl
  | slice nm o l c => simp only [SC.sub, SC.den, sub_v σ τ β]; rfl
  | sliceQ nm b l c => simp only [SC.sub, SC.den, sub_v σ τ β]; rfl
  | snil => rfl
  | func f a c =>
    simp only [SC.sub, SC.den]
    rw [List.map_map, List.map_map]
    rfl
  | nilF => rfl
  | raw v => rfl
  | any i =>
    simp only [SC.sub]
    show _ = (match (τ.find? fun q => Nat.beq q.1 i) with | some q => q.2.den β | none => Vars.ω i)
    cases τ.find? fun q => Nat.beq q.1 i <;> rfl
end
/-! ### what is bound by a pattern: found, then held against -/
structure Mt where
  σ : List (Nat × Tm)
  τ : List (Nat × SC)
  ν : List (Nat × Nat)
def bdT (base : Nat) (m : Mt) (i : Nat) (t : Tm) : Mt :=
  bif Nat.blt i base then m else match lkT m.σ i with
  | some _ => m
  | none => match m with
    | ⟨σ, τ, ν⟩ => ⟨(i, t) :: σ, τ, ν⟩
def hasN : List (Nat × Nat) → Nat → Bool
  | [], _ => false
  | (j, _) :: r, i => bif Nat.beq j i then true else hasN r i
def bdN (m : Mt) (i j : Nat) : Mt :=
  bif hasN m.ν i then m else match m with
  | ⟨σ, τ, ν⟩ => ⟨σ, τ, (i, j) :: ν⟩
def bdA (m : Mt) (i : Nat) (c : SC) : Mt :=
  match (m.τ.find? fun q => Nat.beq q.1 i) with
  | some _ => m
  | none => match m with
    | ⟨σ, τ, ν⟩ => ⟨σ, (i, c) :: τ, ν⟩
def mtT (base : Nat) : Tm → Tm → Mt → Mt
  | .var i, t, m => bdT base m i t
  | .a1 f x, .a1 g y, m => bif Nat.beq f.code g.code then mtT base x y m else m
  | .a2 f x x', .a2 g y y', m => bif Nat.beq f.code g.code then mtT base x' y' (mtT base x y m) else m
  | _, _, m => m
def mtPs : List (Nat × Nat) → List (Nat × Nat) → Mt → Mt
  | (a, _) :: r, (b, _) :: s, m => mtPs r s (bdN m a b)
  | _, _, m => m
def mtC (base : Nat) : SC → SC → Mt → Mt
  | .int _ t, .int _ u, m => mtT base t u m
  | .bool t, .bool u, m => mtT base t u m
  | .ptr a _, .ptr b _, m => bdN m a b
  | .slice a _ l c, .slice b _ l' c', m => mtT base c c' (mtT base l l' (bdN m a b))
  | .sliceQ a o l c, .sliceQ b p l' c', m => mtT base c c' (mtT base l l' (mtT base o p (bdN m a b)))
  | .func _ a c, .func _ b d, m => mtPs c d (mtPs a b m)
  | .any i, c, m => bdA m i c
  | _, _, m => m
def mtCs (base : Nat) : List SC → List SC → Mt → Mt
  | x :: r, y :: s, m => mtCs base r s (mtC base x y m)
  | _, _, m => m
def mtNs : List Nat → List Nat → Mt → Mt
  | a :: r, b :: s, m => mtNs r s (bdN m a b)
  | _, _, m => m
/-- Objects that hold of less hold of more; what a pattern's terms are to be held against. -/
class Wk [Interp] [Rules] where
  weak : Pi → Nat → Tm → Tm → Bool
  weak_ok : ∀ [Vars] {π k x y}, facts π → weak π k x y = true → ∀ ns b h, Interp.ob k x.den ns b h → Interp.ob k y.den ns b h
  hint : Nat → Tm → Tm → List (Tm × Tm)
def mtPr (base : Nat) : List (Tm × Tm) → Mt → Mt
  | [], m => m
  | (x, y) :: r, m => mtPr base r (mtT base x y m)
def mtH [Interp] [Rules] [Wk] (base : Nat) : SH → SH → Mt → Mt
  | [], _, m => m
  | (nm, o) :: r, H, m =>
    match find H (lkN m.ν nm), o with
    | some (.cells l _), .cells l' _ => mtH base r H (mtCs base l' l m)
    | some (.abs _ x ns), .abs k x' ns' => mtH base r H (mtNs ns' ns (mtPr base (Wk.hint k x' x) m))
    | _, _ => m
def mtVs (base : Nat) : List (Nat × SV) → Frm → Mt → Mt
  | [], _, m => m
  | (i, v) :: r, f, m =>
    match v, f.get i with
    | .a (.one c), .a (.one d) => mtVs base r f (mtC base c d m)
    | .a (.agg c), .a (.agg d) => mtVs base r f (mtCs base c d m)
    | _, _ => mtVs base r f m
def csBeq : List SC → List SC → Bool
  | [], [] => true
  | x :: r, y :: s => bif SC.beq x y then csBeq r s else false
  | _, _ => false
theorem csBeq_eq : ∀ {r s : List SC}, csBeq r s = true → r = s
  | [], [], _ => rfl
  | [], _ :: _, h => by cases h
  | _ :: _, [], h => by cases h
  | a :: r, b :: s, h => by
    unfold csBeq at h
    rw [Bool.cond_eq_ite] at h
    split at h
    · rename_i hc; rw [SC.beq_eq hc, csBeq_eq h]
    · cases h
section
variable [Interp] [Rules] [Wk]
def chO (π : Pi) (m : Mt) (o' o : SO) : Bool :=
  match o', o with
  | .cells l' T', .cells l T => bif Nat.beq T' T then csBeq (l'.map (SC.sub m.σ m.τ m.ν)) l else false
  | .abs k' x' ns', .abs k x ns => bif Nat.beq k' k then (bif nsBeq (ns'.map (lkN m.ν)) ns then (bif Tm.beq (x'.sub m.σ) x then true else Wk.weak π k x (x'.sub m.σ)) else false) else false
  | _, _ => false
def chH (π : Pi) (m : Mt) : SH → SH → Option SH
  | [], H => some H
  | (nm, o') :: r, H =>
    match find H (lkN m.ν nm) with
    | some o => bif chO π m o' o then chH π m r (del H (lkN m.ν nm)) else none
    | none => none
def chV (m : Mt) (v' v : SV) : Bool :=
  match v', v with
  | .a (.one c), .a (.one d) => SC.beq (c.sub m.σ m.τ m.ν) d
  | .a (.agg c), .a (.agg d) => csBeq (c.map (SC.sub m.σ m.τ m.ν)) d
  | _, _ => false
/-- The same, or numbers that are known to be the same. -/
def chW (π : Pi) (m : Mt) (v' v : SV) : Bool :=
  bif chV m v' v then true else
  match v', v with
  | .a (.one (.int k' t')), .a (.one (.int k t)) => bif sameK k' k then pv π true (mkEq (t'.sub m.σ) t) else false
  | _, _ => false
def chVs (π : Pi) (m : Mt) : List (Nat × SV) → Frm → Bool
  | [], _ => true
  | (i, v) :: r, f => bif chW π m v (f.get i) then chVs π m r f else false
/-- Known, or proved. -/
def kn (π : Pi) (b : Bool) (t : Tm) : Bool :=
  match look π t with
  | some c => boolBeq c b
  | none => pv π b t
def chPi (π : Pi) (m : Mt) : Pi → Bool
  | [] => true
  | (c, b) :: r => bif kn π b (c.sub m.σ) then chPi π m r else false
variable [V : Vars]
theorem chO_ok {π : Pi} (hπ : facts π) {m : Mt} {o' o : SO} (h : chO π m o' o = true) (β : Bl) (b : Nat) : ∀ h, o.den β b h → @SO.den _ (subV m.σ m.τ β) (subN m.ν β) b o' h := by
  intro hp hh
  unfold chO at h
  split at h
  · rename_i l' T' l T
    rw [Bool.cond_eq_ite] at h
    split at h
    · rename_i hT
      have hT := Nat.eq_of_beq_eq_true hT
      have e := csBeq_eq h
      subst hT e
      have e2 : dens β (l'.map (SC.sub m.σ m.τ m.ν)) = @dens _ (subV m.σ m.τ β) (subN m.ν β) l' := by
        unfold dens
        rw [List.map_map]
        congr 1
        apply List.map_congr_left
        intro c _
        exact subC_den _ _ _ _ c
      show pt b (.cells (@dens _ (subV m.σ m.τ β) (subN m.ν β) l') T' (0, 0)) hp
      rw [← e2]; exact hh
    · cases h
  · rename_i k' x' ns' k x ns
    rw [Bool.cond_eq_ite] at h
    split at h
    · rename_i hk
      have hk := Nat.eq_of_beq_eq_true hk
      subst hk
      rw [Bool.cond_eq_ite] at h
      split at h
      · rename_i hn
        have hn := nsBeq_eq hn
        subst hn
        have e1 : (ns'.map (lkN m.ν)).map β = ns'.map (subN m.ν β) := by rw [List.map_map]; rfl
        have hh' : Interp.ob k' x.den (ns'.map (subN m.ν β)) b hp := by
          rw [← e1]; exact hh
        show Interp.ob k' (@Tm.den _ (subV m.σ m.τ β) x') (ns'.map (subN m.ν β)) b hp
        rw [← sub_den m.σ m.τ β x']
        rw [Bool.cond_eq_ite] at h
        split at h
        · rename_i hx
          rw [Tm.beq_eq hx]; exact hh'
        · exact Wk.weak_ok hπ h _ _ _ hh'
      · cases h
    · cases h
  · cases h
theorem chH_ok {π : Pi} (hπ : facts π) {m : Mt} {β : Bl} {w : World} {R : HProp} : ∀ {T H rest : SH}, chH π m T H = some rest → Holds w (hden β H * R) → Holds w (@hden _ (subV m.σ m.τ β) (subN m.ν β) T * (hden β rest * R))
  | [], H, rest, h, hw => by
    simp only [chH, Option.some.injEq] at h
    subst h
    refine hw.cast ?_
    show _ = emp * (hden β H * R)
    rw [star_empl]
  | (nm, o') :: r, H, rest, h, hw => by
    unfold chH at h
    split at h
    · rename_i o hf
      rw [Bool.cond_eq_ite] at h
      split at h
      · rename_i ho
        have h1 := focus hf hw
        have h2 : Holds w (@SO.den _ (subV m.σ m.τ β) (subN m.ν β) (β (lkN m.ν nm)) o' * (hden β (del H (lkN m.ν nm)) * R)) := h1.mono (star_mono (chO_ok hπ ho β _) fun _ x => x)
        have h3 := chH_ok hπ h (R := @SO.den _ (subV m.σ m.τ β) (subN m.ν β) (β (lkN m.ν nm)) o' * R) (h2.cast (by ac_rfl))
        refine h3.cast ?_
        show _ = (@SO.den _ (subV m.σ m.τ β) (subN m.ν β) (β (lkN m.ν nm)) o' * @hden _ (subV m.σ m.τ β) (subN m.ν β) r) * (hden β rest * R)
        ac_rfl
      · cases h
    · cases h
theorem chV_ok {m : Mt} {v' v : SV} (h : chV m v' v = true) (β : Bl) : v.den β = @SV.den _ (subV m.σ m.τ β) (subN m.ν β) v' ∧ v.isTop = false := by
  unfold chV at h
  split at h
  · rename_i c d
    refine ⟨?_, rfl⟩
    have e := SC.beq_eq h
    subst e
    exact subC_den _ _ _ _ c
  · rename_i c d
    refine ⟨?_, rfl⟩
    have e := csBeq_eq h
    subst e
    show Value.agg (dens β _) = .agg (@dens _ (subV m.σ m.τ β) (subN m.ν β) c)
    congr 1
    unfold dens
    rw [List.map_map]
    congr 1
    apply List.map_congr_left
    intro c _
    exact subC_den _ _ _ _ c
  · cases h
theorem chW_ok {π : Pi} (hπ : facts π) {m : Mt} {v' v : SV} (h : chW π m v' v = true) (β : Bl) : v.den β = @SV.den _ (subV m.σ m.τ β) (subN m.ν β) v' ∧ v.isTop = false := by
  unfold chW at h
  rw [Bool.cond_eq_ite] at h
  split at h
  · rename_i h1; exact chV_ok h1 β
  · split at h
    · rename_i k' t' k t _
      rw [Bool.cond_eq_ite] at h
      split at h
      · rename_i hk
        have hk := kCode_inj hk
        subst hk
        have h2 := pv_ok hπ h
        rw [mkEq_tv] at h2
        have h2 := of_decide_eq_true h2
        refine ⟨?_, rfl⟩
        show Value.int _ t.v = .int _ (@Tm.v _ (subV m.σ m.τ β) t')
        rw [← h2, sub_v m.σ m.τ β]
      · cases h
    · cases h
theorem kn_ok {π : Pi} (hπ : facts π) {b : Bool} {t : Tm} (h : kn π b t = true) : t.tv = b := by
  unfold kn at h
  split at h
  · rename_i c hc
    rw [look_ok hπ hc, boolBeq_eq h]
  · exact pv_ok hπ h
theorem chPi_ok {π : Pi} (hπ : facts π) {m : Mt} (β : Bl) : ∀ {l : Pi}, chPi π m l = true → @facts _ (subV m.σ m.τ β) l
  | [], _ => fun q hq => (by cases hq)
  | (c, b) :: r, h => by
    unfold chPi at h
    rw [Bool.cond_eq_ite] at h
    split at h
    · rename_i hc
      have h1 := kn_ok hπ hc
      rw [sub_tv m.σ m.τ β] at h1
      intro q hq
      rcases List.mem_cons.1 hq with rfl | hq
      · exact h1
      · exact chPi_ok hπ β h q hq
    · cases h
end
end Go.Proofs.Ytmmpnjcmaodkcaa.Ef
