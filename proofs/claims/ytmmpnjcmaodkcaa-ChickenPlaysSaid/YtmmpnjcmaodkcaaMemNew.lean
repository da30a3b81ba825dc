/- What is proved: contracts of mem.New and flitref04.New: a memory of n words of nought. Conditions: 1 to 4096 words. -/
import Derived.Test.YtmmpnjcmaodkcaaMem
import Derived.Laws.MakeOwn
namespace Go.Proofs.Ytmmpnjcmaodkcaa.Mem
open Go Go.RowKit Go.Proofs.Ytmmpnjcmaodkcaa.Sep
set_option maxRecDepth 100000
set_option linter.unusedVariables false
set_option linter.unusedSimpArgs false
theorem info48 : (Try.prog.info? 38).map (fun i => (i.zero, i.size, i.bytes)) = some (some (.int .u64 0), 1, 8) := by kernel_rfl
def zeros (n : Nat) : List Int := List.replicate n 0
def MS.new (n : Nat) : MS := ⟨zeros n, 0, 0, 0⟩
theorem new_ok (n : Nat) (h : n ≤ 4096) : (MS.new n).ok := by
  refine ⟨by simp [MS.new, zeros]; omega, fun x hx => ?_, by simp [MS.new], by simp [MS.new], by simp [MS.new]⟩
  have : x = 0 := by simpa [MS.new, zeros] using (List.eq_of_mem_replicate hx)
  omega
theorem made_zeros (n : Nat) : madeCells #[Value.int .u64 0] (n * 1) = W (zeros n) := by
  unfold madeCells W zeros
  apply Array.ext
  · simp
  · intro i h1 h2; simp [Nat.mod_one]
theorem make_run (n : Nat) (h : n ≤ 4096) (w : World) :
    (Instr.makeSlice 47 (.int .i64 (n : Int)) (.int .i64 (n : Int))).run Try.prog w = .ok (.slice (some ⟨w.heap.size, 0, none⟩) n n) (w.alloc (.cells (W (zeros n)) 38)) := by
  obtain ⟨i0, hi, hz0, hz1, hz2⟩ := info_parts info48
  have := run_make (P := Try.prog) w 47 38 i0 (.int .u64 0) Try.underlying47 hi hz0 .i64 .i64 n n (by omega) (by omega) (by rw [hz2]; omega) (by omega)
  rw [hz1] at this
  simp only [Int.toNat_natCast, Value.cells, made_zeros] at this
  exact this
set_option maxHeartbeats 1000000 in
theorem memNew_calls (w : World) (R : HProp) (n : Nat) (h0 : 1 ≤ n) (h : n ≤ 4096) (H : Holds w R) :
    Calls Try.prog 32 #[.int .i64 (n : Int)] w fun e w' => ∃ mb, e = .returned (.tuple #[.pointer (some ⟨mb, 0, none⟩), .int .i64 0]) ∧ Holds w' (MemP 101 mb (MS.new n) * R) ∧ Strm w w' := by
  have hmk := make_run n h
  have H2 := (H.alloc (.cells (W (zeros n)) 38)).alloc (.cells #[.slice (some ⟨w.heap.size, 0, none⟩) n n, .int .i64 0, .int .i64 0, .slice none 0 0] 101)
  clear H
  go_enter Try.func32, Try.ntmps32
  go_wp2_with fail
  go_ret2
  refine ⟨w.heap.size + 1, rfl, ?_, ((Strm.refl w).alloc _).alloc _⟩
  refine memP_close (wb := w.heap.size) (tv := .slice none 0 0) (xs := []) ?_
  have hz : (MS.new n).ws.length = n := by simp [MS.new, zeros]
  rw [hz]
  have e : ∀ R, (Row 128 3 (.slice none 0 0) 0 [] * R) = (Row 128 3 (.slice none 0 0) 0 [] * R) := fun _ => rfl
  refine (H2.cast (star_emp _).symm).mono ?_
  intro h hh
  have hh2 : ((pt (w.heap.size + 1) (.cells #[.slice (some ⟨w.heap.size, 0, none⟩) n n, .int .i64 0, .int .i64 0, .slice none 0 0] 101 (0, 0)) * (pt w.heap.size (.cells (W (zeros n)) 38 (0, 0)) * (emp * R)))) h := by
    have : ((pt (w.alloc (.cells (W (zeros n)) 38)).heap.size (.cells #[.slice (some ⟨w.heap.size, 0, none⟩) n n, .int .i64 0, .int .i64 0, .slice none 0 0] 101) * (pt w.heap.size (.cells (W (zeros n)) 38) * R)) * emp) = ((pt (w.heap.size + 1) (.cells #[.slice (some ⟨w.heap.size, 0, none⟩) n n, .int .i64 0, .int .i64 0, .slice none 0 0] 101 (0, 0)) * (pt w.heap.size (.cells (W (zeros n)) 38 (0, 0)) * (emp * R)))) := by
      simp only [World.size_alloc]; ac_rfl
    rw [← this]; exact hh
  exact star_mono (fun _ a => a) (star_mono (fun _ a => a) (star_mono (fun h _ => row_nil _ _ h) (fun _ a => a))) h hh2
set_option maxHeartbeats 1000000 in
theorem refNew_calls (w : World) (R : HProp) (n : Nat) (h0 : 1 ≤ n) (h : n ≤ 4096) (H : Holds w R) :
    Calls Try.prog 33 #[.int .i64 (n : Int)] w fun e w' => ∃ mb, e = .returned (.tuple #[.pointer (some ⟨mb, 0, none⟩), .int .i64 0]) ∧ Holds w' (MemP 50 mb (MS.new n) * R) ∧ Strm w w' := by
  have hmk := make_run n h
  have H2 := (H.alloc (.cells (W (zeros n)) 38)).alloc (.cells #[.slice (some ⟨w.heap.size, 0, none⟩) n n, .int .i64 0, .int .i64 0, .slice none 0 0] 50)
  clear H
  go_enter Try.func33, Try.ntmps33
  go_wp2_with fail
  go_ret2
  refine ⟨w.heap.size + 1, rfl, ?_, ((Strm.refl w).alloc _).alloc _⟩
  refine memP_close (wb := w.heap.size) (tv := .slice none 0 0) (xs := []) ?_
  have hz : (MS.new n).ws.length = n := by simp [MS.new, zeros]
  rw [hz]
  have e : ∀ R, (Row 128 3 (.slice none 0 0) 0 [] * R) = (Row 128 3 (.slice none 0 0) 0 [] * R) := fun _ => rfl
  refine (H2.cast (star_emp _).symm).mono ?_
  intro h hh
  have hh2 : ((pt (w.heap.size + 1) (.cells #[.slice (some ⟨w.heap.size, 0, none⟩) n n, .int .i64 0, .int .i64 0, .slice none 0 0] 50 (0, 0)) * (pt w.heap.size (.cells (W (zeros n)) 38 (0, 0)) * (emp * R)))) h := by
    have : ((pt (w.alloc (.cells (W (zeros n)) 38)).heap.size (.cells #[.slice (some ⟨w.heap.size, 0, none⟩) n n, .int .i64 0, .int .i64 0, .slice none 0 0] 50) * (pt w.heap.size (.cells (W (zeros n)) 38) * R)) * emp) = ((pt (w.heap.size + 1) (.cells #[.slice (some ⟨w.heap.size, 0, none⟩) n n, .int .i64 0, .int .i64 0, .slice none 0 0] 50 (0, 0)) * (pt w.heap.size (.cells (W (zeros n)) 38 (0, 0)) * (emp * R)))) := by
      simp only [World.size_alloc]; ac_rfl
    rw [← this]; exact hh
  exact star_mono (fun _ a => a) (star_mono (fun _ a => a) (star_mono (fun h _ => row_nil _ _ h) (fun _ a => a))) h hh2
end Go.Proofs.Ytmmpnjcmaodkcaa.Mem
