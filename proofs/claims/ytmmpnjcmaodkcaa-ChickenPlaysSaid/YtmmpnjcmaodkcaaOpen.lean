/- What is proved: an argument that can be read, a slice of whole numbers or of values, is one as the walks want it. Conditions: that it can be read. -/
import Derived.Test.YtmmpnjcmaodkcaaRows
import Derived.Test.YtmmpnjcmaodkcaaIn
import Derived.Test.YtmmpnjcmaodkcaaNum
import Derived.ProofKit
import Derived.OpenShut
import Derived.Lib.SmallJoins
import Derived.Deep.Slices
import Derived.Carry
import Derived.ChangeOld
import Derived.SizedLaws
import Derived.ShutString
namespace Go.Proofs.Ytmmpnjcmaodkcaa.Mem
open Go Go.RowKit Go.ChangeShapes Go.WideShapes Go.ChangeAt Go.Joins Go.Deep
set_option maxRecDepth 100000
set_option linter.unusedVariables false
set_option linter.unusedSimpArgs false
theorem laidOut : laidOutB Try.prog = true := by kernel_rfl
theorem rng_i64 {n : Int} (h : (Lit.int .i64 n).wf = true) : -9223372036854775808 ≤ n ∧ n ≤ 9223372036854775807 := Num.of_i64 h
section
variable {H : Type} {enc : TypeId × Value → H} {W : World} {base : Nat} {d : DataW H} {p : List MemPlace} {v : Value}
theorem ints_cell {fuel : Nat} {x : DataW H × List MemPlace} (hf : DataW.trod enc Try.prog W 0 (fun _ => true) true fuel 23 [v] = some x) : ∃ xs, IntsAt W v xs := by
  rcases open_ints Try.underlying23 Try.underlying3 (by kernel_rfl) hf with ⟨hcs, _⟩ | ⟨x, len, cap, zs, hcs, _, hl, hm, hz, _, hcell, hwz⟩
  · simp [Value.cells] at hcs
    obtain ⟨rfl, rfl, rfl⟩ := hcs
    exact ⟨[], none, 0, rfl, by simp, Or.inl rfl⟩
  · simp [Value.cells] at hcs
    obtain ⟨rfl, rfl, rfl⟩ := hcs
    have hz' : zs.length = cap := by simpa using hz
    refine ⟨zs.take len, some x, cap, by rw [List.length_take, hz', Nat.min_eq_left hl], fun y hy => rng_i64 (hwz y (List.mem_of_mem_take hy)), ?_⟩
    rcases Nat.eq_zero_or_pos len with h0 | h0
    · left; rw [h0]; rfl
    · right
      obtain ⟨b, off, rfl, hc⟩ := ints_at hcell (by omega)
      refine ⟨b, off, rfl, fun i hi => ?_⟩
      rw [List.length_take, hz', Nat.min_eq_left hl] at hi
      rw [hc i (by omega)]
      simp [List.getD_eq_getElem?_getD, List.getElem?_take, hi]
theorem ints_of {r : Reach} (hv : Value.okWide Try.prog W r base 23 v) (h : DataW.Trod enc Try.prog W 0 (fun _ => true) true 23 v d p) : ∃ xs, IntsAt W v xs := by
  obtain ⟨a0, len, cap, rfl⟩ := okWide_slice Try.underlying23 hv
  obtain ⟨fuel, hf⟩ := h
  exact ints_cell hf
theorem cells_two {w : World} {base : Nat} {a : Addr} {cs : List Value} (h : w.cells? base a 2 = some cs) : ∃ c0 c1, cs = [c0, c1] ∧ w.cell? a = some c0 ∧ w.cell? (a.add 1) = some c1 := by
  unfold World.cells? at h
  split at h
  · rw [show List.range 2 = [0, 1] from rfl] at h
    rw [List.mapM_cons, List.mapM_cons, List.mapM_nil] at h
    cases h0 : w.cell? (a.add 0) with
    | none => rw [h0] at h; simp at h
    | some c0 =>
      cases h1 : w.cell? (a.add 1) with
      | none => rw [h0, h1] at h; simp at h
      | some c1 =>
        rw [h0, h1] at h
        refine ⟨c0, c1, ?_, by simpa [Addr.add] using h0, rfl⟩
        simpa using h.symm
  · cases h
theorem val_of {w : World} {fuel : Nat} {cs : List Value} {x : DataW H × List MemPlace} {bs : Nat} {sp : Nat → Bool} {hd : Bool} (h : DataW.trod enc Try.prog w bs sp hd fuel 33 cs = some x) : ∃ k n : Int, cs = [.int .i64 k, .int .i64 n] ∧ (Lit.int .i64 k).wf = true ∧ (Lit.int .i64 n).wf = true := by
  obtain ⟨y0, y1, m, _, hl, h0, h1⟩ := trod_struct2 Try.underlying33 h
  have hc : Try.prog.cellsOf 33 = 2 := by kernel_rfl
  have hi : Try.prog.cellsOf 3 = 1 := by kernel_rfl
  rw [hc] at hl
  obtain ⟨c0, c1, rfl⟩ : ∃ a b, cs = [a, b] := by
    match cs, hl with
    | [a, b], _ => exact ⟨a, b, rfl⟩
  obtain ⟨k, e0, _, w0⟩ := DataW.trod_int Try.underlying3 h0
  obtain ⟨n, e1, _, w1⟩ := DataW.trod_int Try.underlying3 h1
  simp [hi] at e0 e1
  subst e0 e1
  exact ⟨k, n, rfl, w0, w1⟩
theorem vals_cell {fuel : Nat} {x : DataW H × List MemPlace} (hf : DataW.trod enc Try.prog W 0 (fun _ => true) true fuel 22 [v] = some x) : ∃ xs, ValsAt W v xs := by
  have hc : Try.prog.cellsOf 33 = 2 := by kernel_rfl
  rcases open_slice Try.underlying22 hf with ⟨hcs, _⟩ | ⟨a, len, cap, m, n, D, Pl, hcs, _, hl, hm, hmm, _, hel⟩
  · simp [Value.cells] at hcs
    obtain ⟨rfl, rfl, rfl⟩ := hcs
    exact ⟨[], none, 0, rfl, by simp, Or.inl rfl⟩
  · simp [Value.cells] at hcs
    obtain ⟨rfl, rfl, rfl⟩ := hcs
    have hm' : m = cap := by simpa using hmm
    subst hm'
    rw [hc] at hel
    have key : ∀ i, i < len → ∃ q : Int × Int, W.cell? (a.add (i * 2)) = some (.int .i64 q.1) ∧ W.cell? ((a.add (i * 2)).add 1) = some (.int .i64 q.2) ∧ (Lit.int .i64 q.1).wf = true ∧ (Lit.int .i64 q.2).wf = true := by
      intro i hi
      obtain ⟨cs', h1, h2⟩ := hel i (by omega)
      obtain ⟨c0, c1, rfl, g0, g1⟩ := cells_two h1
      obtain ⟨k, n', e, w0, w1⟩ := val_of h2
      simp at e
      obtain ⟨rfl, rfl⟩ := e
      exact ⟨(k, n'), g0, g1, w0, w1⟩
    obtain ⟨q, hq⟩ : ∃ q : Nat → Int × Int, ∀ i, i < len → W.cell? (a.add (i * 2)) = some (.int .i64 (q i).1) ∧ W.cell? ((a.add (i * 2)).add 1) = some (.int .i64 (q i).2) ∧ (Lit.int .i64 (q i).1).wf = true ∧ (Lit.int .i64 (q i).2).wf = true := by
      refine ⟨fun i => if h : i < len then Classical.choose (key i h) else (0, 0), fun i hi => ?_⟩
      have e : (if h : i < len then Classical.choose (key i h) else (0, 0)) = Classical.choose (key i hi) := dif_pos hi
      simp only [e]
      exact Classical.choose_spec (key i hi)
    refine ⟨(List.range len).map q, some a, m, by simp, fun x hx => ?_, ?_⟩
    · obtain ⟨i, hi, rfl⟩ := List.mem_map.1 hx
      have := hq i (by simpa using hi)
      exact ⟨rng_i64 this.2.2.1, rng_i64 this.2.2.2⟩
    · rcases Nat.eq_zero_or_pos len with h0 | h0
      · left; rw [h0]; rfl
      · right
        obtain ⟨b, off, spot⟩ := a
        have hspot : spot = none := by simpa [Addr.add] using World.cell?_spot (hq 0 h0).1
        subst hspot
        refine ⟨b, off, rfl, fun i hi => ?_⟩
        have hi' : i < len := by simpa using hi
        have e : ((List.range len).map q).getD i (0, 0) = q i := by simp [List.getD_eq_getElem?_getD, hi']
        rw [e]
        have := hq i hi'
        rw [add_plain] at this
        refine ⟨this.1, ?_⟩
        have h2 := this.2.1
        rwa [add_plain] at h2
theorem vals_of {r : Reach} (hv : Value.okWide Try.prog W r base 22 v) (h : DataW.Trod enc Try.prog W 0 (fun _ => true) true 22 v d p) : ∃ xs, ValsAt W v xs := by
  obtain ⟨a0, len, cap, rfl⟩ := okWide_slice Try.underlying22 hv
  obtain ⟨fuel, hf⟩ := h
  exact vals_cell hf
end
end Go.Proofs.Ytmmpnjcmaodkcaa.Mem
