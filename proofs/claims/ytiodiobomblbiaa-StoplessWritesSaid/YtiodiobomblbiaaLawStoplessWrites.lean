/- What is proved: alone, a write is where the field is then: the original below ModeClose if it is not frozen, else the pair; from ModeClose on the final copy; the final copy always, if the field is shut or there. Conditions: none but that the arguments can be read. -/
import Derived.Test.YtiodiobomblbiaaOpen
import Derived.Test.YtiodiobomblbiaaOpenC
import Derived.Test.YtiodiobomblbiaaStoplessWritesW
namespace Go.Proofs.Ytiodiobomblbiaa.stoplessWrites
open Go Go.RowKit Go.ChangeShapes Go.WideShapes Go.ChangeAt Go.Joins Go.Proofs.Ytiodiobomblbiaa.Mem
set_option linter.unusedVariables false
theorem own : ownKnob Try.prog.godebug = none := by kernel_rfl
set_option maxRecDepth 100000 in
theorem lifted (os : Os) (started : os.Started) (H : Type) (enc : TypeId × Value → H) :
    ReturnsInHanded {} Try.checked os 5 .any (Rows.stoplessWritesSpec.pre6 enc Try.prog Try.f5 Rows.stoplessWritesRow.domain false) (Rows.stoplessWritesSpec.post enc Try.prog Try.f5 false true false false) := by
  refine returnsInHanded_of_change_sized (C := Try.checked) own started (by kernel_rfl) Try.func5
    (ChangeSpec.witness6 (enc := enc) (C := Try.checked) false ⟨#[], #[.agg #[.int .i64 0, .slice none 0 0, .slice none 0 0], .agg #[.int .i64 0, .int .i64 0, .int .i64 0, .int .i64 0, .int .i64 0, .int .i64 0, .int .i64 0, .int .i64 0, .int .i64 0, .int .i64 0, .int .i64 0, .int .i64 0, .int .i64 0, .int .i64 0, .int .i64 0]], []⟩ 8 (by kernel_rfl) (by kernel_rfl) (by kernel_rfl) (by kernel_rfl)) ?_
  intro W base args ds gs before hval0 hW hcnd hsz0 _
  clear hcnd hsz0
  have hval : ∀ (j : Nat) t v, Try.f5.params[j]? = some t → args[j]? = some v → Value.okWide Try.prog W .any base t v := hval0
  have hW' := hW
  obtain ⟨p, q, hA0, hV, rfl, _, _⟩ := hW
  have hA : DataW.TrodAll enc Try.prog W 0 (fun _ => true) true Try.f5.params.toList args.toList ds p := hA0
  rw [Try.params5] at hA hval
  obtain ⟨v0, vs0, d0, ds0, p0, q0, hargs, rfl, rfl, h0, r0⟩ := trodAll_cons hA
  obtain ⟨v1, vs1, d1, ds1, p1, q1, rfl, rfl, rfl, h1, r1⟩ := trodAll_cons r0
  obtain ⟨rfl, rfl, rfl⟩ := trodAll_nil r1
  obtain rfl : args = #[v0, v1] := by cases args; simp_all
  obtain ⟨rfl, rfl⟩ := trodVars_none hV
  have lt0 : ∀ x ∈ p0, x.block < W.heap.size := by obtain ⟨m, hm⟩ := h0; exact DataW.trod_lt m _ _ _ hm
  have k0 := h0
  have o0 := hval 0 28 v0 rfl rfl
  obtain ⟨c0_0, c1_0, c2_0, y0_0, y1_0, y2_0, m_0, rfl, rfl, rfl, hy0_0, hy1_0, hy2_0⟩ := open_agg3 Try.underlying28 (by kernel_rfl) (by kernel_rfl) o0 h0
  obtain ⟨a100, q100, rfl, w100⟩ := DataW.trod_int Try.underlying3 hy0_0
  simp at q100
  subst q100
  obtain ⟨xs101, n101, w101⟩ := flats_cell (st := 1) Try.underlying24 (by kernel_rfl) (by kernel_rfl) (by omega) hy1_0
  obtain ⟨xs102, n102, w102⟩ := flats_cell (st := 2) Try.underlying22 (by kernel_rfl) (by kernel_rfl) (by omega) hy2_0
  have lt1 : ∀ x ∈ p1, x.block < W.heap.size := by obtain ⟨m, hm⟩ := h1; exact DataW.trod_lt m _ _ _ hm
  have k1 := h1
  have o1 := hval 1 65 v1 rfl rfl
  obtain ⟨xs1, w1⟩ := flat_struct (n := 15) Try.underlying65 (by kernel_rfl) (by kernel_rfl) o1 h1
  clear hA0 hval0 hval hA
  refine (Go.Proofs.Ytiodiobomblbiaa.Ef.stoplessWrites.stoplessWrites_walk W a100 (rng_i64 w100) _ xs101 n101 w101 _ xs102 n102 w102 v1 xs1 w1).mono fun e W' ⟨he, bel⟩ => ?_
  subst he
  exact ⟨_, rfl, _, _, _, [], _, [], hW', trodAll_mk1 (shut_bool Try.underlying4 _), (trodAll_cons_mk (Below.trod laidOut (by kernel_rfl) (of_decide_eq_true (by kernel_rfl)) k0 bel lt0) (trodAll_cons_mk (Below.trod laidOut (by kernel_rfl) (of_decide_eq_true (by kernel_rfl)) k1 bel lt1) trodAll_mk0)), rfl, bel.frame _, fun h => by cases h⟩
theorem over : Rows.stoplessWritesRow.holds Try.pinned (OpenSpec.ofChange Rows.stoplessWritesSpec) :=
  OpenClaim.holds_of_wide 5 Try.f5 rfl rfl rfl rfl rfl rfl rfl ⟨rfl, rfl, rfl, rfl, rfl⟩ rfl rfl rfl rfl rfl (by kernel_rfl) Try.func5 (by kernel_rfl)
    (of_decide_eq_true (by kernel_rfl)) (by unfold Func.isWrapper; first | (rw [if_pos (by decide +kernel)]; kernel_rfl) | (rw [if_neg (by decide +kernel)]; exact ⟨rfl, rfl⟩))
    (fun os started H enc _ => lifted os started H enc)
end Go.Proofs.Ytiodiobomblbiaa.stoplessWrites
namespace Go.Proofs.Ytiodiobomblbiaa
/-- The statement as it is given. -/
theorem stoplessWrites_holds : Rows.StoplessWritesSaid := stoplessWrites.over
#print axioms stoplessWrites_holds
end Go.Proofs.Ytiodiobomblbiaa
