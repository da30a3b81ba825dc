/- What is proved: accesses of three threads do what the document says, step by step, with its hits and results, while headers are laid down Conditions: none but that the arguments can be read. -/
import Derived.Test.YtmmpnjcmaodkcaaOpen
import Derived.Test.YtmmpnjcmaodkcaaOpenC
import Derived.Test.YtmmpnjcmaodkcaaChickenPlaysW
namespace Go.Proofs.Ytmmpnjcmaodkcaa.chickenPlays
open Go Go.RowKit Go.ChangeShapes Go.WideShapes Go.ChangeAt Go.Joins Go.Proofs.Ytmmpnjcmaodkcaa.Mem
set_option linter.unusedVariables false
theorem own : ownKnob Try.prog.godebug = none := by kernel_rfl
set_option maxRecDepth 100000 in
theorem lifted (os : Os) (started : os.Started) (H : Type) (enc : TypeId × Value → H) :
    ReturnsInHanded {} Try.checked os 7 .any (Rows.chickenPlaysSpec.pre6 enc Try.prog Try.f7 Rows.chickenPlaysRow.domain false) (Rows.chickenPlaysSpec.post enc Try.prog Try.f7 false true false false) := by
  refine returnsInHanded_of_change_sized (C := Try.checked) own started (by kernel_rfl) Try.func7
    (ChangeSpec.witness6 (enc := enc) (C := Try.checked) false ⟨#[], #[.agg #[.int .i64 0, .slice none 0 0], .slice none 0 0, .slice none 0 0], []⟩ 8 (by kernel_rfl) (by kernel_rfl) (by kernel_rfl) (by kernel_rfl)) ?_
  intro W base args ds gs before hval0 hW hcnd hsz0 _
  clear hcnd hsz0
  have hval : ∀ (j : Nat) t v, Try.f7.params[j]? = some t → args[j]? = some v → Value.okWide Try.prog W .any base t v := hval0
  have hW' := hW
  obtain ⟨p, q, hA0, hV, rfl, _, _⟩ := hW
  have hA : DataW.TrodAll enc Try.prog W 0 (fun _ => true) true Try.f7.params.toList args.toList ds p := hA0
  rw [Try.params7] at hA hval
  obtain ⟨v0, vs0, d0, ds0, p0, q0, hargs, rfl, rfl, h0, r0⟩ := trodAll_cons hA
  obtain ⟨v1, vs1, d1, ds1, p1, q1, rfl, rfl, rfl, h1, r1⟩ := trodAll_cons r0
  obtain ⟨v2, vs2, d2, ds2, p2, q2, rfl, rfl, rfl, h2, r2⟩ := trodAll_cons r1
  obtain ⟨rfl, rfl, rfl⟩ := trodAll_nil r2
  obtain rfl : args = #[v0, v1, v2] := by cases args; simp_all
  obtain ⟨rfl, rfl⟩ := trodVars_none hV
  have lt0 : ∀ x ∈ p0, x.block < W.heap.size := by obtain ⟨m, hm⟩ := h0; exact DataW.trod_lt m _ _ _ hm
  have k0 := h0
  have o0 := hval 0 68 v0 rfl rfl
  obtain ⟨c0_0, c1_0, y0_0, y1_0, m_0, rfl, rfl, rfl, hy0_0, hy1_0⟩ := open_agg2 Try.underlying68 (by kernel_rfl) (by kernel_rfl) o0 h0
  obtain ⟨a100, q100, rfl, w100⟩ := DataW.trod_int Try.underlying3 hy0_0
  simp at q100
  subst q100
  obtain ⟨xs101, n101, w101⟩ := flats_cell (st := 2) Try.underlying22 (by kernel_rfl) (by kernel_rfl) (by omega) hy1_0
  have lt1 : ∀ x ∈ p1, x.block < W.heap.size := by obtain ⟨m, hm⟩ := h1; exact DataW.trod_lt m _ _ _ hm
  have k1 := h1
  have o1 := hval 1 69 v1 rfl rfl
  obtain ⟨xs1, n1, w1⟩ := flats_of (st := 15) Try.underlying69 (by kernel_rfl) (by kernel_rfl) (by omega) o1 h1
  have lt2 : ∀ x ∈ p2, x.block < W.heap.size := by obtain ⟨m, hm⟩ := h2; exact DataW.trod_lt m _ _ _ hm
  have k2 := h2
  have o2 := hval 2 23 v2 rfl rfl
  obtain ⟨xs2, n2, w2⟩ := flats_of (st := 1) Try.underlying23 (by kernel_rfl) (by kernel_rfl) (by omega) o2 h2
  clear hA0 hval0 hval hA
  refine (Go.Proofs.Ytmmpnjcmaodkcaa.Ef.chickenPlays.chickenPlays_walk W a100 (rng_i64 w100) _ xs101 n101 w101 v1 xs1 n1 w1 v2 xs2 n2 w2).mono fun e W' ⟨he, bel⟩ => ?_
  subst he
  exact ⟨_, rfl, _, _, _, [], _, [], hW', trodAll_mk1 (shut_bool Try.underlying4 _), (trodAll_cons_mk (Below.trod laidOut (by kernel_rfl) (of_decide_eq_true (by kernel_rfl)) k0 bel lt0) (trodAll_cons_mk (Below.trod laidOut (by kernel_rfl) (of_decide_eq_true (by kernel_rfl)) k1 bel lt1) (trodAll_cons_mk (Below.trod laidOut (by kernel_rfl) (of_decide_eq_true (by kernel_rfl)) k2 bel lt2) trodAll_mk0))), rfl, bel.frame _, fun h => by cases h⟩
theorem over : Rows.chickenPlaysRow.holds Try.pinned (OpenSpec.ofChange Rows.chickenPlaysSpec) :=
  OpenClaim.holds_of_wide 7 Try.f7 rfl rfl rfl rfl rfl rfl rfl ⟨rfl, rfl, rfl, rfl, rfl⟩ rfl rfl rfl rfl rfl (by kernel_rfl) Try.func7 (by kernel_rfl)
    (of_decide_eq_true (by kernel_rfl)) (by unfold Func.isWrapper; first | (rw [if_pos (by decide +kernel)]; kernel_rfl) | (rw [if_neg (by decide +kernel)]; exact ⟨rfl, rfl⟩))
    (fun os started H enc _ => lifted os started H enc)
end Go.Proofs.Ytmmpnjcmaodkcaa.chickenPlays
namespace Go.Proofs.Ytmmpnjcmaodkcaa
/-- The statement as it is given. -/
theorem chickenPlays_holds : Rows.ChickenPlaysSaid := chickenPlays.over
#print axioms chickenPlays_holds
end Go.Proofs.Ytmmpnjcmaodkcaa
