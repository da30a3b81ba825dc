/- What is proved: a Swap that knows of moved objects is done just if the field names the object that is expected, wherever either stands. Conditions: none but that the arguments can be read. -/
import Derived.Test.YtfapicccijbanaaOpen
import Derived.Test.YtfapicccijbanaaCanWalk
namespace Go.Proofs.Ytfapicccijbanaa.directCanon
open Go Go.RowKit Go.ChangeShapes Go.WideShapes Go.ChangeAt Go.Joins Go.Proofs.Ytfapicccijbanaa.Mem
set_option linter.unusedVariables false
theorem own : ownKnob Try.prog.godebug = none := by kernel_rfl
set_option maxRecDepth 100000 in
theorem lifted (os : Os) (started : os.Started) (H : Type) (enc : TypeId × Value → H) :
    ReturnsInHanded {} Try.checked os 6 .any (Rows.directCanonSpec.pre6 enc Try.prog Try.f6 Rows.directCanonRow.domain false) (Rows.directCanonSpec.post enc Try.prog Try.f6 false true false false) := by
  refine returnsInHanded_of_change_sized (C := Try.checked) own started (by kernel_rfl) Try.func6
    (ChangeSpec.witness6 (enc := enc) (C := Try.checked) false ⟨#[], #[.agg #[.slice none 0 0, .slice none 0 0], .agg #[.int .i64 0, .int .i64 0], .agg #[.int .i64 0, .int .i64 0]], []⟩ 8 (by kernel_rfl) (by kernel_rfl) (by kernel_rfl) (by kernel_rfl)) ?_
  intro W base args ds gs before hval0 hW hcnd hsz0 _
  clear hcnd hsz0
  have hval : ∀ (j : Nat) t v, Try.f6.params[j]? = some t → args[j]? = some v → Value.okWide Try.prog W .any base t v := hval0
  have hW' := hW
  obtain ⟨p, q, hA0, hV, rfl, _, _⟩ := hW
  have hA : DataW.TrodAll enc Try.prog W 0 (fun _ => true) true Try.f6.params.toList args.toList ds p := hA0
  rw [Try.params6] at hA hval
  obtain ⟨v0, vs0, d0, ds0, p0, q0, hargs, rfl, rfl, h0, r0⟩ := trodAll_cons hA
  obtain ⟨v1, vs1, d1, ds1, p1, q1, rfl, rfl, rfl, h1, r1⟩ := trodAll_cons r0
  obtain ⟨v2, vs2, d2, ds2, p2, q2, rfl, rfl, rfl, h2, r2⟩ := trodAll_cons r1
  obtain ⟨rfl, rfl, rfl⟩ := trodAll_nil r2
  obtain rfl : args = #[v0, v1, v2] := by cases args; simp_all
  obtain ⟨rfl, rfl⟩ := trodVars_none hV
  have lt0 : ∀ x ∈ p0, x.block < W.heap.size := by obtain ⟨m, hm⟩ := h0; exact DataW.trod_lt m _ _ _ hm
  have k0 := h0
  have o0 := hval 0 66 v0 rfl rfl
  obtain ⟨c0_0, c1_0, y0_0, y1_0, m_0, rfl, rfl, rfl, hy0_0, hy1_0⟩ := open_agg2 Try.underlying66 (by kernel_rfl) (by kernel_rfl) o0 h0
  obtain ⟨xs0, w0⟩ := ints_cell hy0_0
  obtain ⟨ys0, u0⟩ := vals_cell hy1_0
  have lt1 : ∀ x ∈ p1, x.block < W.heap.size := by obtain ⟨m, hm⟩ := h1; exact DataW.trod_lt m _ _ _ hm
  have k1 := h1
  have o1 := hval 1 24 v1 rfl rfl
  obtain ⟨c0_1, c1_1, y0_1, y1_1, m_1, rfl, rfl, rfl, hy0_1, hy1_1⟩ := open_agg2 Try.underlying24 (by kernel_rfl) (by kernel_rfl) o1 h1
  obtain ⟨xs1, e0_1, rfl, w1⟩ := DataW.trod_int Try.underlying3 hy0_1
  obtain ⟨ys1, e1_1, rfl, u1⟩ := DataW.trod_int Try.underlying3 hy1_1
  simp at e0_1 e1_1
  subst e0_1 e1_1
  have lt2 : ∀ x ∈ p2, x.block < W.heap.size := by obtain ⟨m, hm⟩ := h2; exact DataW.trod_lt m _ _ _ hm
  have k2 := h2
  have o2 := hval 2 24 v2 rfl rfl
  obtain ⟨c0_2, c1_2, y0_2, y1_2, m_2, rfl, rfl, rfl, hy0_2, hy1_2⟩ := open_agg2 Try.underlying24 (by kernel_rfl) (by kernel_rfl) o2 h2
  obtain ⟨xs2, e0_2, rfl, w2⟩ := DataW.trod_int Try.underlying3 hy0_2
  obtain ⟨ys2, e1_2, rfl, u2⟩ := DataW.trod_int Try.underlying3 hy1_2
  simp at e0_2 e1_2
  subst e0_2 e1_2
  clear hA0 hval0 hval hA
  refine (directCanon_walk W c0_0 c1_0 xs0 ys0 xs1 ys1 xs2 ys2 w0 u0 (rng_i64 w1) (rng_i64 u1) (rng_i64 w2) (rng_i64 u2)).mono fun e W' ⟨he, bel⟩ => ?_
  subst he
  exact ⟨_, rfl, _, _, _, [], _, [], hW', trodAll_mk1 (shut_bool Try.underlying4 _), (trodAll_cons_mk (Below.trod laidOut (by kernel_rfl) (of_decide_eq_true (by kernel_rfl)) k0 bel lt0) (trodAll_cons_mk (Below.trod laidOut (by kernel_rfl) (of_decide_eq_true (by kernel_rfl)) k1 bel lt1) (trodAll_cons_mk (Below.trod laidOut (by kernel_rfl) (of_decide_eq_true (by kernel_rfl)) k2 bel lt2) trodAll_mk0))), rfl, bel.frame _, fun h => by cases h⟩
theorem over : Rows.directCanonRow.holds Try.pinned (OpenSpec.ofChange Rows.directCanonSpec) :=
  OpenClaim.holds_of_wide 6 Try.f6 rfl rfl rfl rfl rfl rfl rfl ⟨rfl, rfl, rfl, rfl, rfl⟩ rfl rfl rfl rfl rfl (by kernel_rfl) Try.func6 (by kernel_rfl)
    (of_decide_eq_true (by kernel_rfl)) (by unfold Func.isWrapper; first | (rw [if_pos (by decide +kernel)]; kernel_rfl) | (rw [if_neg (by decide +kernel)]; exact ⟨rfl, rfl⟩))
    (fun os started H enc _ => lifted os started H enc)
end Go.Proofs.Ytfapicccijbanaa.directCanon
namespace Go.Proofs.Ytfapicccijbanaa
/-- The statement as it is given. -/
theorem directCanon_holds : Rows.DirectCanonSaid := directCanon.over
#print axioms directCanon_holds
end Go.Proofs.Ytfapicccijbanaa
