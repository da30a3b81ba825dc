/- What is proved: a write is not lost, while the object is copied, and other fields stay: whenever its steps come between the copier's; also if it writes the sentinel, if the copier comes to its end Conditions: none but that the arguments can be read. -/
import Derived.Test.YtkelfdnhgdjaaaaOpen
import Derived.Test.YtkelfdnhgdjaaaaOpenC
import Derived.Test.YtkelfdnhgdjaaaaCloverKeepsW
namespace Go.Proofs.Ytkelfdnhgdjaaaa.cloverKeeps
open Go Go.RowKit Go.ChangeShapes Go.WideShapes Go.ChangeAt Go.Joins Go.Proofs.Ytkelfdnhgdjaaaa.Mem
set_option linter.unusedVariables false
theorem own : ownKnob Try.prog.godebug = none := by kernel_rfl
set_option maxRecDepth 100000 in
theorem lifted (os : Os) (started : os.Started) (H : Type) (enc : TypeId × Value → H) :
    ReturnsInHanded {} Try.checked os 5 .any (Rows.cloverKeepsSpec.pre6 enc Try.prog Try.f5 Rows.cloverKeepsRow.domain false) (Rows.cloverKeepsSpec.post enc Try.prog Try.f5 false true false false) := by
  refine returnsInHanded_of_change_sized (C := Try.checked) own started (by kernel_rfl) Try.func5
    (ChangeSpec.witness6 (enc := enc) (C := Try.checked) false ⟨#[], #[.slice none 0 0, .agg #[.int .i64 0, .int .i64 0, .int .i64 0, .int .i64 0, .int .i64 0, .int .i64 0, .int .i64 0, .int .i64 0, .int .i64 0, .int .i64 0, .int .i64 0, .int .i64 0, .int .i64 0, .int .i64 0, .int .i64 0], .slice none 0 0], []⟩ 8 (by kernel_rfl) (by kernel_rfl) (by kernel_rfl) (by kernel_rfl)) ?_
  intro W base args ds gs before hval0 hW hcnd hsz0 _
  clear hcnd hsz0
  have hval : ∀ (j : Nat) t v, Try.f5.params[j]? = some t → args[j]? = some v → Value.okWide Try.prog W .any base t v := hval0
  have hW' := hW
  obtain ⟨p, q, hA0, hV, rfl, _, _⟩ := hW
  have hA : DataW.TrodAll enc Try.prog W 0 (fun _ => true) true Try.f5.params.toList args.toList ds p := hA0
  rw [Try.params5] at hA hval
  obtain ⟨v0, vs0, d0, ds0, p0, q0, hargs, rfl, rfl, h0, r0⟩ := trodAll_cons hA
  obtain ⟨v1, vs1, d1, ds1, p1, q1, rfl, rfl, rfl, h1, r1⟩ := trodAll_cons r0
  obtain ⟨v2, vs2, d2, ds2, p2, q2, rfl, rfl, rfl, h2, r2⟩ := trodAll_cons r1
  obtain ⟨rfl, rfl, rfl⟩ := trodAll_nil r2
  obtain rfl : args = #[v0, v1, v2] := by cases args; simp_all
  obtain ⟨rfl, rfl⟩ := trodVars_none hV
  have lt0 : ∀ x ∈ p0, x.block < W.heap.size := by obtain ⟨m, hm⟩ := h0; exact DataW.trod_lt m _ _ _ hm
  have k0 := h0
  have o0 := hval 0 22 v0 rfl rfl
  obtain ⟨xs0, n0, w0⟩ := flats_of (st := 2) Try.underlying22 (by kernel_rfl) (by kernel_rfl) (by omega) o0 h0
  have lt1 : ∀ x ∈ p1, x.block < W.heap.size := by obtain ⟨m, hm⟩ := h1; exact DataW.trod_lt m _ _ _ hm
  have k1 := h1
  have o1 := hval 1 61 v1 rfl rfl
  obtain ⟨xs1, w1⟩ := flat_struct (n := 15) Try.underlying61 (by kernel_rfl) (by kernel_rfl) o1 h1
  have lt2 : ∀ x ∈ p2, x.block < W.heap.size := by obtain ⟨m, hm⟩ := h2; exact DataW.trod_lt m _ _ _ hm
  have k2 := h2
  have o2 := hval 2 23 v2 rfl rfl
  obtain ⟨xs2, n2, w2⟩ := flats_of (st := 1) Try.underlying23 (by kernel_rfl) (by kernel_rfl) (by omega) o2 h2
  clear hA0 hval0 hval hA
  refine (Go.Proofs.Ytkelfdnhgdjaaaa.Ef.cloverKeeps.cloverKeeps_walk W v0 xs0 n0 w0 v1 xs1 w1 v2 xs2 n2 w2).mono fun e W' ⟨he, bel⟩ => ?_
  subst he
  exact ⟨_, rfl, _, _, _, [], _, [], hW', trodAll_mk1 (shut_bool Try.underlying4 _), (trodAll_cons_mk (Below.trod laidOut (by kernel_rfl) (of_decide_eq_true (by kernel_rfl)) k0 bel lt0) (trodAll_cons_mk (Below.trod laidOut (by kernel_rfl) (of_decide_eq_true (by kernel_rfl)) k1 bel lt1) (trodAll_cons_mk (Below.trod laidOut (by kernel_rfl) (of_decide_eq_true (by kernel_rfl)) k2 bel lt2) trodAll_mk0))), rfl, bel.frame _, fun h => by cases h⟩
theorem over : Rows.cloverKeepsRow.holds Try.pinned (OpenSpec.ofChange Rows.cloverKeepsSpec) :=
  OpenClaim.holds_of_wide 5 Try.f5 rfl rfl rfl rfl rfl rfl rfl ⟨rfl, rfl, rfl, rfl, rfl⟩ rfl rfl rfl rfl rfl (by kernel_rfl) Try.func5 (by kernel_rfl)
    (of_decide_eq_true (by kernel_rfl)) (by unfold Func.isWrapper; first | (rw [if_pos (by decide +kernel)]; kernel_rfl) | (rw [if_neg (by decide +kernel)]; exact ⟨rfl, rfl⟩))
    (fun os started H enc _ => lifted os started H enc)
end Go.Proofs.Ytkelfdnhgdjaaaa.cloverKeeps
namespace Go.Proofs.Ytkelfdnhgdjaaaa
/-- The statement as it is given. -/
theorem cloverKeeps_holds : Rows.CloverKeepsSaid := cloverKeeps.over
#print axioms cloverKeeps_holds
end Go.Proofs.Ytkelfdnhgdjaaaa
