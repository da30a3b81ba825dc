/- What is proved: two things that fields may have are the same word only if they are the same: any two kinds and numbers (outside 0 to 3 and 0 to 2^61 - 1 the law asks nothing). Conditions: none. -/
import Derived.Test.YtgakmobgomiblaaRows
import Derived.Test.YtgakmobgomiblaaPureSlotApart
import Derived.WalkKit
import Derived.ProofKit
import Derived.OpenShut
import Derived.ShutString
import Derived.ChangeOld
import Derived.Below
import Derived.SizedLaws
import Derived.Lib.SmallJoins
namespace Go.Proofs.Ytgakmobgomiblaa.slotApart
open Go.ChangeShapes Go.WideShapes Go.ChangeAt Go.RowKit Go.Joins
theorem own : ownKnob Try.prog.godebug = none := by kernel_rfl
theorem cells23 : Try.prog.cellsOf 23 = 2 := by kernel_rfl
set_option maxRecDepth 100000 in
theorem lifted (os : Os) (started : os.Started) (H : Type) (enc : TypeId × Value → H) :
    ReturnsInHanded {} Try.checked os 8 .any (Rows.slotApartSpec.pre6 enc Try.prog Try.f8 Rows.slotApartRow.domain false) (Rows.slotApartSpec.post enc Try.prog Try.f8 false true false false) := by
  refine returnsInHanded_of_change_sized (C := Try.checked) own started (by kernel_rfl) Try.func8
    (ChangeSpec.witness6 (enc := enc) (C := Try.checked) false ⟨#[], #[.agg #[.int .i64 0, .int .i64 0], .agg #[.int .i64 0, .int .i64 0]], []⟩ 8 (by kernel_rfl) (by kernel_rfl) (by kernel_rfl) (by kernel_rfl)) ?_
  intro W base args ds gs before hval0 hW hcnd hsz0 _
  clear hcnd hsz0
  have hval : ∀ (j : Nat) t v, Try.f8.params[j]? = some t → args[j]? = some v → Value.okWide Try.prog W .any base t v := hval0
  have hW' := hW
  obtain ⟨p, q, hA0, hV, rfl, _, _⟩ := hW
  have hA : DataW.TrodAll enc Try.prog W 0 (fun _ => true) true Try.f8.params.toList args.toList ds p := hA0
  rw [Try.params8] at hA hval
  obtain ⟨v0, vs0, d0, ds0, p0, q0, hargs, rfl, rfl, h0, r0⟩ := trodAll_cons hA
  obtain ⟨v1, vs1, d1, ds1, p1, q1, rfl, rfl, rfl, h1, r1⟩ := trodAll_cons r0
  obtain ⟨rfl, rfl, rfl⟩ := trodAll_nil r1
  obtain rfl : args = #[v0, v1] := by cases args; simp_all
  obtain ⟨rfl, rfl⟩ := trodVars_none hV
  obtain ⟨c0, c1, y0, y1, m, rfl, rfl, rfl, hy0, hy1⟩ := open_agg2 Try.underlying23 (by kernel_rfl) cells23 (hval 0 23 v0 rfl rfl) h0
  obtain ⟨a0, e0, rfl, wa0⟩ := DataW.trod_int Try.underlying3 hy0
  obtain ⟨b0, e1, rfl, wb0⟩ := DataW.trod_int Try.underlying3 hy1
  simp at e0 e1
  subst e0 e1
  obtain ⟨c0, c1, y0, y1, m, rfl, rfl, rfl, hy0, hy1⟩ := open_agg2 Try.underlying23 (by kernel_rfl) cells23 (hval 1 23 v1 rfl rfl) h1
  obtain ⟨a1, e0, rfl, wa1⟩ := DataW.trod_int Try.underlying3 hy0
  obtain ⟨b1, e1, rfl, wb1⟩ := DataW.trod_int Try.underlying3 hy1
  simp at e0 e1
  subst e0 e1
  clear hA0 hval0
  simp only [List.append_nil] at hW'
  have structReads : ∀ (a b : Int) (W' : World) (sp : Nat → Bool), (Lit.int .i64 a).wf = true → (Lit.int .i64 b).wf = true → DataW.Trod enc Try.prog W' 0 sp true 23 (.agg #[.int .i64 a, .int .i64 b]) (.agg [.lit (.int .i64 a), .lit (.int .i64 b)]) [] := fun a b W' sp wa wb =>
    shut_agg2 (y0 := (.lit (.int .i64 a), [])) (y1 := (.lit (.int .i64 b), [])) Try.underlying23 (by kernel_rfl) cells23 ⟨1, by simp [DataW.trod, Try.underlying3, wa]⟩ ⟨1, by simp [DataW.trod, Try.underlying3, wb]⟩
  obtain ⟨k, hk⟩ := Pure.SlotApart a0 b0 a1 b1 wa0 wb0 wa1 wb1
  refine (PSlotApart.flitlaw01_SlotApart.calls k a0 b0 a1 b1 true W hk).mono fun e W' ⟨he, bel⟩ => ?_
  subst he
  exact ⟨_, rfl, _, _, _, [], [], [], hW', trodAll_mk1 (shut_bool Try.underlying4 _), (trodAll_cons_mk (structReads _ _ _ _ wa0 wb0) (trodAll_cons_mk (structReads _ _ _ _ wa1 wb1) trodAll_mk0)), rfl, bel.frame _, fun h => by cases h⟩
theorem over : Rows.slotApartRow.holds Try.pinned (OpenSpec.ofChange Rows.slotApartSpec) :=
  OpenClaim.holds_of_wide 8 Try.f8 rfl rfl rfl rfl rfl rfl rfl ⟨rfl, rfl, rfl, rfl, rfl⟩ rfl rfl rfl rfl rfl (by kernel_rfl) Try.func8 (by kernel_rfl)
    (of_decide_eq_true (by kernel_rfl)) (by unfold Func.isWrapper; first | (rw [if_pos (by decide +kernel)]; kernel_rfl) | (rw [if_neg (by decide +kernel)]; exact ⟨rfl, rfl⟩))
    (fun os started H enc _ => lifted os started H enc)
end Go.Proofs.Ytgakmobgomiblaa.slotApart
namespace Go.Proofs.Ytgakmobgomiblaa
/-- The statement as it is given. -/
theorem slotApart_holds : Rows.SlotApartSaid := slotApart.over
#print axioms slotApart_holds
end Go.Proofs.Ytgakmobgomiblaa
