/- What is proved: what the scalars of the statements of layer 12 are, and that the document's examples hold, by the second evaluator. Conditions: none. -/
import Derived.Test.YtfapicccijbanaaTp
namespace Go.Proofs.Ytfapicccijbanaa.Ef
open Go Go.RowKit Go.Proofs.Ytfapicccijbanaa.Sep Go.Proofs.Ytfapicccijbanaa.Num Go.Proofs.Ytfapicccijbanaa.Mem
open Go.Proofs.Ytfapicccijbanaa.Ev (Fast)
set_option maxRecDepth 100000
set_option linter.unusedVariables false
def lawV1 (n : Nat) (x : U Om) : U Om := if n = 101 then .i (opVal x.fst.int x.snd.int).1 else if n = 102 then .i (opVal x.fst.int x.snd.int).2 else x
def lawG1 (n : Nat) : Rg := bif Nat.beq n 101 then rg 0 1 else bif Nat.beq n 102 then rg 0 999 else .top
theorem lawG1_ok (n : Nat) (u : U Om) : (lawG1 n).has (lawV1 n u).int := by
  unfold lawG1
  rw [Bool.cond_eq_ite, Bool.cond_eq_ite]
  have h1 := kindOf_lo u.snd.int 1000 (by omega)
  have h2 := kindOf_hi u.snd.int 1000 (by omega)
  have h3 := kindOf_lo u.snd.int 17 (by omega)
  have h4 := kindOf_hi u.snd.int 17 (by omega)
  split
  · rename_i h
    have h := Nat.eq_of_beq_eq_true h
    subst h
    refine rg_has ?_
    show 0 ≤ (opVal u.fst.int u.snd.int).1 ∧ (opVal u.fst.int u.snd.int).1 ≤ 1
    unfold opVal
    split
    · simp
    · split <;> simp
  · split
    · rename_i h
      have h := Nat.eq_of_beq_eq_true h
      subst h
      refine rg_has ?_
      show 0 ≤ (opVal u.fst.int u.snd.int).2 ∧ (opVal u.fst.int u.snd.int).2 ≤ 999
      unfold opVal
      split
      · simp only; omega
      · split <;> simp only <;> omega
    · exact Rg.top_has _
@[reducible] def extL : Ext := ⟨lawV1, fun _ x _ => x, fun _ _ _ _ => Sep.emp, lawG1, fun _ => .top, lawG1_ok, fun _ _ _ => Rg.top_has _⟩
instance : Ext := extL
instance (P : Program) [Fast P] : Ab P := abM P
instance (P : Program) [Fast P] [Vars] : AbOk P := abM_ok P
def isW (x : Nat) : Pi := [(.a2 .lt (.var x) (.lit (-9223372036854775808)), false), (.a2 .lt (.var x) (.lit 9223372036854775808), true)]
def valRes : SV := .a (.agg [.int .i64 (i1 101 (.a2 .pair (.var 0) (.var 1))), .int .i64 (i1 102 (.a2 .pair (.var 0) (.var 1)))])
def valArg : List SV := [.a (.agg [.int .i64 (.var 0), .int .i64 (.var 1)])]
theorem isW_ok [Vars] {x : Nat} (h : facts (isW x)) : -9223372036854775808 ≤ (Tm.var x).v ∧ (Tm.var x).v ≤ 9223372036854775807 := by
  have h1 := h _ (List.mem_cons_self ..)
  have h2 := h _ (List.mem_cons_of_mem _ (List.mem_singleton.2 rfl))
  have h1 : decide ((Tm.var x).v < -9223372036854775808) = false := h1
  have h2 : decide ((Tm.var x).v < 9223372036854775808) = true := h2
  simp at h1 h2
  omega
theorem shown_tm : ∀ (V : Vars) (β : Bl) (w : World) (R : HProp), @facts _ V ([]) → Holds w R → Calls Try.prog 9 ((([] : List SV)).map (@SV.den _ V β)).toArray w fun e w' => e = .returned (@SV.den _ V β (.c (.bool (.bl true)))) ∧ Holds w' R ∧ Strm w w' :=
  tm_calls (P := Try.prog) noGos mixedOrders (fun _ => Γb_ok) (fun _ => false) 1000 (f := 9) (pargs := []) (pre := []) (res := .c (.bool (.bl true))) (by kernel_rfl) (by kernel_rfl) (by kernel_rfl)
theorem val_tm : ∀ (V : Vars) (β : Bl) (w : World) (R : HProp), @facts _ V (isW 0 ++ isW 1) → Holds w R → Calls Try.prog 19 ((valArg).map (@SV.den _ V β)).toArray w fun e w' => e = .returned (@SV.den _ V β (valRes)) ∧ Holds w' R ∧ Strm w w' := by
  intro V β w R hp hR
  have h0 := isW_ok (x := 0) fun q hq => hp q (List.mem_append_left _ hq)
  have h1 := isW_ok (x := 1) fun q hq => hp q (List.mem_append_right _ hq)
  refine (val_calls (Tm.var 0).v (Tm.var 1).v w h0.1 h0.2 h1.1 h1.2).mono ?_
  rintro e w' ⟨rfl, hb⟩
  exact ⟨rfl, hR.kept hb, Strm.below hb⟩
def Γ2 : Ctr := ctrCons 9 (cTm [] [] (.c (.bool (.bl true)))) <| ctrCons 19 (cTm valArg (isW 0 ++ isW 1) valRes) Γb
theorem Γ2_ok [Vars] : CtrOk Try.prog Γ2 := ctrCons_ok (cTm_ok shown_tm) (ctrCons_ok (cTm_ok val_tm) Γb_ok)
end Go.Proofs.Ytfapicccijbanaa.Ef
