/- What is proved: the table of contracts of the closed machines, over any meaning of their symbols. Conditions: none. -/
import Derived.Test.YtmmpnjcmaodkcaaTya
import Derived.Test.YtmmpnjcmaodkcaaTzc
import Derived.Test.YtmmpnjcmaodkcaaTx
namespace Go.Proofs.Ytmmpnjcmaodkcaa.Ef
open Go Go.RowKit Go.Proofs.Ytmmpnjcmaodkcaa.Sep Go.Proofs.Ytmmpnjcmaodkcaa.Num Go.Proofs.Ytmmpnjcmaodkcaa.Mem
open Go.Proofs.Ytmmpnjcmaodkcaa.Ev (Fast)
set_option maxRecDepth 100000
set_option linter.unusedVariables false
set_option linter.unusedSectionVars false
section
variable [Xtra]
def ldT (k : Nat) (t : TypeId) (o : Nat) : Option Nat :=
  bif Nat.beq k 101 && (Nat.beq t 4 && Nat.beq o 16) then some 202 else
  none
def tLoad (P : Program) [Fast P] (t : TypeId) (k : Nat) (x : Tm) (ns : List Nat) (off : Off) : Option (List Tm × SV) :=
  bif Nat.blt 99 k then
    match ns, off with
    | [], .at o => match ldT k t o with
      | some s => some ([], .c (.bool (i1 s x)))
      | none => none
    | _, _ => none
  else mLoad P t k x ns off
theorem tLoad_wf {P : Program} [Fast P] {t : TypeId} {k : Nat} {x : Tm} {ns : List Nat} {off : Off} {qs : List Tm} {v : SV} (h : tLoad P t k x ns off = some (qs, v)) (n : Nat) (hns : ∀ m ∈ ns, m < n) : v.wf n := by
  unfold tLoad at h
  rw [Bool.cond_eq_ite] at h
  split at h
  · split at h
    · split at h
      · cases h; trivial
      · cases h
    · cases h
  · exact mLoad_wf h n hns
theorem tLoad_top {P : Program} [Fast P] {t : TypeId} {k : Nat} {x : Tm} {ns : List Nat} {off : Off} {qs : List Tm} {v : SV} (h : tLoad P t k x ns off = some (qs, v)) : v.isTop = false := by
  unfold tLoad at h
  rw [Bool.cond_eq_ite] at h
  split at h
  · split at h
    · split at h
      · cases h; rfl
      · cases h
    · cases h
  · exact mLoad_top h
abbrev abT (P : Program) [Fast P] : Ab P :=
  ⟨fun π t k x ns off => tLoad P t k x ns off, fun π t k x ns nm off => mInner P π t k x ns nm off, fun t k x ns off n => mOpens P t k x off n,
   fun h hn => tLoad_wf h _ hn, fun h => tLoad_top h, fun h _ => (mInner_wf h _).1, fun h => (mInner_wf h 0).2, fun h _ => mOpens_wf h,
   fun π t k x ns off y => mStore P π t k x ns off y, fun h hn => by rw [mStore_wf h]; exact hn⟩
instance (P : Program) [Fast P] : Ab P := abT P
def callT (P : Program) [Fast P] : Caller := fun f args s => evF P Γ2 (fun _ => false) false 1000 f args s
def Γn (P : Program) [Fast P] : Ctr := ctrCons 27 (cPre [false, true] (callT P) 27) <| ctrCons 11 (cPre [false, true] (callT P) 11) <| Γ2
def callN (P : Program) [Fast P] : Caller := fun f args s => match Γn P f args s with
  | some t => t
  | none => callT P f args s
def Γt (P : Program) [Fast P] : Ctr :=
  ctrCons 11 (cPre [false, true] (callT P) 11) <|
  ctrCons 27 (cTn js0 100 101 90 c0_0 (callN P) 27) <|
  ctrCons 12 (cTw 100 1 200 201 300) <|
  ctrCons 28 (cTw 101 2 200 201 300) <|
  ctrCons 29 (cTr 100 false [none] 202) <|
  ctrCons 14 (cTr 100 true kOut 206) <|
  ctrCons 30 (cTr 101 true kOut 206) <|
  Γ2
end
end Go.Proofs.Ytmmpnjcmaodkcaa.Ef
