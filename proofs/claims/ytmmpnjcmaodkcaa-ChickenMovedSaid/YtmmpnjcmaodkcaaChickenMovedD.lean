/- What is proved: the walk of ChickenMoved. Conditions: that the arguments can be read. -/
import Derived.Test.YtmmpnjcmaodkcaaTq3
import Derived.Test.YtmmpnjcmaodkcaaTv
namespace Go.Proofs.Ytmmpnjcmaodkcaa.Ef.chickenMoved
open Go Go.RowKit Go.Proofs.Ytmmpnjcmaodkcaa.Sep Go.Proofs.Ytmmpnjcmaodkcaa.Num Go.Proofs.Ytmmpnjcmaodkcaa.Mem Go.Proofs.Ytmmpnjcmaodkcaa.Ef
open Go.Proofs.Ytmmpnjcmaodkcaa.Ev (Fast)
set_option maxRecDepth 100000
set_option linter.unusedVariables false
def mf (f : Nat) : Bool := Nat.beq f 9
def base : Nat := 24
def xo : Tm := p2 (.var 0) (p2 (rowT 1 2) (p2 (rowT 5 2) (.lit 0)))
def s0 : St := ⟨[], [(2, .abs 9 xo [0, 1])], 3⟩
def args : List SV := [.c (rowV 0 1), .c (rowV 1 5), .a (.agg (flatv 9 15))]
def okV : SV → St → Bool := okT 2 xo [0, 1]
def k3 (i : Nat) (n : Int) : Tm := .a2 .lt (i1 1003 (iv i)) (.lit n)
def kq (i : Nat) (n : Int) : Tm := .a2 .eq (.a2 .rem (i1 1004 (iv i)) (.lit 3)) (.lit n)
def Γs : Ctr := ctrCons 10 (cKindS 3 fun c => Tm.beq c (iv 12)) Γ2
theorem Γs_ok [Vars] : CtrOk Try.prog Γs := ctrCons_ok (cKindS_ok 3 _ kind_calls) Γ2_ok
noncomputable def body : Code := match Try.f5.body with | some c => c | none => .skip
end Go.Proofs.Ytmmpnjcmaodkcaa.Ef.chickenMoved
