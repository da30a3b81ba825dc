/- What is proved: the walk of CloverWaits. Conditions: that the arguments can be read. -/
import Derived.Test.YtkelfdnhgdjaaaaTq3
import Derived.Test.YtkelfdnhgdjaaaaTv
namespace Go.Proofs.Ytkelfdnhgdjaaaa.Ef.cloverWaits
open Go Go.RowKit Go.Proofs.Ytkelfdnhgdjaaaa.Sep Go.Proofs.Ytkelfdnhgdjaaaa.Num Go.Proofs.Ytkelfdnhgdjaaaa.Mem Go.Proofs.Ytkelfdnhgdjaaaa.Ef
open Go.Proofs.Ytkelfdnhgdjaaaa.Ev (Fast)
set_option maxRecDepth 100000
set_option linter.unusedVariables false
def mf (f : Nat) : Bool := Nat.beq f 8 || Nat.beq f 7
def base : Nat := 20
def xo : Tm := p2 (.var 0) (p2 (rowT 1 2) (.lit 0))
def s0 : St := ⟨[], [(1, .abs 9 xo [0])], 2⟩
def args : List SV := [.c (rowV 0 1), .a (.agg (flatv 5 15))]
def okV : SV → St → Bool := okT 1 xo [0]
def k3 (i : Nat) (n : Int) : Tm := .a2 .lt (i1 1003 (iv i)) (.lit n)
def kq (i : Nat) (n : Int) : Tm := .a2 .eq (.a2 .rem (i1 1004 (iv i)) (.lit 3)) (.lit n)
def z0 : Tm := (.a2 .lt (i1 1003 (i1 31 (.var 6))) (.lit 1))
def z1 : Tm := (.a2 .lt (.lit 3) (i1 32 (.var 3)))
def z2 : Tm := (.a2 .and (.a2 .eq (i1 101 (.a2 .pair (i2 30 (.var 1) (.lit 4)) (i2 30 (.var 1) (.lit 5)))) (.lit 0)) (.a2 .eq (i1 102 (.a2 .pair (i2 30 (.var 1) (.lit 4)) (i2 30 (.var 1) (.lit 5)))) (.lit 9)))
def z3 : Tm := (.a2 .lt (.lit 2) (i1 32 (.var 3)))
def z4 : Tm := (.a2 .and (.a2 .eq (i1 101 (.a2 .pair (i2 30 (.var 1) (.lit 2)) (i2 30 (.var 1) (.lit 3)))) (.lit 0)) (.a2 .eq (i1 102 (.a2 .pair (i2 30 (.var 1) (.lit 2)) (i2 30 (.var 1) (.lit 3)))) (.lit 9)))
def z5 : Tm := (.a2 .lt (.lit 1) (i1 32 (.var 3)))
def z6 : Tm := (.a2 .lt (.lit 0) (i1 32 (.var 3)))
noncomputable def body : Code := match Try.f4.body with | some c => c | none => .skip
end Go.Proofs.Ytkelfdnhgdjaaaa.Ef.cloverWaits
