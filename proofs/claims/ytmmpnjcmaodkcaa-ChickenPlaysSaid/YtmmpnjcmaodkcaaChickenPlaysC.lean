/- What is proved: the patterns at the loops' heads of ChickenPlays. Conditions: none. -/
import Derived.Test.YtmmpnjcmaodkcaaTq3
import Derived.Test.YtmmpnjcmaodkcaaTv
import Derived.Test.YtmmpnjcmaodkcaaTyz
namespace Go.Proofs.Ytmmpnjcmaodkcaa.Ef.chickenPlays
open Go Go.RowKit Go.Proofs.Ytmmpnjcmaodkcaa.Sep Go.Proofs.Ytmmpnjcmaodkcaa.Num Go.Proofs.Ytmmpnjcmaodkcaa.Mem Go.Proofs.Ytmmpnjcmaodkcaa.Ef
open Go.Proofs.Ytmmpnjcmaodkcaa.Ev (Fast)
set_option maxRecDepth 100000
set_option linter.unusedVariables false
noncomputable section
def mf (f : Nat) : Bool := Nat.beq f 9
def base : Nat := 14
def xo : Tm := p2 (.var 0) (p2 (rowT 1 2) (p2 (rowT 5 15) (p2 (rowT 9 1) (.lit 0))))
def s0 : St := ⟨[], [(3, .abs 9 xo [0, 1, 2])], 4⟩
def args : List SV := [.a (.agg [(.int .i64 (iv 13)), (rowV 0 1)]), .c (rowV 1 5), .c (rowV 2 9)]
def okV : SV → St → Bool := okT 3 xo [0, 1, 2]
def k3 (i : Nat) (n : Int) : Tm := .a2 .lt (i1 1003 (iv i)) (.lit n)
def kq (i : Nat) (n : Int) : Tm := .a2 .eq (.a2 .rem (i1 1004 (iv i)) (.lit 3)) (.lit n)
def ks : List Nat := [9]
def sp : Spl := []
noncomputable def body : Code := match Try.f7.body with | some c => c | none => .skip
noncomputable def fin (e : Exit) (fr : Frm) (s : St) : Bool := (ends Try.prog Try.f7 (e, fr, s)).allB fun q => okV q.1 q.2
def h0 : Nat × SO := (3, (.abs 9 (.a2 .pair (.var 0) (.a2 .pair (.a2 .pair (.var 1) (.a2 .pair (.var 2) (.a2 .pair (i1 32 (.var 3)) (.lit 2)))) (.a2 .pair (.a2 .pair (.var 5) (.a2 .pair (.var 6) (.a2 .pair (i1 32 (.var 7)) (.lit 15)))) (.a2 .pair (.a2 .pair (.var 9) (.a2 .pair (.var 10) (.a2 .pair (i1 32 (.var 11)) (.lit 1)))) (.lit 0))))) [0, 1, 2]))
def h1 : Nat × SO := (4, (.abs 1 (.a2 .pair (i2 27 (.var 29) (.lit 160)) (.a2 .add (.a2 .mul (.var 14) (.lit 2)) (.lit 600))) []))
def h2 : Nat × SO := (5, (.abs 2 (.a2 .pair (i2 25 (.var 30) (i2 27 (.var 29) (.lit 160))) (.a2 .add (.a2 .mul (.var 14) (.lit 2)) (.lit 600))) []))
def h3 : Nat × SO := (6, (.cells [(.any 314), (.any 315), (.any 316)] 70))
def h4 : Nat × SO := (7, (.cells [(.any 324), (.any 325), (.any 326)] 72))
def h5 : Nat × SO := (8, (.opt (.var 394) 100 (.var 414) 314 true))
def h6 : Nat × SO := (9, (.opt (.var 394) 101 (.var 414) 324 false))
def h7 : Nat × SO := (10, (.opt (.var 395) 100 (.var 415) 315 true))
def h8 : Nat × SO := (11, (.opt (.var 395) 101 (.var 415) 325 false))
def h9 : Nat × SO := (12, (.opt (.var 396) 100 (.var 416) 316 true))
def h10 : Nat × SO := (13, (.opt (.var 396) 101 (.var 416) 326 false))
def f0 : Nat × SV := (1, (.c (.sliceQ 1 (.var 6) (i1 32 (.var 7)) (.a2 .add (i1 32 (.var 7)) (i1 32 (.var 8))))))
def f1 : Nat × SV := (2, (.c (.sliceQ 2 (.var 10) (i1 32 (.var 11)) (.a2 .add (i1 32 (.var 11)) (i1 32 (.var 12))))))
def f2 : Nat × SV := (8, (.c (.ptr 4 0)))
def f3 : Nat × SV := (9, (.c (.ptr 5 0)))
def f4 : Nat × SV := (10, (.c (.ptr 6 0)))
def f5 : Nat × SV := (11, (.c (.ptr 7 0)))
def f6 : Nat × SV := (12, (.c (.int .i64 (.var 31))))
def f7 : Nat × SV := (13, (.c (.int .i64 (.var 14))))
def F0 : List (Nat × SV) := [f0, f1, f2, f3, f4, f5, f6, f7]
def p0 : Tm × Bool := ((.a2 .lt (.var 14) (.lit 0)), false)
def p1 : Tm × Bool := ((.a2 .lt (.var 14) (.lit 301)), true)
def p2 : Tm × Bool := ((.a2 .lt (.var 31) (.lit 0)), false)
def p3 : Tm × Bool := ((.a2 .lt (.var 31) (.lit 31)), true)
def P0 : Pi := [p0, p1, p2, p3]
def m0 : Tm := (.var 14)
def c0 : Cut := ⟨9, F0, 146, [h0, h1, h2, h3, h4, h5, h6, h7, h8, h9, h10], 14, P0, 301, m0⟩
def Θ : List Cut := [c0]
abbrev CK (c : Cut) : Prop := chkCut Try.prog (Γt Try.prog) mf 1000 sp ks base Θ fin body c = true
end
end Go.Proofs.Ytmmpnjcmaodkcaa.Ef.chickenPlays
