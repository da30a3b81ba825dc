/- What is proved: what parts the ways of ChickenPlays. Conditions: none. -/
import Derived.Test.YtmmpnjcmaodkcaaChickenPlaysC
namespace Go.Proofs.Ytmmpnjcmaodkcaa.Ef.chickenPlays
open Go Go.RowKit Go.Proofs.Ytmmpnjcmaodkcaa.Sep Go.Proofs.Ytmmpnjcmaodkcaa.Num Go.Proofs.Ytmmpnjcmaodkcaa.Mem Go.Proofs.Ytmmpnjcmaodkcaa.Ef
open Go.Proofs.Ytmmpnjcmaodkcaa.Ev (Fast)
set_option maxRecDepth 100000
set_option linter.unusedVariables false
noncomputable section
def z0 : Tm := (.a2 .lt (i1 1003 (i2 30 (.var 9) (.var 14))) (.lit 1))
def z1 : Tm := (.var 394)
def z2 : Tm := (.a2 .lt (i1 1003 (i2 30 (.var 9) (.var 14))) (.lit 2))
def z3 : Tm := (.var 395)
def z4 : Tm := (.var 396)
def n0 : Pi := (z0, true) :: c0.pi
def n1 : Pi := (z0, false) :: c0.pi
def n2 : Pi := (z1, true) :: n0
def n3 : Pi := (z1, false) :: n0
def n4 : Pi := (z2, true) :: n1
def n5 : Pi := (z2, false) :: n1
def n6 : Pi := (z3, true) :: n4
def n7 : Pi := (z3, false) :: n4
def n8 : Pi := (z4, true) :: n5
def n9 : Pi := (z4, false) :: n5
def hp0 : SH := nrm n2 [8, 9] c0.H
def hp1 : SH := nrm n3 [8, 9] c0.H
def hp2 : SH := nrm n6 [10, 11] c0.H
def hp3 : SH := nrm n7 [10, 11] c0.H
def hp4 : SH := nrm n8 [12, 13] c0.H
def hp5 : SH := nrm n9 [12, 13] c0.H
abbrev PP (c : Cut) (π : Pi) (H : SH) : Prop := PartP Try.prog (Γt Try.prog) mf 1000 sp ks base Θ fin body c π H
end
end Go.Proofs.Ytmmpnjcmaodkcaa.Ef.chickenPlays
