/- What is proved: what parts the ways of CloverPlays. Conditions: none. -/
import Derived.Test.YtkelfdnhgdjaaaaGreatCloverPlaysC
namespace Go.Proofs.YtkelfdnhgdjaaaaGreat.Ef.cloverPlays
open Go Go.RowKit Go.Proofs.YtkelfdnhgdjaaaaGreat.Sep Go.Proofs.YtkelfdnhgdjaaaaGreat.Num Go.Proofs.YtkelfdnhgdjaaaaGreat.Mem Go.Proofs.YtkelfdnhgdjaaaaGreat.Ef
open Go.Proofs.YtkelfdnhgdjaaaaGreat.Ev (Fast)
set_option maxRecDepth 100000
set_option linter.unusedVariables false
noncomputable section
def z0 : Tm := (.a2 .lt (i1 1003 (i2 30 (.var 9) (.var 15))) (.lit 1))
def z1 : Tm := (.var 395)
def z2 : Tm := (.a2 .eq (i1 1004 (i2 30 (.var 5) (.a2 .add (.a2 .mul (.var 32) (.lit 15)) (.lit 2)))) (.lit 3))
def z3 : Tm := (.a2 .lt (.var 32) (.lit 30))
def z4 : Tm := (.a2 .lt (.var 32) (i1 32 (.var 7)))
def z5 : Tm := (.a2 .lt (.var 15) (.lit 300))
def z6 : Tm := (.a2 .lt (.var 15) (i1 32 (.var 11)))
def z7 : Tm := (.a2 .lt (.a2 .rem (i1 1004 (i2 30 (.var 5) (.a2 .add (.a2 .mul (.var 32) (.lit 15)) (.lit 2)))) (.lit 3)) (.lit 1))
def z8 : Tm := (.a2 .lt (i1 1003 (i2 30 (.var 9) (.var 15))) (.lit 2))
def z9 : Tm := (.var 396)
def z10 : Tm := (.var 397)
def n0 : Pi := (z0, true) :: c0.pi
def n1 : Pi := (z0, false) :: c0.pi
def n2 : Pi := (z1, true) :: n0
def n3 : Pi := (z1, false) :: n0
def n4 : Pi := (z6, true) :: n2
def n5 : Pi := (z6, false) :: n2
def n6 : Pi := (z5, true) :: n4
def n7 : Pi := (z5, false) :: n4
def n8 : Pi := (z4, true) :: n6
def n9 : Pi := (z4, false) :: n6
def n10 : Pi := (z3, true) :: n8
def n11 : Pi := (z3, false) :: n8
def n12 : Pi := (z2, true) :: n10
def n13 : Pi := (z2, false) :: n10
def n14 : Pi := (z7, true) :: n13
def n15 : Pi := (z7, false) :: n13
def n16 : Pi := (z8, true) :: n1
def n17 : Pi := (z8, false) :: n1
def n18 : Pi := (z9, true) :: n16
def n19 : Pi := (z9, false) :: n16
def n20 : Pi := (z6, true) :: n18
def n21 : Pi := (z6, false) :: n18
def n22 : Pi := (z5, true) :: n20
def n23 : Pi := (z5, false) :: n20
def n24 : Pi := (z4, true) :: n22
def n25 : Pi := (z4, false) :: n22
def n26 : Pi := (z3, true) :: n24
def n27 : Pi := (z3, false) :: n24
def n28 : Pi := (z2, true) :: n26
def n29 : Pi := (z2, false) :: n26
def n30 : Pi := (z7, true) :: n29
def n31 : Pi := (z7, false) :: n29
def n32 : Pi := (z10, true) :: n17
def n33 : Pi := (z10, false) :: n17
def n34 : Pi := (z6, true) :: n32
def n35 : Pi := (z6, false) :: n32
def n36 : Pi := (z5, true) :: n34
def n37 : Pi := (z5, false) :: n34
def n38 : Pi := (z4, true) :: n36
def n39 : Pi := (z4, false) :: n36
def n40 : Pi := (z3, true) :: n38
def n41 : Pi := (z3, false) :: n38
def n42 : Pi := (z2, true) :: n40
def n43 : Pi := (z2, false) :: n40
def n44 : Pi := (z7, true) :: n43
def n45 : Pi := (z7, false) :: n43
def hp0 : SH := nrm n2 [8, 9] c0.H
def hp1 : SH := nrm n3 [8, 9] c0.H
def hp2 : SH := nrm n18 [10, 11] c0.H
def hp3 : SH := nrm n19 [10, 11] c0.H
def hp4 : SH := nrm n32 [12, 13] c0.H
def hp5 : SH := nrm n33 [12, 13] c0.H
abbrev PP (c : Cut) (π : Pi) (H : SH) : Prop := PartP Tryz.prog (Γt Tryz.prog) mf 1000 sp ks base Θ fin body c π H
end
end Go.Proofs.YtkelfdnhgdjaaaaGreat.Ef.cloverPlays
