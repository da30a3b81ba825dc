/- What is proved: the ways between patterns of ChickenPlays. Conditions: none. -/
import Derived.Test.YtmmpnjcmaodkcaaChickenPlaysS
namespace Go.Proofs.Ytmmpnjcmaodkcaa.Ef.chickenPlays
open Go Go.RowKit Go.Proofs.Ytmmpnjcmaodkcaa.Sep Go.Proofs.Ytmmpnjcmaodkcaa.Num Go.Proofs.Ytmmpnjcmaodkcaa.Mem Go.Proofs.Ytmmpnjcmaodkcaa.Ef
open Go.Proofs.Ytmmpnjcmaodkcaa.Ev (Fast)
set_option maxRecDepth 100000
set_option linter.unusedVariables false
noncomputable section
theorem ck0_0 : PP c0 n2 hp0 := .one [0,0,0,0,0,0,0,0,0,0,0,0,0,0,0,0,0,0,0] (by kernel_rfl)
theorem ck0_1 : PP c0 n3 hp1 := .one [0,0] (by kernel_rfl)
theorem ck0_2 : PP c0 n6 hp2 := .one [0,0,0,0,0,0,0,0,0,0,0,0,0,0,0,0,0,0,0] (by kernel_rfl)
theorem ck0_3 : PP c0 n7 hp3 := .one [0,0] (by kernel_rfl)
theorem ck0_4 : PP c0 n8 hp4 := .one [0,0,0,0,0,0,0,0,0,0,0,0,0,0,0,0,0,0,0] (by kernel_rfl)
theorem ck0_5 : PP c0 n9 hp5 := .one [0,0] (by kernel_rfl)
end
end Go.Proofs.Ytmmpnjcmaodkcaa.Ef.chickenPlays
