/- What is proved: the ways between patterns of CloverPlays. Conditions: none. -/
import Derived.Test.YtkelfdnhgdjaaaaGreatCloverPlaysS
namespace Go.Proofs.YtkelfdnhgdjaaaaGreat.Ef.cloverPlays
open Go Go.RowKit Go.Proofs.YtkelfdnhgdjaaaaGreat.Sep Go.Proofs.YtkelfdnhgdjaaaaGreat.Num Go.Proofs.YtkelfdnhgdjaaaaGreat.Mem Go.Proofs.YtkelfdnhgdjaaaaGreat.Ef
open Go.Proofs.YtkelfdnhgdjaaaaGreat.Ev (Fast)
set_option maxRecDepth 100000
set_option linter.unusedVariables false
noncomputable section
theorem ck0_20 : PP c0 n39 hp4 := .one [0] (by kernel_rfl)
theorem ck0_21 : PP c0 n37 hp4 := .one [] (by kernel_rfl)
theorem ck0_22 : PP c0 n35 hp4 := .one [] (by kernel_rfl)
theorem ck0_23 : PP c0 n33 hp5 := .one [0,0] (by kernel_rfl)
end
end Go.Proofs.YtkelfdnhgdjaaaaGreat.Ef.cloverPlays
