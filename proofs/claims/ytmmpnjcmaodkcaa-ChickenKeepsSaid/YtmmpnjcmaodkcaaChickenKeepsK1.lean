/- What is proved: the ways between patterns of ChickenKeeps. Conditions: none. -/
import Derived.Test.YtmmpnjcmaodkcaaChickenKeepsC
namespace Go.Proofs.Ytmmpnjcmaodkcaa.Ef.chickenKeeps
open Go Go.RowKit Go.Proofs.Ytmmpnjcmaodkcaa.Sep Go.Proofs.Ytmmpnjcmaodkcaa.Num Go.Proofs.Ytmmpnjcmaodkcaa.Mem Go.Proofs.Ytmmpnjcmaodkcaa.Ef
open Go.Proofs.Ytmmpnjcmaodkcaa.Ev (Fast)
set_option maxRecDepth 100000
set_option linter.unusedVariables false
theorem ck30 : chkCut Try.prog Γ2 mf 1000 sp ks base Θ fin body c30 = true := chkCutH_ok [30, 60, 60, 61, 60, 61] (by kernel_rfl)
theorem ck31 : chkCut Try.prog Γ2 mf 1000 sp ks base Θ fin body c31 = true := chkCutH_ok [62, 63, 63, 64, 63, 64] (by kernel_rfl)
theorem ck32 : chkCut Try.prog Γ2 mf 1000 sp ks base Θ fin body c32 = true := chkCutH_ok [65, 65] (by kernel_rfl)
theorem ck33 : chkCut Try.prog Γ2 mf 1000 sp ks base Θ fin body c33 = true := chkCutH_ok [63, 66, 66, 67, 66, 67] (by kernel_rfl)
theorem ck34 : chkCut Try.prog Γ2 mf 1000 sp ks base Θ fin body c34 = true := chkCutH_ok [68, 68] (by kernel_rfl)
theorem ck35 : chkCut Try.prog Γ2 mf 1000 sp ks base Θ fin body c35 = true := chkCutH_ok [69, 69] (by kernel_rfl)
theorem ck36 : chkCut Try.prog Γ2 mf 1000 sp ks base Θ fin body c36 = true := chkCutH_ok [66, 70, 70, 71, 70, 71] (by kernel_rfl)
theorem ck37 : chkCut Try.prog Γ2 mf 1000 sp ks base Θ fin body c37 = true := chkCutH_ok [72, 72] (by kernel_rfl)
theorem ck38 : chkCut Try.prog Γ2 mf 1000 sp ks base Θ fin body c38 = true := chkCutH_ok [73, 73] (by kernel_rfl)
theorem ck39 : chkCut Try.prog Γ2 mf 1000 sp ks base Θ fin body c39 = true := chkCutH_ok [74, 74] (by kernel_rfl)
theorem ck40 : chkCut Try.prog Γ2 mf 1000 sp ks base Θ fin body c40 = true := chkCutH_ok [40, 75, 75, 76, 75, 76] (by kernel_rfl)
theorem ck41 : chkCut Try.prog Γ2 mf 1000 sp ks base Θ fin body c41 = true := chkCutH_ok [75, 77, 77, 78, 77, 78] (by kernel_rfl)
theorem ck42 : chkCut Try.prog Γ2 mf 1000 sp ks base Θ fin body c42 = true := chkCutH_ok [79, 79] (by kernel_rfl)
theorem ck43 : chkCut Try.prog Γ2 mf 1000 sp ks base Θ fin body c43 = true := chkCutH_ok [77, 80, 80, 81, 80, 81] (by kernel_rfl)
theorem ck44 : chkCut Try.prog Γ2 mf 1000 sp ks base Θ fin body c44 = true := chkCutH_ok [82, 82] (by kernel_rfl)
theorem ck45 : chkCut Try.prog Γ2 mf 1000 sp ks base Θ fin body c45 = true := chkCutH_ok [83, 83] (by kernel_rfl)
theorem ck46 : chkCut Try.prog Γ2 mf 1000 sp ks base Θ fin body c46 = true := chkCutH_ok [80, 84, 84, 85, 84, 85] (by kernel_rfl)
theorem ck47 : chkCut Try.prog Γ2 mf 1000 sp ks base Θ fin body c47 = true := chkCutH_ok [86, 86] (by kernel_rfl)
theorem ck48 : chkCut Try.prog Γ2 mf 1000 sp ks base Θ fin body c48 = true := chkCutH_ok [87, 87] (by kernel_rfl)
theorem ck49 : chkCut Try.prog Γ2 mf 1000 sp ks base Θ fin body c49 = true := chkCutH_ok [88, 88] (by kernel_rfl)
theorem ck50 : chkCut Try.prog Γ2 mf 1000 sp ks base Θ fin body c50 = true := chkCutH_ok [50, 89, 89, 90, 89, 90] (by kernel_rfl)
theorem ck51 : chkCut Try.prog Γ2 mf 1000 sp ks base Θ fin body c51 = true := chkCutH_ok [89, 91, 91, 92, 91, 92] (by kernel_rfl)
theorem ck52 : chkCut Try.prog Γ2 mf 1000 sp ks base Θ fin body c52 = true := chkCutH_ok [93, 93] (by kernel_rfl)
theorem ck53 : chkCut Try.prog Γ2 mf 1000 sp ks base Θ fin body c53 = true := chkCutH_ok [91, 94, 94, 95, 94, 95] (by kernel_rfl)
theorem ck54 : chkCut Try.prog Γ2 mf 1000 sp ks base Θ fin body c54 = true := chkCutH_ok [96, 96] (by kernel_rfl)
theorem ck55 : chkCut Try.prog Γ2 mf 1000 sp ks base Θ fin body c55 = true := chkCutH_ok [97, 97] (by kernel_rfl)
theorem ck56 : chkCut Try.prog Γ2 mf 1000 sp ks base Θ fin body c56 = true := chkCutH_ok [94, 98, 98, 99, 98, 99] (by kernel_rfl)
theorem ck57 : chkCut Try.prog Γ2 mf 1000 sp ks base Θ fin body c57 = true := chkCutH_ok [100, 100] (by kernel_rfl)
theorem ck58 : chkCut Try.prog Γ2 mf 1000 sp ks base Θ fin body c58 = true := chkCutH_ok [101, 101] (by kernel_rfl)
theorem ck59 : chkCut Try.prog Γ2 mf 1000 sp ks base Θ fin body c59 = true := chkCutH_ok [102, 102] (by kernel_rfl)
end Go.Proofs.Ytmmpnjcmaodkcaa.Ef.chickenKeeps
