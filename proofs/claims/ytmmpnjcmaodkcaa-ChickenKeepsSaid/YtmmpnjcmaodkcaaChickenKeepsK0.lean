/- What is proved: the ways between patterns of ChickenKeeps. Conditions: none. -/
import Derived.Test.YtmmpnjcmaodkcaaChickenKeepsC
namespace Go.Proofs.Ytmmpnjcmaodkcaa.Ef.chickenKeeps
open Go Go.RowKit Go.Proofs.Ytmmpnjcmaodkcaa.Sep Go.Proofs.Ytmmpnjcmaodkcaa.Num Go.Proofs.Ytmmpnjcmaodkcaa.Mem Go.Proofs.Ytmmpnjcmaodkcaa.Ef
open Go.Proofs.Ytmmpnjcmaodkcaa.Ev (Fast)
set_option maxRecDepth 100000
set_option linter.unusedVariables false
theorem ck0 : chkCut Try.prog Γ2 mf 1000 sp ks base Θ fin body c0 = true := chkCutH_ok [3, 4, 4, 5, 4, 5] (by kernel_rfl)
theorem ck1 : chkCut Try.prog Γ2 mf 1000 sp ks base Θ fin body c1 = true := chkCutH_ok [6, 7, 7, 8, 7, 8] (by kernel_rfl)
theorem ck2 : chkCut Try.prog Γ2 mf 1000 sp ks base Θ fin body c2 = true := chkCutH_ok [9, 10, 10, 11, 10, 11] (by kernel_rfl)
theorem ck3 : chkCut Try.prog Γ2 mf 1000 sp ks base Θ fin body c3 = true := chkCutH_ok [12, 13, 13, 14, 13, 14] (by kernel_rfl)
theorem ck4 : chkCut Try.prog Γ2 mf 1000 sp ks base Θ fin body c4 = true := chkCutH_ok [13, 15, 15, 16, 15, 16] (by kernel_rfl)
theorem ck5 : chkCut Try.prog Γ2 mf 1000 sp ks base Θ fin body c5 = true := chkCutH_ok [17, 17] (by kernel_rfl)
theorem ck6 : chkCut Try.prog Γ2 mf 1000 sp ks base Θ fin body c6 = true := chkCutH_ok [18, 19, 19, 20, 19, 20] (by kernel_rfl)
theorem ck7 : chkCut Try.prog Γ2 mf 1000 sp ks base Θ fin body c7 = true := chkCutH_ok [19, 21, 21, 22, 21, 22] (by kernel_rfl)
theorem ck8 : chkCut Try.prog Γ2 mf 1000 sp ks base Θ fin body c8 = true := chkCutH_ok [23, 23] (by kernel_rfl)
theorem ck9 : chkCut Try.prog Γ2 mf 1000 sp ks base Θ fin body c9 = true := chkCutH_ok [24, 25, 25, 26, 25, 26] (by kernel_rfl)
theorem ck10 : chkCut Try.prog Γ2 mf 1000 sp ks base Θ fin body c10 = true := chkCutH_ok [25, 27, 27, 28, 27, 28] (by kernel_rfl)
theorem ck11 : chkCut Try.prog Γ2 mf 1000 sp ks base Θ fin body c11 = true := chkCutH_ok [29, 29] (by kernel_rfl)
theorem ck12 : chkCut Try.prog Γ2 mf 1000 sp ks base Θ fin body c12 = true := chkCutH_ok [30, 31, 31, 32, 31, 32] (by kernel_rfl)
theorem ck13 : chkCut Try.prog Γ2 mf 1000 sp ks base Θ fin body c13 = true := chkCutH_ok [31, 33, 33, 34, 33, 34] (by kernel_rfl)
theorem ck14 : chkCut Try.prog Γ2 mf 1000 sp ks base Θ fin body c14 = true := chkCutH_ok [35, 35] (by kernel_rfl)
theorem ck15 : chkCut Try.prog Γ2 mf 1000 sp ks base Θ fin body c15 = true := chkCutH_ok [33, 36, 36, 37, 36, 37] (by kernel_rfl)
theorem ck16 : chkCut Try.prog Γ2 mf 1000 sp ks base Θ fin body c16 = true := chkCutH_ok [38, 38] (by kernel_rfl)
theorem ck17 : chkCut Try.prog Γ2 mf 1000 sp ks base Θ fin body c17 = true := chkCutH_ok [39, 39] (by kernel_rfl)
theorem ck18 : chkCut Try.prog Γ2 mf 1000 sp ks base Θ fin body c18 = true := chkCutH_ok [40, 41, 41, 42, 41, 42] (by kernel_rfl)
theorem ck19 : chkCut Try.prog Γ2 mf 1000 sp ks base Θ fin body c19 = true := chkCutH_ok [41, 43, 43, 44, 43, 44] (by kernel_rfl)
theorem ck20 : chkCut Try.prog Γ2 mf 1000 sp ks base Θ fin body c20 = true := chkCutH_ok [45, 45] (by kernel_rfl)
theorem ck21 : chkCut Try.prog Γ2 mf 1000 sp ks base Θ fin body c21 = true := chkCutH_ok [43, 46, 46, 47, 46, 47] (by kernel_rfl)
theorem ck22 : chkCut Try.prog Γ2 mf 1000 sp ks base Θ fin body c22 = true := chkCutH_ok [48, 48] (by kernel_rfl)
theorem ck23 : chkCut Try.prog Γ2 mf 1000 sp ks base Θ fin body c23 = true := chkCutH_ok [49, 49] (by kernel_rfl)
theorem ck24 : chkCut Try.prog Γ2 mf 1000 sp ks base Θ fin body c24 = true := chkCutH_ok [50, 51, 51, 52, 51, 52] (by kernel_rfl)
theorem ck25 : chkCut Try.prog Γ2 mf 1000 sp ks base Θ fin body c25 = true := chkCutH_ok [51, 53, 53, 54, 53, 54] (by kernel_rfl)
theorem ck26 : chkCut Try.prog Γ2 mf 1000 sp ks base Θ fin body c26 = true := chkCutH_ok [55, 55] (by kernel_rfl)
theorem ck27 : chkCut Try.prog Γ2 mf 1000 sp ks base Θ fin body c27 = true := chkCutH_ok [53, 56, 56, 57, 56, 57] (by kernel_rfl)
theorem ck28 : chkCut Try.prog Γ2 mf 1000 sp ks base Θ fin body c28 = true := chkCutH_ok [58, 58] (by kernel_rfl)
theorem ck29 : chkCut Try.prog Γ2 mf 1000 sp ks base Θ fin body c29 = true := chkCutH_ok [59, 59] (by kernel_rfl)
end Go.Proofs.Ytmmpnjcmaodkcaa.Ef.chickenKeeps
