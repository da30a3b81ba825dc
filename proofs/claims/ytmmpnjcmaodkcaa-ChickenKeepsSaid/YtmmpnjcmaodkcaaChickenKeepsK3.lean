/- What is proved: the ways between patterns of ChickenKeeps. Conditions: none. -/
import Derived.Test.YtmmpnjcmaodkcaaChickenKeepsC
namespace Go.Proofs.Ytmmpnjcmaodkcaa.Ef.chickenKeeps
open Go Go.RowKit Go.Proofs.Ytmmpnjcmaodkcaa.Sep Go.Proofs.Ytmmpnjcmaodkcaa.Num Go.Proofs.Ytmmpnjcmaodkcaa.Mem Go.Proofs.Ytmmpnjcmaodkcaa.Ef
open Go.Proofs.Ytmmpnjcmaodkcaa.Ev (Fast)
set_option maxRecDepth 100000
set_option linter.unusedVariables false
theorem ck90 : chkCut Try.prog Γ2 mf 1000 sp ks base Θ fin body c90 = true := chkCutH_ok [93, 93] (by kernel_rfl)
theorem ck91 : chkCut Try.prog Γ2 mf 1000 sp ks base Θ fin body c91 = true := chkCutH_ok [134, 136, 136, 137, 136, 137] (by kernel_rfl)
theorem ck92 : chkCut Try.prog Γ2 mf 1000 sp ks base Θ fin body c92 = true := chkCutH_ok [138, 138] (by kernel_rfl)
theorem ck93 : chkCut Try.prog Γ2 mf 1000 sp ks base Θ fin body c93 = true := chkCutH_ok [97, 97] (by kernel_rfl)
theorem ck94 : chkCut Try.prog Γ2 mf 1000 sp ks base Θ fin body c94 = true := chkCutH_ok [136, 139, 139, 140, 139, 140] (by kernel_rfl)
theorem ck95 : chkCut Try.prog Γ2 mf 1000 sp ks base Θ fin body c95 = true := chkCutH_ok [141, 141] (by kernel_rfl)
theorem ck96 : chkCut Try.prog Γ2 mf 1000 sp ks base Θ fin body c96 = true := chkCutH_ok [142, 142] (by kernel_rfl)
theorem ck97 : chkCut Try.prog Γ2 mf 1000 sp ks base Θ fin body c97 = true := chkCutH_ok [102, 102] (by kernel_rfl)
theorem ck98 : chkCut Try.prog Γ2 mf 1000 sp ks base Θ fin body c98 = true := chkCutH_ok [139, 143, 143, 144, 143, 144] (by kernel_rfl)
theorem ck99 : chkCut Try.prog Γ2 mf 1000 sp ks base Θ fin body c99 = true := chkCutH_ok [145, 145] (by kernel_rfl)
theorem ck100 : chkCut Try.prog Γ2 mf 1000 sp ks base Θ fin body c100 = true := chkCutH_ok [146, 146] (by kernel_rfl)
theorem ck101 : chkCut Try.prog Γ2 mf 1000 sp ks base Θ fin body c101 = true := chkCutH_ok [147, 147] (by kernel_rfl)
theorem ck102 : chkCut Try.prog Γ2 mf 1000 sp ks base Θ fin body c102 = true := chkCutH_ok [102, 102] (by kernel_rfl)
theorem ck103 : chkCut Try.prog Γ2 mf 1000 sp ks base Θ fin body c103 = true := chkCutH_ok [103, 148, 148, 149, 148, 149] (by kernel_rfl)
theorem ck104 : chkCut Try.prog Γ2 mf 1000 sp ks base Θ fin body c104 = true := chkCutH_ok [150, 150] (by kernel_rfl)
theorem ck105 : chkCut Try.prog Γ2 mf 1000 sp ks base Θ fin body c105 = true := chkCutH_ok [151, 151] (by kernel_rfl)
theorem ck106 : chkCut Try.prog Γ2 mf 1000 sp ks base Θ fin body c106 = true := chkCutH_ok [106, 152, 152, 153, 152, 153] (by kernel_rfl)
theorem ck107 : chkCut Try.prog Γ2 mf 1000 sp ks base Θ fin body c107 = true := chkCutH_ok [110, 110] (by kernel_rfl)
theorem ck108 : chkCut Try.prog Γ2 mf 1000 sp ks base Θ fin body c108 = true := chkCutH_ok [152, 154, 154, 155, 154, 155] (by kernel_rfl)
theorem ck109 : chkCut Try.prog Γ2 mf 1000 sp ks base Θ fin body c109 = true := chkCutH_ok [156, 156] (by kernel_rfl)
theorem ck110 : chkCut Try.prog Γ2 mf 1000 sp ks base Θ fin body c110 = true := chkCutH_ok [114, 114] (by kernel_rfl)
theorem ck111 : chkCut Try.prog Γ2 mf 1000 sp ks base Θ fin body c111 = true := chkCutH_ok [154, 157, 157, 158, 157, 158] (by kernel_rfl)
theorem ck112 : chkCut Try.prog Γ2 mf 1000 sp ks base Θ fin body c112 = true := chkCutH_ok [159, 159] (by kernel_rfl)
theorem ck113 : chkCut Try.prog Γ2 mf 1000 sp ks base Θ fin body c113 = true := chkCutH_ok [160, 160] (by kernel_rfl)
theorem ck114 : chkCut Try.prog Γ2 mf 1000 sp ks base Θ fin body c114 = true := chkCutH_ok [119, 119] (by kernel_rfl)
theorem ck115 : chkCut Try.prog Γ2 mf 1000 sp ks base Θ fin body c115 = true := chkCutH_ok [157, 161, 161, 162, 161, 162] (by kernel_rfl)
theorem ck116 : chkCut Try.prog Γ2 mf 1000 sp ks base Θ fin body c116 = true := chkCutH_ok [163, 163] (by kernel_rfl)
theorem ck117 : chkCut Try.prog Γ2 mf 1000 sp ks base Θ fin body c117 = true := chkCutH_ok [164, 164] (by kernel_rfl)
theorem ck118 : chkCut Try.prog Γ2 mf 1000 sp ks base Θ fin body c118 = true := chkCutH_ok [165, 165] (by kernel_rfl)
theorem ck119 : chkCut Try.prog Γ2 mf 1000 sp ks base Θ fin body c119 = true := chkCutH_ok [119, 119] (by kernel_rfl)
end Go.Proofs.Ytmmpnjcmaodkcaa.Ef.chickenKeeps
