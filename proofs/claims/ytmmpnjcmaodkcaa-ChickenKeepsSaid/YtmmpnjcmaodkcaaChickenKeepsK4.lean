/- What is proved: the ways between patterns of ChickenKeeps. Conditions: none. -/
import Derived.Test.YtmmpnjcmaodkcaaChickenKeepsC
namespace Go.Proofs.Ytmmpnjcmaodkcaa.Ef.chickenKeeps
open Go Go.RowKit Go.Proofs.Ytmmpnjcmaodkcaa.Sep Go.Proofs.Ytmmpnjcmaodkcaa.Num Go.Proofs.Ytmmpnjcmaodkcaa.Mem Go.Proofs.Ytmmpnjcmaodkcaa.Ef
open Go.Proofs.Ytmmpnjcmaodkcaa.Ev (Fast)
set_option maxRecDepth 100000
set_option linter.unusedVariables false
theorem ck120 : chkCut Try.prog Γ2 mf 1000 sp ks base Θ fin body c120 = true := chkCutH_ok [120, 166, 166, 167, 166, 167] (by kernel_rfl)
theorem ck121 : chkCut Try.prog Γ2 mf 1000 sp ks base Θ fin body c121 = true := chkCutH_ok [124, 124] (by kernel_rfl)
theorem ck122 : chkCut Try.prog Γ2 mf 1000 sp ks base Θ fin body c122 = true := chkCutH_ok [168, 169, 169, 170, 169, 170] (by kernel_rfl)
theorem ck123 : chkCut Try.prog Γ2 mf 1000 sp ks base Θ fin body c123 = true := chkCutH_ok [171, 171] (by kernel_rfl)
theorem ck124 : chkCut Try.prog Γ2 mf 1000 sp ks base Θ fin body c124 = true := chkCutH_ok [128, 128] (by kernel_rfl)
theorem ck125 : chkCut Try.prog Γ2 mf 1000 sp ks base Θ fin body c125 = true := chkCutH_ok [169, 172, 172, 173, 172, 173] (by kernel_rfl)
theorem ck126 : chkCut Try.prog Γ2 mf 1000 sp ks base Θ fin body c126 = true := chkCutH_ok [174, 174] (by kernel_rfl)
theorem ck127 : chkCut Try.prog Γ2 mf 1000 sp ks base Θ fin body c127 = true := chkCutH_ok [175, 175] (by kernel_rfl)
theorem ck128 : chkCut Try.prog Γ2 mf 1000 sp ks base Θ fin body c128 = true := chkCutH_ok [133, 133] (by kernel_rfl)
theorem ck129 : chkCut Try.prog Γ2 mf 1000 sp ks base Θ fin body c129 = true := chkCutH_ok [172, 176, 176, 177, 176, 177] (by kernel_rfl)
theorem ck130 : chkCut Try.prog Γ2 mf 1000 sp ks base Θ fin body c130 = true := chkCutH_ok [178, 178] (by kernel_rfl)
theorem ck131 : chkCut Try.prog Γ2 mf 1000 sp ks base Θ fin body c131 = true := chkCutH_ok [179, 179] (by kernel_rfl)
theorem ck132 : chkCut Try.prog Γ2 mf 1000 sp ks base Θ fin body c132 = true := chkCutH_ok [180, 180] (by kernel_rfl)
theorem ck133 : chkCut Try.prog Γ2 mf 1000 sp ks base Θ fin body c133 = true := chkCutH_ok [133, 133] (by kernel_rfl)
theorem ck134 : chkCut Try.prog Γ2 mf 1000 sp ks base Θ fin body c134 = true := chkCutH_ok [134, 181, 181, 182, 181, 182] (by kernel_rfl)
theorem ck135 : chkCut Try.prog Γ2 mf 1000 sp ks base Θ fin body c135 = true := chkCutH_ok [138, 138] (by kernel_rfl)
theorem ck136 : chkCut Try.prog Γ2 mf 1000 sp ks base Θ fin body c136 = true := chkCutH_ok [181, 183, 183, 184, 183, 184] (by kernel_rfl)
theorem ck137 : chkCut Try.prog Γ2 mf 1000 sp ks base Θ fin body c137 = true := chkCutH_ok [185, 185] (by kernel_rfl)
theorem ck138 : chkCut Try.prog Γ2 mf 1000 sp ks base Θ fin body c138 = true := chkCutH_ok [142, 142] (by kernel_rfl)
theorem ck139 : chkCut Try.prog Γ2 mf 1000 sp ks base Θ fin body c139 = true := chkCutH_ok [183, 186, 186, 187, 186, 187] (by kernel_rfl)
theorem ck140 : chkCut Try.prog Γ2 mf 1000 sp ks base Θ fin body c140 = true := chkCutH_ok [188, 188] (by kernel_rfl)
theorem ck141 : chkCut Try.prog Γ2 mf 1000 sp ks base Θ fin body c141 = true := chkCutH_ok [189, 189] (by kernel_rfl)
theorem ck142 : chkCut Try.prog Γ2 mf 1000 sp ks base Θ fin body c142 = true := chkCutH_ok [147, 147] (by kernel_rfl)
theorem ck143 : chkCut Try.prog Γ2 mf 1000 sp ks base Θ fin body c143 = true := chkCutH_ok [186, 190, 190, 191, 190, 191] (by kernel_rfl)
theorem ck144 : chkCut Try.prog Γ2 mf 1000 sp ks base Θ fin body c144 = true := chkCutH_ok [192, 192] (by kernel_rfl)
theorem ck145 : chkCut Try.prog Γ2 mf 1000 sp ks base Θ fin body c145 = true := chkCutH_ok [193, 193] (by kernel_rfl)
theorem ck146 : chkCut Try.prog Γ2 mf 1000 sp ks base Θ fin body c146 = true := chkCutH_ok [194, 194] (by kernel_rfl)
theorem ck147 : chkCut Try.prog Γ2 mf 1000 sp ks base Θ fin body c147 = true := chkCutH_ok [147, 147] (by kernel_rfl)
theorem ck148 : chkCut Try.prog Γ2 mf 1000 sp ks base Θ fin body c148 = true := chkCutH_ok [148, 195, 195, 196, 195, 196] (by kernel_rfl)
theorem ck149 : chkCut Try.prog Γ2 mf 1000 sp ks base Θ fin body c149 = true := chkCutH_ok [197, 197] (by kernel_rfl)
end Go.Proofs.Ytmmpnjcmaodkcaa.Ef.chickenKeeps
