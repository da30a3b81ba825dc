/- What is proved: the ways between patterns of ChickenKeeps. Conditions: none. -/
import Derived.Test.YtmmpnjcmaodkcaaChickenKeepsC
namespace Go.Proofs.Ytmmpnjcmaodkcaa.Ef.chickenKeeps
open Go Go.RowKit Go.Proofs.Ytmmpnjcmaodkcaa.Sep Go.Proofs.Ytmmpnjcmaodkcaa.Num Go.Proofs.Ytmmpnjcmaodkcaa.Mem Go.Proofs.Ytmmpnjcmaodkcaa.Ef
open Go.Proofs.Ytmmpnjcmaodkcaa.Ev (Fast)
set_option maxRecDepth 100000
set_option linter.unusedVariables false
theorem ck150 : chkCut Try.prog Γ2 mf 1000 sp ks base Θ fin body c150 = true := chkCutH_ok [198, 198] (by kernel_rfl)
theorem ck151 : chkCut Try.prog Γ2 mf 1000 sp ks base Θ fin body c151 = true := chkCutH_ok [199, 199] (by kernel_rfl)
theorem ck152 : chkCut Try.prog Γ2 mf 1000 sp ks base Θ fin body c152 = true := chkCutH_ok [152, 200, 200, 201, 200, 201] (by kernel_rfl)
theorem ck153 : chkCut Try.prog Γ2 mf 1000 sp ks base Θ fin body c153 = true := chkCutH_ok [156, 156] (by kernel_rfl)
theorem ck154 : chkCut Try.prog Γ2 mf 1000 sp ks base Θ fin body c154 = true := chkCutH_ok [200, 202, 202, 203, 202, 203] (by kernel_rfl)
theorem ck155 : chkCut Try.prog Γ2 mf 1000 sp ks base Θ fin body c155 = true := chkCutH_ok [204, 204] (by kernel_rfl)
theorem ck156 : chkCut Try.prog Γ2 mf 1000 sp ks base Θ fin body c156 = true := chkCutH_ok [160, 160] (by kernel_rfl)
theorem ck157 : chkCut Try.prog Γ2 mf 1000 sp ks base Θ fin body c157 = true := chkCutH_ok [202, 205, 205, 206, 205, 206] (by kernel_rfl)
theorem ck158 : chkCut Try.prog Γ2 mf 1000 sp ks base Θ fin body c158 = true := chkCutH_ok [207, 207] (by kernel_rfl)
theorem ck159 : chkCut Try.prog Γ2 mf 1000 sp ks base Θ fin body c159 = true := chkCutH_ok [208, 208] (by kernel_rfl)
theorem ck160 : chkCut Try.prog Γ2 mf 1000 sp ks base Θ fin body c160 = true := chkCutH_ok [165, 165] (by kernel_rfl)
theorem ck161 : chkCut Try.prog Γ2 mf 1000 sp ks base Θ fin body c161 = true := chkCutH_ok [205, 209, 209, 210, 209, 210] (by kernel_rfl)
theorem ck162 : chkCut Try.prog Γ2 mf 1000 sp ks base Θ fin body c162 = true := chkCutH_ok [211, 211] (by kernel_rfl)
theorem ck163 : chkCut Try.prog Γ2 mf 1000 sp ks base Θ fin body c163 = true := chkCutH_ok [212, 212] (by kernel_rfl)
theorem ck164 : chkCut Try.prog Γ2 mf 1000 sp ks base Θ fin body c164 = true := chkCutH_ok [213, 213] (by kernel_rfl)
theorem ck165 : chkCut Try.prog Γ2 mf 1000 sp ks base Θ fin body c165 = true := chkCutH_ok [165, 165] (by kernel_rfl)
theorem ck166 : chkCut Try.prog Γ2 mf 1000 sp ks base Θ fin body c166 = true := chkCutH_ok [166, 214, 214, 215, 214, 215] (by kernel_rfl)
theorem ck167 : chkCut Try.prog Γ2 mf 1000 sp ks base Θ fin body c167 = true := chkCutH_ok [216, 216] (by kernel_rfl)
theorem ck168 : chkCut Try.prog Γ2 mf 1000 sp ks base Θ fin body c168 = true := chkCutH_ok [168, 217, 217, 218, 217, 218] (by kernel_rfl)
theorem ck169 : chkCut Try.prog Γ2 mf 1000 sp ks base Θ fin body c169 = true := chkCutH_ok [217, 219, 219, 220, 219, 220] (by kernel_rfl)
theorem ck170 : chkCut Try.prog Γ2 mf 1000 sp ks base Θ fin body c170 = true := chkCutH_ok [221, 221] (by kernel_rfl)
theorem ck171 : chkCut Try.prog Γ2 mf 1000 sp ks base Θ fin body c171 = true := chkCutH_ok [175, 175] (by kernel_rfl)
theorem ck172 : chkCut Try.prog Γ2 mf 1000 sp ks base Θ fin body c172 = true := chkCutH_ok [219, 222, 222, 223, 222, 223] (by kernel_rfl)
theorem ck173 : chkCut Try.prog Γ2 mf 1000 sp ks base Θ fin body c173 = true := chkCutH_ok [224, 224] (by kernel_rfl)
theorem ck174 : chkCut Try.prog Γ2 mf 1000 sp ks base Θ fin body c174 = true := chkCutH_ok [225, 225] (by kernel_rfl)
theorem ck175 : chkCut Try.prog Γ2 mf 1000 sp ks base Θ fin body c175 = true := chkCutH_ok [180, 180] (by kernel_rfl)
theorem ck176 : chkCut Try.prog Γ2 mf 1000 sp ks base Θ fin body c176 = true := chkCutH_ok [222, 226, 226, 227, 226, 227] (by kernel_rfl)
theorem ck177 : chkCut Try.prog Γ2 mf 1000 sp ks base Θ fin body c177 = true := chkCutH_ok [228, 228] (by kernel_rfl)
theorem ck178 : chkCut Try.prog Γ2 mf 1000 sp ks base Θ fin body c178 = true := chkCutH_ok [229, 229] (by kernel_rfl)
theorem ck179 : chkCut Try.prog Γ2 mf 1000 sp ks base Θ fin body c179 = true := chkCutH_ok [230, 230] (by kernel_rfl)
end Go.Proofs.Ytmmpnjcmaodkcaa.Ef.chickenKeeps
