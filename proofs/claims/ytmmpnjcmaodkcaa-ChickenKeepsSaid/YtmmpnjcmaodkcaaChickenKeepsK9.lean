/- What is proved: the ways between patterns of ChickenKeeps. Conditions: none. -/
import Derived.Test.YtmmpnjcmaodkcaaChickenKeepsC
namespace Go.Proofs.Ytmmpnjcmaodkcaa.Ef.chickenKeeps
open Go Go.RowKit Go.Proofs.Ytmmpnjcmaodkcaa.Sep Go.Proofs.Ytmmpnjcmaodkcaa.Num Go.Proofs.Ytmmpnjcmaodkcaa.Mem Go.Proofs.Ytmmpnjcmaodkcaa.Ef
open Go.Proofs.Ytmmpnjcmaodkcaa.Ev (Fast)
set_option maxRecDepth 100000
set_option linter.unusedVariables false
theorem ck270 : chkCut Try.prog Γ2 mf 1000 sp ks base Θ fin body c270 = true := chkCutH_ok [320, 320] (by kernel_rfl)
theorem ck271 : chkCut Try.prog Γ2 mf 1000 sp ks base Θ fin body c271 = true := chkCutH_ok [275, 275] (by kernel_rfl)
theorem ck272 : chkCut Try.prog Γ2 mf 1000 sp ks base Θ fin body c272 = true := chkCutH_ok [321, 272, 272, 273, 272, 273] (by kernel_rfl)
theorem ck273 : chkCut Try.prog Γ2 mf 1000 sp ks base Θ fin body c273 = true := chkCutH_ok [322, 322] (by kernel_rfl)
theorem ck274 : chkCut Try.prog Γ2 mf 1000 sp ks base Θ fin body c274 = true := chkCutH_ok [323, 323] (by kernel_rfl)
theorem ck275 : chkCut Try.prog Γ2 mf 1000 sp ks base Θ fin body c275 = true := chkCutH_ok [279, 279] (by kernel_rfl)
theorem ck276 : chkCut Try.prog Γ2 mf 1000 sp ks base Θ fin body c276 = true := chkCutH_ok [324, 276, 276, 325, 276, 325] (by kernel_rfl)
theorem ck277 : chkCut Try.prog Γ2 mf 1000 sp ks base Θ fin body c277 = true := chkCutH_ok [326, 326] (by kernel_rfl)
theorem ck278 : chkCut Try.prog Γ2 mf 1000 sp ks base Θ fin body c278 = true := chkCutH_ok [327, 327] (by kernel_rfl)
theorem ck279 : chkCut Try.prog Γ2 mf 1000 sp ks base Θ fin body c279 = true := chkCutH_ok [279, 279] (by kernel_rfl)
theorem ck280 : chkCut Try.prog Γ2 mf 1000 sp ks base Θ fin body c280 = true := chkCutH_ok [280, 328, 328, 329, 328, 329] (by kernel_rfl)
theorem ck281 : chkCut Try.prog Γ2 mf 1000 sp ks base Θ fin body c281 = true := chkCutH_ok [330, 330] (by kernel_rfl)
theorem ck282 : chkCut Try.prog Γ2 mf 1000 sp ks base Θ fin body c282 = true := chkCutH_ok [282, 331, 331, 332, 331, 332] (by kernel_rfl)
theorem ck283 : chkCut Try.prog Γ2 mf 1000 sp ks base Θ fin body c283 = true := chkCutH_ok [331, 333, 333, 334, 333, 334] (by kernel_rfl)
theorem ck284 : chkCut Try.prog Γ2 mf 1000 sp ks base Θ fin body c284 = true := chkCutH_ok [335, 335] (by kernel_rfl)
theorem ck285 : chkCut Try.prog Γ2 mf 1000 sp ks base Θ fin body c285 = true := chkCutH_ok [289, 289] (by kernel_rfl)
theorem ck286 : chkCut Try.prog Γ2 mf 1000 sp ks base Θ fin body c286 = true := chkCutH_ok [336, 286, 286, 287, 286, 287] (by kernel_rfl)
theorem ck287 : chkCut Try.prog Γ2 mf 1000 sp ks base Θ fin body c287 = true := chkCutH_ok [337, 337] (by kernel_rfl)
theorem ck288 : chkCut Try.prog Γ2 mf 1000 sp ks base Θ fin body c288 = true := chkCutH_ok [338, 338] (by kernel_rfl)
theorem ck289 : chkCut Try.prog Γ2 mf 1000 sp ks base Θ fin body c289 = true := chkCutH_ok [293, 293] (by kernel_rfl)
theorem ck290 : chkCut Try.prog Γ2 mf 1000 sp ks base Θ fin body c290 = true := chkCutH_ok [339, 290, 290, 340, 290, 340] (by kernel_rfl)
theorem ck291 : chkCut Try.prog Γ2 mf 1000 sp ks base Θ fin body c291 = true := chkCutH_ok [341, 341] (by kernel_rfl)
theorem ck292 : chkCut Try.prog Γ2 mf 1000 sp ks base Θ fin body c292 = true := chkCutH_ok [342, 342] (by kernel_rfl)
theorem ck293 : chkCut Try.prog Γ2 mf 1000 sp ks base Θ fin body c293 = true := chkCutH_ok [293, 293] (by kernel_rfl)
theorem ck294 : chkCut Try.prog Γ2 mf 1000 sp ks base Θ fin body c294 = true := chkCutH_ok [294, 343, 343, 344, 343, 344] (by kernel_rfl)
theorem ck295 : chkCut Try.prog Γ2 mf 1000 sp ks base Θ fin body c295 = true := chkCutH_ok [345, 345] (by kernel_rfl)
theorem ck296 : chkCut Try.prog Γ2 mf 1000 sp ks base Θ fin body c296 = true := chkCutH_ok [346, 346] (by kernel_rfl)
theorem ck297 : chkCut Try.prog Γ2 mf 1000 sp ks base Θ fin body c297 = true := chkCutH_ok [347, 347] (by kernel_rfl)
theorem ck298 : chkCut Try.prog Γ2 mf 1000 sp ks base Θ fin body c298 = true := chkCutH_ok [298, 298] (by kernel_rfl)
theorem ck299 : chkCut Try.prog Γ2 mf 1000 sp ks base Θ fin body c299 = true := chkCutH_ok [299, 348, 348, 349, 348, 349] (by kernel_rfl)
end Go.Proofs.Ytmmpnjcmaodkcaa.Ef.chickenKeeps
