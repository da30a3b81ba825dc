/- What is proved: the ways between patterns of ChickenKeeps. Conditions: none. -/
import Derived.Test.YtmmpnjcmaodkcaaChickenKeepsC
namespace Go.Proofs.Ytmmpnjcmaodkcaa.Ef.chickenKeeps
open Go Go.RowKit Go.Proofs.Ytmmpnjcmaodkcaa.Sep Go.Proofs.Ytmmpnjcmaodkcaa.Num Go.Proofs.Ytmmpnjcmaodkcaa.Mem Go.Proofs.Ytmmpnjcmaodkcaa.Ef
open Go.Proofs.Ytmmpnjcmaodkcaa.Ev (Fast)
set_option maxRecDepth 100000
set_option linter.unusedVariables false
theorem ck330 : chkCut Try.prog Γ2 mf 1000 sp ks base Θ fin body c330 = true := chkCutH_ok [372, 372] (by kernel_rfl)
theorem ck331 : chkCut Try.prog Γ2 mf 1000 sp ks base Θ fin body c331 = true := chkCutH_ok [331, 373, 373, 374, 373, 374] (by kernel_rfl)
theorem ck332 : chkCut Try.prog Γ2 mf 1000 sp ks base Θ fin body c332 = true := chkCutH_ok [335, 335] (by kernel_rfl)
theorem ck333 : chkCut Try.prog Γ2 mf 1000 sp ks base Θ fin body c333 = true := chkCutH_ok [373, 333, 333, 334, 333, 334] (by kernel_rfl)
theorem ck334 : chkCut Try.prog Γ2 mf 1000 sp ks base Θ fin body c334 = true := chkCutH_ok [375, 375] (by kernel_rfl)
theorem ck335 : chkCut Try.prog Γ2 mf 1000 sp ks base Θ fin body c335 = true := chkCutH_ok [338, 338] (by kernel_rfl)
theorem ck336 : chkCut Try.prog Γ2 mf 1000 sp ks base Θ fin body c336 = true := chkCutH_ok [290, 336, 336, 376, 336, 376] (by kernel_rfl)
theorem ck337 : chkCut Try.prog Γ2 mf 1000 sp ks base Θ fin body c337 = true := chkCutH_ok [377, 377] (by kernel_rfl)
theorem ck338 : chkCut Try.prog Γ2 mf 1000 sp ks base Θ fin body c338 = true := chkCutH_ok [342, 342] (by kernel_rfl)
theorem ck339 : chkCut Try.prog Γ2 mf 1000 sp ks base Θ fin body c339 = true := chkCutH_ok [339, 339, 339, 378, 339, 378] (by kernel_rfl)
theorem ck340 : chkCut Try.prog Γ2 mf 1000 sp ks base Θ fin body c340 = true := chkCutH_ok [379, 379] (by kernel_rfl)
theorem ck341 : chkCut Try.prog Γ2 mf 1000 sp ks base Θ fin body c341 = true := chkCutH_ok [380, 380] (by kernel_rfl)
theorem ck342 : chkCut Try.prog Γ2 mf 1000 sp ks base Θ fin body c342 = true := chkCutH_ok [342, 342] (by kernel_rfl)
theorem ck343 : chkCut Try.prog Γ2 mf 1000 sp ks base Θ fin body c343 = true := chkCutH_ok [343, 343, 343, 344, 343, 344] (by kernel_rfl)
theorem ck344 : chkCut Try.prog Γ2 mf 1000 sp ks base Θ fin body c344 = true := chkCutH_ok [381, 381] (by kernel_rfl)
theorem ck345 : chkCut Try.prog Γ2 mf 1000 sp ks base Θ fin body c345 = true := chkCutH_ok [382, 382] (by kernel_rfl)
theorem ck346 : chkCut Try.prog Γ2 mf 1000 sp ks base Θ fin body c346 = true := chkCutH_ok [383, 383] (by kernel_rfl)
theorem ck347 : chkCut Try.prog Γ2 mf 1000 sp ks base Θ fin body c347 = true := chkCutH_ok [347, 347] (by kernel_rfl)
theorem ck348 : chkCut Try.prog Γ2 mf 1000 sp ks base Θ fin body c348 = true := chkCutH_ok [348, 348, 348, 349, 348, 349] (by kernel_rfl)
theorem ck349 : chkCut Try.prog Γ2 mf 1000 sp ks base Θ fin body c349 = true := chkCutH_ok [350, 350] (by kernel_rfl)
theorem ck350 : chkCut Try.prog Γ2 mf 1000 sp ks base Θ fin body c350 = true := chkCutH_ok [384, 384] (by kernel_rfl)
theorem ck351 : chkCut Try.prog Γ2 mf 1000 sp ks base Θ fin body c351 = true := chkCutH_ok [260, 260] (by kernel_rfl)
theorem ck352 : chkCut Try.prog Γ2 mf 1000 sp ks base Θ fin body c352 = true := chkCutH_ok [355, 355] (by kernel_rfl)
theorem ck353 : chkCut Try.prog Γ2 mf 1000 sp ks base Θ fin body c353 = true := chkCutH_ok [354, 354] (by kernel_rfl)
theorem ck354 : chkCut Try.prog Γ2 mf 1000 sp ks base Θ fin body c354 = true := chkCutH_ok [309, 309] (by kernel_rfl)
theorem ck355 : chkCut Try.prog Γ2 mf 1000 sp ks base Θ fin body c355 = true := chkCutH_ok [355, 355] (by kernel_rfl)
theorem ck356 : chkCut Try.prog Γ2 mf 1000 sp ks base Θ fin body c356 = true := chkCutH_ok [356, 356, 356, 357, 356, 357] (by kernel_rfl)
theorem ck357 : chkCut Try.prog Γ2 mf 1000 sp ks base Θ fin body c357 = true := chkCutH_ok [385, 385] (by kernel_rfl)
theorem ck358 : chkCut Try.prog Γ2 mf 1000 sp ks base Θ fin body c358 = true := chkCutH_ok [386, 386] (by kernel_rfl)
theorem ck359 : chkCut Try.prog Γ2 mf 1000 sp ks base Θ fin body c359 = true := chkCutH_ok [387, 387] (by kernel_rfl)
end Go.Proofs.Ytmmpnjcmaodkcaa.Ef.chickenKeeps
