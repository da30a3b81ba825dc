/- What is proved: the ways between patterns of ChickenKeeps. Conditions: none. -/
import Derived.Test.YtmmpnjcmaodkcaaChickenKeepsC
namespace Go.Proofs.Ytmmpnjcmaodkcaa.Ef.chickenKeeps
open Go Go.RowKit Go.Proofs.Ytmmpnjcmaodkcaa.Sep Go.Proofs.Ytmmpnjcmaodkcaa.Num Go.Proofs.Ytmmpnjcmaodkcaa.Mem Go.Proofs.Ytmmpnjcmaodkcaa.Ef
open Go.Proofs.Ytmmpnjcmaodkcaa.Ev (Fast)
set_option maxRecDepth 100000
set_option linter.unusedVariables false
theorem ck360 : chkCut Try.prog Γ2 mf 1000 sp ks base Θ fin body c360 = true := chkCutH_ok [360, 360] (by kernel_rfl)
theorem ck361 : chkCut Try.prog Γ2 mf 1000 sp ks base Θ fin body c361 = true := chkCutH_ok [361, 361, 361, 362, 361, 362] (by kernel_rfl)
theorem ck362 : chkCut Try.prog Γ2 mf 1000 sp ks base Θ fin body c362 = true := chkCutH_ok [363, 363] (by kernel_rfl)
theorem ck363 : chkCut Try.prog Γ2 mf 1000 sp ks base Θ fin body c363 = true := chkCutH_ok [388, 388] (by kernel_rfl)
theorem ck364 : chkCut Try.prog Γ2 mf 1000 sp ks base Θ fin body c364 = true := chkCutH_ok [277, 277] (by kernel_rfl)
theorem ck365 : chkCut Try.prog Γ2 mf 1000 sp ks base Θ fin body c365 = true := chkCutH_ok [368, 368] (by kernel_rfl)
theorem ck366 : chkCut Try.prog Γ2 mf 1000 sp ks base Θ fin body c366 = true := chkCutH_ok [367, 367] (by kernel_rfl)
theorem ck367 : chkCut Try.prog Γ2 mf 1000 sp ks base Θ fin body c367 = true := chkCutH_ok [326, 326] (by kernel_rfl)
theorem ck368 : chkCut Try.prog Γ2 mf 1000 sp ks base Θ fin body c368 = true := chkCutH_ok [368, 368] (by kernel_rfl)
theorem ck369 : chkCut Try.prog Γ2 mf 1000 sp ks base Θ fin body c369 = true := chkCutH_ok [369, 369, 369, 370, 369, 370] (by kernel_rfl)
theorem ck370 : chkCut Try.prog Γ2 mf 1000 sp ks base Θ fin body c370 = true := chkCutH_ok [389, 389] (by kernel_rfl)
theorem ck371 : chkCut Try.prog Γ2 mf 1000 sp ks base Θ fin body c371 = true := chkCutH_ok [390, 390] (by kernel_rfl)
theorem ck372 : chkCut Try.prog Γ2 mf 1000 sp ks base Θ fin body c372 = true := chkCutH_ok [391, 391] (by kernel_rfl)
theorem ck373 : chkCut Try.prog Γ2 mf 1000 sp ks base Θ fin body c373 = true := chkCutH_ok [373, 373, 373, 374, 373, 374] (by kernel_rfl)
theorem ck374 : chkCut Try.prog Γ2 mf 1000 sp ks base Θ fin body c374 = true := chkCutH_ok [375, 375] (by kernel_rfl)
theorem ck375 : chkCut Try.prog Γ2 mf 1000 sp ks base Θ fin body c375 = true := chkCutH_ok [392, 392] (by kernel_rfl)
theorem ck376 : chkCut Try.prog Γ2 mf 1000 sp ks base Θ fin body c376 = true := chkCutH_ok [291, 291] (by kernel_rfl)
theorem ck377 : chkCut Try.prog Γ2 mf 1000 sp ks base Θ fin body c377 = true := chkCutH_ok [380, 380] (by kernel_rfl)
theorem ck378 : chkCut Try.prog Γ2 mf 1000 sp ks base Θ fin body c378 = true := chkCutH_ok [379, 379] (by kernel_rfl)
theorem ck379 : chkCut Try.prog Γ2 mf 1000 sp ks base Θ fin body c379 = true := chkCutH_ok [341, 341] (by kernel_rfl)
theorem ck380 : chkCut Try.prog Γ2 mf 1000 sp ks base Θ fin body c380 = true := chkCutH_ok [380, 380] (by kernel_rfl)
theorem ck381 : chkCut Try.prog Γ2 mf 1000 sp ks base Θ fin body c381 = true := chkCutH_ok [393, 393] (by kernel_rfl)
theorem ck382 : chkCut Try.prog Γ2 mf 1000 sp ks base Θ fin body c382 = true := chkCutH_ok [394, 394] (by kernel_rfl)
theorem ck383 : chkCut Try.prog Γ2 mf 1000 sp ks base Θ fin body c383 = true := chkCutH_ok [383, 383] (by kernel_rfl)
theorem ck384 : chkCut Try.prog Γ2 mf 1000 sp ks base Θ fin body c384 = true := chkCutH_ok [395, 395] (by kernel_rfl)
theorem ck385 : chkCut Try.prog Γ2 mf 1000 sp ks base Θ fin body c385 = true := chkCutH_ok [396, 396] (by kernel_rfl)
theorem ck386 : chkCut Try.prog Γ2 mf 1000 sp ks base Θ fin body c386 = true := chkCutH_ok [397, 397] (by kernel_rfl)
theorem ck387 : chkCut Try.prog Γ2 mf 1000 sp ks base Θ fin body c387 = true := chkCutH_ok [387, 387] (by kernel_rfl)
theorem ck388 : chkCut Try.prog Γ2 mf 1000 sp ks base Θ fin body c388 = true := chkCutH_ok [398, 398] (by kernel_rfl)
theorem ck389 : chkCut Try.prog Γ2 mf 1000 sp ks base Θ fin body c389 = true := chkCutH_ok [399, 399] (by kernel_rfl)
end Go.Proofs.Ytmmpnjcmaodkcaa.Ef.chickenKeeps
