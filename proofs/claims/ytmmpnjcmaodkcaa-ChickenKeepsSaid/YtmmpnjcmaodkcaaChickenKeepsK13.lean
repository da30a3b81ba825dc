/- What is proved: the ways between patterns of ChickenKeeps. Conditions: none. -/
import Derived.Test.YtmmpnjcmaodkcaaChickenKeepsC
namespace Go.Proofs.Ytmmpnjcmaodkcaa.Ef.chickenKeeps
open Go Go.RowKit Go.Proofs.Ytmmpnjcmaodkcaa.Sep Go.Proofs.Ytmmpnjcmaodkcaa.Num Go.Proofs.Ytmmpnjcmaodkcaa.Mem Go.Proofs.Ytmmpnjcmaodkcaa.Ef
open Go.Proofs.Ytmmpnjcmaodkcaa.Ev (Fast)
set_option maxRecDepth 100000
set_option linter.unusedVariables false
theorem ck390 : chkCut Try.prog Γ2 mf 1000 sp ks base Θ fin body c390 = true := chkCutH_ok [400, 400] (by kernel_rfl)
theorem ck391 : chkCut Try.prog Γ2 mf 1000 sp ks base Θ fin body c391 = true := chkCutH_ok [391, 391] (by kernel_rfl)
theorem ck392 : chkCut Try.prog Γ2 mf 1000 sp ks base Θ fin body c392 = true := chkCutH_ok [401, 401] (by kernel_rfl)
theorem ck393 : chkCut Try.prog Γ2 mf 1000 sp ks base Θ fin body c393 = true := chkCutH_ok [402, 402] (by kernel_rfl)
theorem ck394 : chkCut Try.prog Γ2 mf 1000 sp ks base Θ fin body c394 = true := chkCutH_ok [394, 394] (by kernel_rfl)
theorem ck395 : chkCut Try.prog Γ2 mf 1000 sp ks base Θ fin body c395 = true := chkCutH_ok [395, 395] (by kernel_rfl)
theorem ck396 : chkCut Try.prog Γ2 mf 1000 sp ks base Θ fin body c396 = true := chkCutH_ok [403, 403] (by kernel_rfl)
theorem ck397 : chkCut Try.prog Γ2 mf 1000 sp ks base Θ fin body c397 = true := chkCutH_ok [397, 397] (by kernel_rfl)
theorem ck398 : chkCut Try.prog Γ2 mf 1000 sp ks base Θ fin body c398 = true := chkCutH_ok [398, 398] (by kernel_rfl)
theorem ck399 : chkCut Try.prog Γ2 mf 1000 sp ks base Θ fin body c399 = true := chkCutH_ok [404, 404] (by kernel_rfl)
theorem ck400 : chkCut Try.prog Γ2 mf 1000 sp ks base Θ fin body c400 = true := chkCutH_ok [400, 400] (by kernel_rfl)
theorem ck401 : chkCut Try.prog Γ2 mf 1000 sp ks base Θ fin body c401 = true := chkCutH_ok [401, 401] (by kernel_rfl)
theorem ck402 : chkCut Try.prog Γ2 mf 1000 sp ks base Θ fin body c402 = true := chkCutH_ok [402, 402] (by kernel_rfl)
theorem ck403 : chkCut Try.prog Γ2 mf 1000 sp ks base Θ fin body c403 = true := chkCutH_ok [403, 403] (by kernel_rfl)
theorem ck404 : chkCut Try.prog Γ2 mf 1000 sp ks base Θ fin body c404 = true := chkCutH_ok [404, 404] (by kernel_rfl)
end Go.Proofs.Ytmmpnjcmaodkcaa.Ef.chickenKeeps
