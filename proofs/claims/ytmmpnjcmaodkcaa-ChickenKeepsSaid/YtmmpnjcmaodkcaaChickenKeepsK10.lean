/- What is proved: the ways between patterns of ChickenKeeps. Conditions: none. -/
import Derived.Test.YtmmpnjcmaodkcaaChickenKeepsC
namespace Go.Proofs.Ytmmpnjcmaodkcaa.Ef.chickenKeeps
open Go Go.RowKit Go.Proofs.Ytmmpnjcmaodkcaa.Sep Go.Proofs.Ytmmpnjcmaodkcaa.Num Go.Proofs.Ytmmpnjcmaodkcaa.Mem Go.Proofs.Ytmmpnjcmaodkcaa.Ef
open Go.Proofs.Ytmmpnjcmaodkcaa.Ev (Fast)
set_option maxRecDepth 100000
set_option linter.unusedVariables false
theorem ck300 : chkCut Try.prog Γ2 mf 1000 sp ks base Θ fin body c300 = true := chkCutH_ok [303, 303] (by kernel_rfl)
theorem ck301 : chkCut Try.prog Γ2 mf 1000 sp ks base Θ fin body c301 = true := chkCutH_ok [348, 301, 301, 302, 301, 302] (by kernel_rfl)
theorem ck302 : chkCut Try.prog Γ2 mf 1000 sp ks base Θ fin body c302 = true := chkCutH_ok [350, 350] (by kernel_rfl)
theorem ck303 : chkCut Try.prog Γ2 mf 1000 sp ks base Θ fin body c303 = true := chkCutH_ok [306, 306] (by kernel_rfl)
theorem ck304 : chkCut Try.prog Γ2 mf 1000 sp ks base Θ fin body c304 = true := chkCutH_ok [259, 304, 304, 351, 304, 351] (by kernel_rfl)
theorem ck305 : chkCut Try.prog Γ2 mf 1000 sp ks base Θ fin body c305 = true := chkCutH_ok [352, 352] (by kernel_rfl)
theorem ck306 : chkCut Try.prog Γ2 mf 1000 sp ks base Θ fin body c306 = true := chkCutH_ok [310, 310] (by kernel_rfl)
theorem ck307 : chkCut Try.prog Γ2 mf 1000 sp ks base Θ fin body c307 = true := chkCutH_ok [307, 307, 307, 353, 307, 353] (by kernel_rfl)
theorem ck308 : chkCut Try.prog Γ2 mf 1000 sp ks base Θ fin body c308 = true := chkCutH_ok [354, 354] (by kernel_rfl)
theorem ck309 : chkCut Try.prog Γ2 mf 1000 sp ks base Θ fin body c309 = true := chkCutH_ok [355, 355] (by kernel_rfl)
theorem ck310 : chkCut Try.prog Γ2 mf 1000 sp ks base Θ fin body c310 = true := chkCutH_ok [310, 310] (by kernel_rfl)
theorem ck311 : chkCut Try.prog Γ2 mf 1000 sp ks base Θ fin body c311 = true := chkCutH_ok [311, 356, 356, 357, 356, 357] (by kernel_rfl)
theorem ck312 : chkCut Try.prog Γ2 mf 1000 sp ks base Θ fin body c312 = true := chkCutH_ok [358, 358] (by kernel_rfl)
theorem ck313 : chkCut Try.prog Γ2 mf 1000 sp ks base Θ fin body c313 = true := chkCutH_ok [359, 359] (by kernel_rfl)
theorem ck314 : chkCut Try.prog Γ2 mf 1000 sp ks base Θ fin body c314 = true := chkCutH_ok [360, 360] (by kernel_rfl)
theorem ck315 : chkCut Try.prog Γ2 mf 1000 sp ks base Θ fin body c315 = true := chkCutH_ok [315, 315] (by kernel_rfl)
theorem ck316 : chkCut Try.prog Γ2 mf 1000 sp ks base Θ fin body c316 = true := chkCutH_ok [316, 361, 361, 362, 361, 362] (by kernel_rfl)
theorem ck317 : chkCut Try.prog Γ2 mf 1000 sp ks base Θ fin body c317 = true := chkCutH_ok [320, 320] (by kernel_rfl)
theorem ck318 : chkCut Try.prog Γ2 mf 1000 sp ks base Θ fin body c318 = true := chkCutH_ok [361, 318, 318, 319, 318, 319] (by kernel_rfl)
theorem ck319 : chkCut Try.prog Γ2 mf 1000 sp ks base Θ fin body c319 = true := chkCutH_ok [363, 363] (by kernel_rfl)
theorem ck320 : chkCut Try.prog Γ2 mf 1000 sp ks base Θ fin body c320 = true := chkCutH_ok [323, 323] (by kernel_rfl)
theorem ck321 : chkCut Try.prog Γ2 mf 1000 sp ks base Θ fin body c321 = true := chkCutH_ok [276, 321, 321, 364, 321, 364] (by kernel_rfl)
theorem ck322 : chkCut Try.prog Γ2 mf 1000 sp ks base Θ fin body c322 = true := chkCutH_ok [365, 365] (by kernel_rfl)
theorem ck323 : chkCut Try.prog Γ2 mf 1000 sp ks base Θ fin body c323 = true := chkCutH_ok [327, 327] (by kernel_rfl)
theorem ck324 : chkCut Try.prog Γ2 mf 1000 sp ks base Θ fin body c324 = true := chkCutH_ok [324, 324, 324, 366, 324, 366] (by kernel_rfl)
theorem ck325 : chkCut Try.prog Γ2 mf 1000 sp ks base Θ fin body c325 = true := chkCutH_ok [367, 367] (by kernel_rfl)
theorem ck326 : chkCut Try.prog Γ2 mf 1000 sp ks base Θ fin body c326 = true := chkCutH_ok [368, 368] (by kernel_rfl)
theorem ck327 : chkCut Try.prog Γ2 mf 1000 sp ks base Θ fin body c327 = true := chkCutH_ok [327, 327] (by kernel_rfl)
theorem ck328 : chkCut Try.prog Γ2 mf 1000 sp ks base Θ fin body c328 = true := chkCutH_ok [328, 369, 369, 370, 369, 370] (by kernel_rfl)
theorem ck329 : chkCut Try.prog Γ2 mf 1000 sp ks base Θ fin body c329 = true := chkCutH_ok [371, 371] (by kernel_rfl)
end Go.Proofs.Ytmmpnjcmaodkcaa.Ef.chickenKeeps
