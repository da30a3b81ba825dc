/- What is proved: the ways between patterns of ChickenReads. Conditions: none. -/
import Derived.Test.YtmmpnjcmaodkcaaChickenReadsC
namespace Go.Proofs.Ytmmpnjcmaodkcaa.Ef.chickenReads
open Go Go.RowKit Go.Proofs.Ytmmpnjcmaodkcaa.Sep Go.Proofs.Ytmmpnjcmaodkcaa.Num Go.Proofs.Ytmmpnjcmaodkcaa.Mem Go.Proofs.Ytmmpnjcmaodkcaa.Ef
open Go.Proofs.Ytmmpnjcmaodkcaa.Ev (Fast)
set_option maxRecDepth 100000
set_option linter.unusedVariables false
theorem ck280 : chkCut Try.prog Γ2 mf 1000 sp ks base Θ fin body c280 = true := chkCutH_ok [] (by kernel_rfl)
theorem ck281 : chkCut Try.prog Γ2 mf 1000 sp ks base Θ fin body c281 = true := chkCutH_ok [] (by kernel_rfl)
theorem ck282 : chkCut Try.prog Γ2 mf 1000 sp ks base Θ fin body c282 = true := chkCutH_ok [294, 282, 282, 295, 282, 295] (by kernel_rfl)
theorem ck283 : chkCut Try.prog Γ2 mf 1000 sp ks base Θ fin body c283 = true := chkCutH_ok [296, 296] (by kernel_rfl)
theorem ck284 : chkCut Try.prog Γ2 mf 1000 sp ks base Θ fin body c284 = true := chkCutH_ok [297, 297] (by kernel_rfl)
theorem ck285 : chkCut Try.prog Γ2 mf 1000 sp ks base Θ fin body c285 = true := chkCutH_ok [] (by kernel_rfl)
theorem ck286 : chkCut Try.prog Γ2 mf 1000 sp ks base Θ fin body c286 = true := chkCutH_ok [298, 286, 286, 299, 286, 299] (by kernel_rfl)
theorem ck287 : chkCut Try.prog Γ2 mf 1000 sp ks base Θ fin body c287 = true := chkCutH_ok [300, 300] (by kernel_rfl)
theorem ck288 : chkCut Try.prog Γ2 mf 1000 sp ks base Θ fin body c288 = true := chkCutH_ok [301, 301] (by kernel_rfl)
theorem ck289 : chkCut Try.prog Γ2 mf 1000 sp ks base Θ fin body c289 = true := chkCutH_ok [] (by kernel_rfl)
theorem ck290 : chkCut Try.prog Γ2 mf 1000 sp ks base Θ fin body c290 = true := chkCutH_ok [302, 290, 290, 303, 290, 303] (by kernel_rfl)
theorem ck291 : chkCut Try.prog Γ2 mf 1000 sp ks base Θ fin body c291 = true := chkCutH_ok [304, 304] (by kernel_rfl)
theorem ck292 : chkCut Try.prog Γ2 mf 1000 sp ks base Θ fin body c292 = true := chkCutH_ok [305, 305] (by kernel_rfl)
theorem ck293 : chkCut Try.prog Γ2 mf 1000 sp ks base Θ fin body c293 = true := chkCutH_ok [] (by kernel_rfl)
theorem ck294 : chkCut Try.prog Γ2 mf 1000 sp ks base Θ fin body c294 = true := chkCutH_ok [] (by kernel_rfl)
theorem ck295 : chkCut Try.prog Γ2 mf 1000 sp ks base Θ fin body c295 = true := chkCutH_ok [306, 306] (by kernel_rfl)
theorem ck296 : chkCut Try.prog Γ2 mf 1000 sp ks base Θ fin body c296 = true := chkCutH_ok [] (by kernel_rfl)
theorem ck297 : chkCut Try.prog Γ2 mf 1000 sp ks base Θ fin body c297 = true := chkCutH_ok [] (by kernel_rfl)
theorem ck298 : chkCut Try.prog Γ2 mf 1000 sp ks base Θ fin body c298 = true := chkCutH_ok [] (by kernel_rfl)
theorem ck299 : chkCut Try.prog Γ2 mf 1000 sp ks base Θ fin body c299 = true := chkCutH_ok [307, 307] (by kernel_rfl)
theorem ck300 : chkCut Try.prog Γ2 mf 1000 sp ks base Θ fin body c300 = true := chkCutH_ok [] (by kernel_rfl)
theorem ck301 : chkCut Try.prog Γ2 mf 1000 sp ks base Θ fin body c301 = true := chkCutH_ok [] (by kernel_rfl)
theorem ck302 : chkCut Try.prog Γ2 mf 1000 sp ks base Θ fin body c302 = true := chkCutH_ok [] (by kernel_rfl)
theorem ck303 : chkCut Try.prog Γ2 mf 1000 sp ks base Θ fin body c303 = true := chkCutH_ok [308, 308] (by kernel_rfl)
theorem ck304 : chkCut Try.prog Γ2 mf 1000 sp ks base Θ fin body c304 = true := chkCutH_ok [] (by kernel_rfl)
theorem ck305 : chkCut Try.prog Γ2 mf 1000 sp ks base Θ fin body c305 = true := chkCutH_ok [] (by kernel_rfl)
theorem ck306 : chkCut Try.prog Γ2 mf 1000 sp ks base Θ fin body c306 = true := chkCutH_ok [] (by kernel_rfl)
theorem ck307 : chkCut Try.prog Γ2 mf 1000 sp ks base Θ fin body c307 = true := chkCutH_ok [] (by kernel_rfl)
theorem ck308 : chkCut Try.prog Γ2 mf 1000 sp ks base Θ fin body c308 = true := chkCutH_ok [] (by kernel_rfl)
end Go.Proofs.Ytmmpnjcmaodkcaa.Ef.chickenReads
