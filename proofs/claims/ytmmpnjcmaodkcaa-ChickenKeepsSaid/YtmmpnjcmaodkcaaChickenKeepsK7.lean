/- What is proved: the ways between patterns of ChickenKeeps. Conditions: none. -/
import Derived.Test.YtmmpnjcmaodkcaaChickenKeepsC
namespace Go.Proofs.Ytmmpnjcmaodkcaa.Ef.chickenKeeps
open Go Go.RowKit Go.Proofs.Ytmmpnjcmaodkcaa.Sep Go.Proofs.Ytmmpnjcmaodkcaa.Num Go.Proofs.Ytmmpnjcmaodkcaa.Mem Go.Proofs.Ytmmpnjcmaodkcaa.Ef
open Go.Proofs.Ytmmpnjcmaodkcaa.Ev (Fast)
set_option maxRecDepth 100000
set_option linter.unusedVariables false
theorem ck210 : chkCut Try.prog Γ2 mf 1000 sp ks base Θ fin body c210 = true := chkCutH_ok [260, 260] (by kernel_rfl)
theorem ck211 : chkCut Try.prog Γ2 mf 1000 sp ks base Θ fin body c211 = true := chkCutH_ok [261, 261] (by kernel_rfl)
theorem ck212 : chkCut Try.prog Γ2 mf 1000 sp ks base Θ fin body c212 = true := chkCutH_ok [262, 262] (by kernel_rfl)
theorem ck213 : chkCut Try.prog Γ2 mf 1000 sp ks base Θ fin body c213 = true := chkCutH_ok [213, 213] (by kernel_rfl)
theorem ck214 : chkCut Try.prog Γ2 mf 1000 sp ks base Θ fin body c214 = true := chkCutH_ok [214, 263, 263, 264, 263, 264] (by kernel_rfl)
theorem ck215 : chkCut Try.prog Γ2 mf 1000 sp ks base Θ fin body c215 = true := chkCutH_ok [265, 265] (by kernel_rfl)
theorem ck216 : chkCut Try.prog Γ2 mf 1000 sp ks base Θ fin body c216 = true := chkCutH_ok [266, 266] (by kernel_rfl)
theorem ck217 : chkCut Try.prog Γ2 mf 1000 sp ks base Θ fin body c217 = true := chkCutH_ok [217, 267, 267, 268, 267, 268] (by kernel_rfl)
theorem ck218 : chkCut Try.prog Γ2 mf 1000 sp ks base Θ fin body c218 = true := chkCutH_ok [221, 221] (by kernel_rfl)
theorem ck219 : chkCut Try.prog Γ2 mf 1000 sp ks base Θ fin body c219 = true := chkCutH_ok [267, 269, 269, 270, 269, 270] (by kernel_rfl)
theorem ck220 : chkCut Try.prog Γ2 mf 1000 sp ks base Θ fin body c220 = true := chkCutH_ok [271, 271] (by kernel_rfl)
theorem ck221 : chkCut Try.prog Γ2 mf 1000 sp ks base Θ fin body c221 = true := chkCutH_ok [225, 225] (by kernel_rfl)
theorem ck222 : chkCut Try.prog Γ2 mf 1000 sp ks base Θ fin body c222 = true := chkCutH_ok [269, 272, 272, 273, 272, 273] (by kernel_rfl)
theorem ck223 : chkCut Try.prog Γ2 mf 1000 sp ks base Θ fin body c223 = true := chkCutH_ok [274, 274] (by kernel_rfl)
theorem ck224 : chkCut Try.prog Γ2 mf 1000 sp ks base Θ fin body c224 = true := chkCutH_ok [275, 275] (by kernel_rfl)
theorem ck225 : chkCut Try.prog Γ2 mf 1000 sp ks base Θ fin body c225 = true := chkCutH_ok [230, 230] (by kernel_rfl)
theorem ck226 : chkCut Try.prog Γ2 mf 1000 sp ks base Θ fin body c226 = true := chkCutH_ok [276, 226, 226, 227, 226, 227] (by kernel_rfl)
theorem ck227 : chkCut Try.prog Γ2 mf 1000 sp ks base Θ fin body c227 = true := chkCutH_ok [277, 277] (by kernel_rfl)
theorem ck228 : chkCut Try.prog Γ2 mf 1000 sp ks base Θ fin body c228 = true := chkCutH_ok [278, 278] (by kernel_rfl)
theorem ck229 : chkCut Try.prog Γ2 mf 1000 sp ks base Θ fin body c229 = true := chkCutH_ok [279, 279] (by kernel_rfl)
theorem ck230 : chkCut Try.prog Γ2 mf 1000 sp ks base Θ fin body c230 = true := chkCutH_ok [230, 230] (by kernel_rfl)
theorem ck231 : chkCut Try.prog Γ2 mf 1000 sp ks base Θ fin body c231 = true := chkCutH_ok [231, 280, 280, 281, 280, 281] (by kernel_rfl)
theorem ck232 : chkCut Try.prog Γ2 mf 1000 sp ks base Θ fin body c232 = true := chkCutH_ok [235, 235] (by kernel_rfl)
theorem ck233 : chkCut Try.prog Γ2 mf 1000 sp ks base Θ fin body c233 = true := chkCutH_ok [282, 283, 283, 284, 283, 284] (by kernel_rfl)
theorem ck234 : chkCut Try.prog Γ2 mf 1000 sp ks base Θ fin body c234 = true := chkCutH_ok [285, 285] (by kernel_rfl)
theorem ck235 : chkCut Try.prog Γ2 mf 1000 sp ks base Θ fin body c235 = true := chkCutH_ok [239, 239] (by kernel_rfl)
theorem ck236 : chkCut Try.prog Γ2 mf 1000 sp ks base Θ fin body c236 = true := chkCutH_ok [283, 286, 286, 287, 286, 287] (by kernel_rfl)
theorem ck237 : chkCut Try.prog Γ2 mf 1000 sp ks base Θ fin body c237 = true := chkCutH_ok [288, 288] (by kernel_rfl)
theorem ck238 : chkCut Try.prog Γ2 mf 1000 sp ks base Θ fin body c238 = true := chkCutH_ok [289, 289] (by kernel_rfl)
theorem ck239 : chkCut Try.prog Γ2 mf 1000 sp ks base Θ fin body c239 = true := chkCutH_ok [244, 244] (by kernel_rfl)
end Go.Proofs.Ytmmpnjcmaodkcaa.Ef.chickenKeeps
