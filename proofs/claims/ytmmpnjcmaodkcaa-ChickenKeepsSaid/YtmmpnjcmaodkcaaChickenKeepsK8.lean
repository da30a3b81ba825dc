/- What is proved: the ways between patterns of ChickenKeeps. Conditions: none. -/
import Derived.Test.YtmmpnjcmaodkcaaChickenKeepsC
namespace Go.Proofs.Ytmmpnjcmaodkcaa.Ef.chickenKeeps
open Go Go.RowKit Go.Proofs.Ytmmpnjcmaodkcaa.Sep Go.Proofs.Ytmmpnjcmaodkcaa.Num Go.Proofs.Ytmmpnjcmaodkcaa.Mem Go.Proofs.Ytmmpnjcmaodkcaa.Ef
open Go.Proofs.Ytmmpnjcmaodkcaa.Ev (Fast)
set_option maxRecDepth 100000
set_option linter.unusedVariables false
theorem ck240 : chkCut Try.prog Γ2 mf 1000 sp ks base Θ fin body c240 = true := chkCutH_ok [290, 240, 240, 241, 240, 241] (by kernel_rfl)
theorem ck241 : chkCut Try.prog Γ2 mf 1000 sp ks base Θ fin body c241 = true := chkCutH_ok [291, 291] (by kernel_rfl)
theorem ck242 : chkCut Try.prog Γ2 mf 1000 sp ks base Θ fin body c242 = true := chkCutH_ok [292, 292] (by kernel_rfl)
theorem ck243 : chkCut Try.prog Γ2 mf 1000 sp ks base Θ fin body c243 = true := chkCutH_ok [293, 293] (by kernel_rfl)
theorem ck244 : chkCut Try.prog Γ2 mf 1000 sp ks base Θ fin body c244 = true := chkCutH_ok [244, 244] (by kernel_rfl)
theorem ck245 : chkCut Try.prog Γ2 mf 1000 sp ks base Θ fin body c245 = true := chkCutH_ok [245, 294, 294, 295, 294, 295] (by kernel_rfl)
theorem ck246 : chkCut Try.prog Γ2 mf 1000 sp ks base Θ fin body c246 = true := chkCutH_ok [296, 296] (by kernel_rfl)
theorem ck247 : chkCut Try.prog Γ2 mf 1000 sp ks base Θ fin body c247 = true := chkCutH_ok [297, 297] (by kernel_rfl)
theorem ck248 : chkCut Try.prog Γ2 mf 1000 sp ks base Θ fin body c248 = true := chkCutH_ok [298, 298] (by kernel_rfl)
theorem ck249 : chkCut Try.prog Γ2 mf 1000 sp ks base Θ fin body c249 = true := chkCutH_ok [249, 249] (by kernel_rfl)
theorem ck250 : chkCut Try.prog Γ2 mf 1000 sp ks base Θ fin body c250 = true := chkCutH_ok [250, 299, 299, 300, 299, 300] (by kernel_rfl)
theorem ck251 : chkCut Try.prog Γ2 mf 1000 sp ks base Θ fin body c251 = true := chkCutH_ok [254, 254] (by kernel_rfl)
theorem ck252 : chkCut Try.prog Γ2 mf 1000 sp ks base Θ fin body c252 = true := chkCutH_ok [299, 301, 301, 302, 301, 302] (by kernel_rfl)
theorem ck253 : chkCut Try.prog Γ2 mf 1000 sp ks base Θ fin body c253 = true := chkCutH_ok [303, 303] (by kernel_rfl)
theorem ck254 : chkCut Try.prog Γ2 mf 1000 sp ks base Θ fin body c254 = true := chkCutH_ok [258, 258] (by kernel_rfl)
theorem ck255 : chkCut Try.prog Γ2 mf 1000 sp ks base Θ fin body c255 = true := chkCutH_ok [304, 255, 255, 256, 255, 256] (by kernel_rfl)
theorem ck256 : chkCut Try.prog Γ2 mf 1000 sp ks base Θ fin body c256 = true := chkCutH_ok [305, 305] (by kernel_rfl)
theorem ck257 : chkCut Try.prog Γ2 mf 1000 sp ks base Θ fin body c257 = true := chkCutH_ok [306, 306] (by kernel_rfl)
theorem ck258 : chkCut Try.prog Γ2 mf 1000 sp ks base Θ fin body c258 = true := chkCutH_ok [262, 262] (by kernel_rfl)
theorem ck259 : chkCut Try.prog Γ2 mf 1000 sp ks base Θ fin body c259 = true := chkCutH_ok [307, 259, 259, 308, 259, 308] (by kernel_rfl)
theorem ck260 : chkCut Try.prog Γ2 mf 1000 sp ks base Θ fin body c260 = true := chkCutH_ok [309, 309] (by kernel_rfl)
theorem ck261 : chkCut Try.prog Γ2 mf 1000 sp ks base Θ fin body c261 = true := chkCutH_ok [310, 310] (by kernel_rfl)
theorem ck262 : chkCut Try.prog Γ2 mf 1000 sp ks base Θ fin body c262 = true := chkCutH_ok [262, 262] (by kernel_rfl)
theorem ck263 : chkCut Try.prog Γ2 mf 1000 sp ks base Θ fin body c263 = true := chkCutH_ok [263, 311, 311, 312, 311, 312] (by kernel_rfl)
theorem ck264 : chkCut Try.prog Γ2 mf 1000 sp ks base Θ fin body c264 = true := chkCutH_ok [313, 313] (by kernel_rfl)
theorem ck265 : chkCut Try.prog Γ2 mf 1000 sp ks base Θ fin body c265 = true := chkCutH_ok [314, 314] (by kernel_rfl)
theorem ck266 : chkCut Try.prog Γ2 mf 1000 sp ks base Θ fin body c266 = true := chkCutH_ok [315, 315] (by kernel_rfl)
theorem ck267 : chkCut Try.prog Γ2 mf 1000 sp ks base Θ fin body c267 = true := chkCutH_ok [267, 316, 316, 317, 316, 317] (by kernel_rfl)
theorem ck268 : chkCut Try.prog Γ2 mf 1000 sp ks base Θ fin body c268 = true := chkCutH_ok [271, 271] (by kernel_rfl)
theorem ck269 : chkCut Try.prog Γ2 mf 1000 sp ks base Θ fin body c269 = true := chkCutH_ok [316, 318, 318, 319, 318, 319] (by kernel_rfl)
end Go.Proofs.Ytmmpnjcmaodkcaa.Ef.chickenKeeps
