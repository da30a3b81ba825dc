/- What is proved: the ways between patterns of ChickenKeeps. Conditions: none. -/
import Derived.Test.YtmmpnjcmaodkcaaChickenKeepsC
namespace Go.Proofs.Ytmmpnjcmaodkcaa.Ef.chickenKeeps
open Go Go.RowKit Go.Proofs.Ytmmpnjcmaodkcaa.Sep Go.Proofs.Ytmmpnjcmaodkcaa.Num Go.Proofs.Ytmmpnjcmaodkcaa.Mem Go.Proofs.Ytmmpnjcmaodkcaa.Ef
open Go.Proofs.Ytmmpnjcmaodkcaa.Ev (Fast)
set_option maxRecDepth 100000
set_option linter.unusedVariables false
theorem ck180 : chkCut Try.prog Γ2 mf 1000 sp ks base Θ fin body c180 = true := chkCutH_ok [180, 180] (by kernel_rfl)
theorem ck181 : chkCut Try.prog Γ2 mf 1000 sp ks base Θ fin body c181 = true := chkCutH_ok [181, 231, 231, 232, 231, 232] (by kernel_rfl)
theorem ck182 : chkCut Try.prog Γ2 mf 1000 sp ks base Θ fin body c182 = true := chkCutH_ok [185, 185] (by kernel_rfl)
theorem ck183 : chkCut Try.prog Γ2 mf 1000 sp ks base Θ fin body c183 = true := chkCutH_ok [231, 233, 233, 234, 233, 234] (by kernel_rfl)
theorem ck184 : chkCut Try.prog Γ2 mf 1000 sp ks base Θ fin body c184 = true := chkCutH_ok [235, 235] (by kernel_rfl)
theorem ck185 : chkCut Try.prog Γ2 mf 1000 sp ks base Θ fin body c185 = true := chkCutH_ok [189, 189] (by kernel_rfl)
theorem ck186 : chkCut Try.prog Γ2 mf 1000 sp ks base Θ fin body c186 = true := chkCutH_ok [233, 236, 236, 237, 236, 237] (by kernel_rfl)
theorem ck187 : chkCut Try.prog Γ2 mf 1000 sp ks base Θ fin body c187 = true := chkCutH_ok [238, 238] (by kernel_rfl)
theorem ck188 : chkCut Try.prog Γ2 mf 1000 sp ks base Θ fin body c188 = true := chkCutH_ok [239, 239] (by kernel_rfl)
theorem ck189 : chkCut Try.prog Γ2 mf 1000 sp ks base Θ fin body c189 = true := chkCutH_ok [194, 194] (by kernel_rfl)
theorem ck190 : chkCut Try.prog Γ2 mf 1000 sp ks base Θ fin body c190 = true := chkCutH_ok [236, 240, 240, 241, 240, 241] (by kernel_rfl)
theorem ck191 : chkCut Try.prog Γ2 mf 1000 sp ks base Θ fin body c191 = true := chkCutH_ok [242, 242] (by kernel_rfl)
theorem ck192 : chkCut Try.prog Γ2 mf 1000 sp ks base Θ fin body c192 = true := chkCutH_ok [243, 243] (by kernel_rfl)
theorem ck193 : chkCut Try.prog Γ2 mf 1000 sp ks base Θ fin body c193 = true := chkCutH_ok [244, 244] (by kernel_rfl)
theorem ck194 : chkCut Try.prog Γ2 mf 1000 sp ks base Θ fin body c194 = true := chkCutH_ok [194, 194] (by kernel_rfl)
theorem ck195 : chkCut Try.prog Γ2 mf 1000 sp ks base Θ fin body c195 = true := chkCutH_ok [195, 245, 245, 246, 245, 246] (by kernel_rfl)
theorem ck196 : chkCut Try.prog Γ2 mf 1000 sp ks base Θ fin body c196 = true := chkCutH_ok [247, 247] (by kernel_rfl)
theorem ck197 : chkCut Try.prog Γ2 mf 1000 sp ks base Θ fin body c197 = true := chkCutH_ok [248, 248] (by kernel_rfl)
theorem ck198 : chkCut Try.prog Γ2 mf 1000 sp ks base Θ fin body c198 = true := chkCutH_ok [249, 249] (by kernel_rfl)
theorem ck199 : chkCut Try.prog Γ2 mf 1000 sp ks base Θ fin body c199 = true := chkCutH_ok [199, 199] (by kernel_rfl)
theorem ck200 : chkCut Try.prog Γ2 mf 1000 sp ks base Θ fin body c200 = true := chkCutH_ok [200, 250, 250, 251, 250, 251] (by kernel_rfl)
theorem ck201 : chkCut Try.prog Γ2 mf 1000 sp ks base Θ fin body c201 = true := chkCutH_ok [204, 204] (by kernel_rfl)
theorem ck202 : chkCut Try.prog Γ2 mf 1000 sp ks base Θ fin body c202 = true := chkCutH_ok [250, 252, 252, 253, 252, 253] (by kernel_rfl)
theorem ck203 : chkCut Try.prog Γ2 mf 1000 sp ks base Θ fin body c203 = true := chkCutH_ok [254, 254] (by kernel_rfl)
theorem ck204 : chkCut Try.prog Γ2 mf 1000 sp ks base Θ fin body c204 = true := chkCutH_ok [208, 208] (by kernel_rfl)
theorem ck205 : chkCut Try.prog Γ2 mf 1000 sp ks base Θ fin body c205 = true := chkCutH_ok [252, 255, 255, 256, 255, 256] (by kernel_rfl)
theorem ck206 : chkCut Try.prog Γ2 mf 1000 sp ks base Θ fin body c206 = true := chkCutH_ok [257, 257] (by kernel_rfl)
theorem ck207 : chkCut Try.prog Γ2 mf 1000 sp ks base Θ fin body c207 = true := chkCutH_ok [258, 258] (by kernel_rfl)
theorem ck208 : chkCut Try.prog Γ2 mf 1000 sp ks base Θ fin body c208 = true := chkCutH_ok [213, 213] (by kernel_rfl)
theorem ck209 : chkCut Try.prog Γ2 mf 1000 sp ks base Θ fin body c209 = true := chkCutH_ok [259, 209, 209, 210, 209, 210] (by kernel_rfl)
end Go.Proofs.Ytmmpnjcmaodkcaa.Ef.chickenKeeps
