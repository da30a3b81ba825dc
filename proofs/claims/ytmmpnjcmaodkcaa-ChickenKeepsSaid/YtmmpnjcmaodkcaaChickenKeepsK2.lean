/- What is proved: the ways between patterns of ChickenKeeps. Conditions: none. -/
import Derived.Test.YtmmpnjcmaodkcaaChickenKeepsC
namespace Go.Proofs.Ytmmpnjcmaodkcaa.Ef.chickenKeeps
open Go Go.RowKit Go.Proofs.Ytmmpnjcmaodkcaa.Sep Go.Proofs.Ytmmpnjcmaodkcaa.Num Go.Proofs.Ytmmpnjcmaodkcaa.Mem Go.Proofs.Ytmmpnjcmaodkcaa.Ef
open Go.Proofs.Ytmmpnjcmaodkcaa.Ev (Fast)
set_option maxRecDepth 100000
set_option linter.unusedVariables false
theorem ck60 : chkCut Try.prog Γ2 mf 1000 sp ks base Θ fin body c60 = true := chkCutH_ok [60, 103, 103, 104, 103, 104] (by kernel_rfl)
theorem ck61 : chkCut Try.prog Γ2 mf 1000 sp ks base Θ fin body c61 = true := chkCutH_ok [105, 105] (by kernel_rfl)
theorem ck62 : chkCut Try.prog Γ2 mf 1000 sp ks base Θ fin body c62 = true := chkCutH_ok [62, 106, 106, 107, 106, 107] (by kernel_rfl)
theorem ck63 : chkCut Try.prog Γ2 mf 1000 sp ks base Θ fin body c63 = true := chkCutH_ok [106, 108, 108, 109, 108, 109] (by kernel_rfl)
theorem ck64 : chkCut Try.prog Γ2 mf 1000 sp ks base Θ fin body c64 = true := chkCutH_ok [110, 110] (by kernel_rfl)
theorem ck65 : chkCut Try.prog Γ2 mf 1000 sp ks base Θ fin body c65 = true := chkCutH_ok [69, 69] (by kernel_rfl)
theorem ck66 : chkCut Try.prog Γ2 mf 1000 sp ks base Θ fin body c66 = true := chkCutH_ok [108, 111, 111, 112, 111, 112] (by kernel_rfl)
theorem ck67 : chkCut Try.prog Γ2 mf 1000 sp ks base Θ fin body c67 = true := chkCutH_ok [113, 113] (by kernel_rfl)
theorem ck68 : chkCut Try.prog Γ2 mf 1000 sp ks base Θ fin body c68 = true := chkCutH_ok [114, 114] (by kernel_rfl)
theorem ck69 : chkCut Try.prog Γ2 mf 1000 sp ks base Θ fin body c69 = true := chkCutH_ok [74, 74] (by kernel_rfl)
theorem ck70 : chkCut Try.prog Γ2 mf 1000 sp ks base Θ fin body c70 = true := chkCutH_ok [111, 115, 115, 116, 115, 116] (by kernel_rfl)
theorem ck71 : chkCut Try.prog Γ2 mf 1000 sp ks base Θ fin body c71 = true := chkCutH_ok [117, 117] (by kernel_rfl)
theorem ck72 : chkCut Try.prog Γ2 mf 1000 sp ks base Θ fin body c72 = true := chkCutH_ok [118, 118] (by kernel_rfl)
theorem ck73 : chkCut Try.prog Γ2 mf 1000 sp ks base Θ fin body c73 = true := chkCutH_ok [119, 119] (by kernel_rfl)
theorem ck74 : chkCut Try.prog Γ2 mf 1000 sp ks base Θ fin body c74 = true := chkCutH_ok [74, 74] (by kernel_rfl)
theorem ck75 : chkCut Try.prog Γ2 mf 1000 sp ks base Θ fin body c75 = true := chkCutH_ok [75, 120, 120, 121, 120, 121] (by kernel_rfl)
theorem ck76 : chkCut Try.prog Γ2 mf 1000 sp ks base Θ fin body c76 = true := chkCutH_ok [79, 79] (by kernel_rfl)
theorem ck77 : chkCut Try.prog Γ2 mf 1000 sp ks base Θ fin body c77 = true := chkCutH_ok [120, 122, 122, 123, 122, 123] (by kernel_rfl)
theorem ck78 : chkCut Try.prog Γ2 mf 1000 sp ks base Θ fin body c78 = true := chkCutH_ok [124, 124] (by kernel_rfl)
theorem ck79 : chkCut Try.prog Γ2 mf 1000 sp ks base Θ fin body c79 = true := chkCutH_ok [83, 83] (by kernel_rfl)
theorem ck80 : chkCut Try.prog Γ2 mf 1000 sp ks base Θ fin body c80 = true := chkCutH_ok [122, 125, 125, 126, 125, 126] (by kernel_rfl)
theorem ck81 : chkCut Try.prog Γ2 mf 1000 sp ks base Θ fin body c81 = true := chkCutH_ok [127, 127] (by kernel_rfl)
theorem ck82 : chkCut Try.prog Γ2 mf 1000 sp ks base Θ fin body c82 = true := chkCutH_ok [128, 128] (by kernel_rfl)
theorem ck83 : chkCut Try.prog Γ2 mf 1000 sp ks base Θ fin body c83 = true := chkCutH_ok [88, 88] (by kernel_rfl)
theorem ck84 : chkCut Try.prog Γ2 mf 1000 sp ks base Θ fin body c84 = true := chkCutH_ok [125, 129, 129, 130, 129, 130] (by kernel_rfl)
theorem ck85 : chkCut Try.prog Γ2 mf 1000 sp ks base Θ fin body c85 = true := chkCutH_ok [131, 131] (by kernel_rfl)
theorem ck86 : chkCut Try.prog Γ2 mf 1000 sp ks base Θ fin body c86 = true := chkCutH_ok [132, 132] (by kernel_rfl)
theorem ck87 : chkCut Try.prog Γ2 mf 1000 sp ks base Θ fin body c87 = true := chkCutH_ok [133, 133] (by kernel_rfl)
theorem ck88 : chkCut Try.prog Γ2 mf 1000 sp ks base Θ fin body c88 = true := chkCutH_ok [88, 88] (by kernel_rfl)
theorem ck89 : chkCut Try.prog Γ2 mf 1000 sp ks base Θ fin body c89 = true := chkCutH_ok [89, 134, 134, 135, 134, 135] (by kernel_rfl)
end Go.Proofs.Ytmmpnjcmaodkcaa.Ef.chickenKeeps
