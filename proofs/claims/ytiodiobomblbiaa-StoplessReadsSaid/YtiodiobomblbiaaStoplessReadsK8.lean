/- What is proved: the ways between patterns of StoplessReads. Conditions: none. -/
import Derived.Test.YtiodiobomblbiaaStoplessReadsC
namespace Go.Proofs.Ytiodiobomblbiaa.Ef.stoplessReads
open Go Go.RowKit Go.Proofs.Ytiodiobomblbiaa.Sep Go.Proofs.Ytiodiobomblbiaa.Num Go.Proofs.Ytiodiobomblbiaa.Mem Go.Proofs.Ytiodiobomblbiaa.Ef
open Go.Proofs.Ytiodiobomblbiaa.Ev (Fast)
set_option maxRecDepth 100000
set_option linter.unusedVariables false
theorem ck512 : chkCut Try.prog Γ2 mf 1000 sp ks base Θ fin body c512 = true := chkCutH_ok [] (by kernel_rfl)
end Go.Proofs.Ytiodiobomblbiaa.Ef.stoplessReads
