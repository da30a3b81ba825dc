/- What is proved: the walk of CloverWaits. Conditions: that the arguments can be read. -/
import Derived.Test.YtkelfdnhgdjaaaaCloverWaitsD
namespace Go.Proofs.Ytkelfdnhgdjaaaa.Ef.cloverWaits
open Go Go.RowKit Go.Proofs.Ytkelfdnhgdjaaaa.Sep Go.Proofs.Ytkelfdnhgdjaaaa.Num Go.Proofs.Ytkelfdnhgdjaaaa.Mem Go.Proofs.Ytkelfdnhgdjaaaa.Ef
open Go.Proofs.Ytkelfdnhgdjaaaa.Ev (Fast)
set_option maxRecDepth 100000
set_option linter.unusedVariables false
theorem chk21 : noCut Try.prog Γ2 mf Try.f4 body args ⟨[(z0, false), (z5, false), (z6, true)], s0.H, s0.n⟩ okV = true := by kernel_rfl
theorem chk22 : noCut Try.prog Γ2 mf Try.f4 body args ⟨[(z6, false)], s0.H, s0.n⟩ okV = true := by kernel_rfl
end Go.Proofs.Ytkelfdnhgdjaaaa.Ef.cloverWaits
