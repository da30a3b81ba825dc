/- What is proved: the walk of CloverWaits. Conditions: that the arguments can be read. -/
import Derived.Test.YtkelfdnhgdjaaaaCloverWaitsD
namespace Go.Proofs.Ytkelfdnhgdjaaaa.Ef.cloverWaits
open Go Go.RowKit Go.Proofs.Ytkelfdnhgdjaaaa.Sep Go.Proofs.Ytkelfdnhgdjaaaa.Num Go.Proofs.Ytkelfdnhgdjaaaa.Mem Go.Proofs.Ytkelfdnhgdjaaaa.Ef
open Go.Proofs.Ytkelfdnhgdjaaaa.Ev (Fast)
set_option maxRecDepth 100000
set_option linter.unusedVariables false
theorem chk7 : noCut Try.prog Γ2 mf Try.f4 body args ⟨[(z0, false), (z1, false), (z2, false), (z3, true), (z4, true), (z5, true), (z6, true)], s0.H, s0.n⟩ okV = true := by kernel_rfl
theorem chk8 : noCut Try.prog Γ2 mf Try.f4 body args ⟨[(z0, true), (z3, false), (z4, true), (z5, true), (z6, true)], s0.H, s0.n⟩ okV = true := by kernel_rfl
theorem chk9 : noCut Try.prog Γ2 mf Try.f4 body args ⟨[(z0, false), (z3, false), (z4, true), (z5, true), (z6, true)], s0.H, s0.n⟩ okV = true := by kernel_rfl
theorem chk10 : noCut Try.prog Γ2 mf Try.f4 body args ⟨[(z0, true), (z1, true), (z2, true), (z3, true), (z4, false), (z5, true), (z6, true)], s0.H, s0.n⟩ okV = true := by kernel_rfl
theorem chk11 : noCut Try.prog Γ2 mf Try.f4 body args ⟨[(z0, false), (z1, true), (z2, true), (z3, true), (z4, false), (z5, true), (z6, true)], s0.H, s0.n⟩ okV = true := by kernel_rfl
theorem chk12 : noCut Try.prog Γ2 mf Try.f4 body args ⟨[(z0, true), (z1, false), (z2, true), (z3, true), (z4, false), (z5, true), (z6, true)], s0.H, s0.n⟩ okV = true := by kernel_rfl
theorem chk13 : noCut Try.prog Γ2 mf Try.f4 body args ⟨[(z0, false), (z1, false), (z2, true), (z3, true), (z4, false), (z5, true), (z6, true)], s0.H, s0.n⟩ okV = true := by kernel_rfl
end Go.Proofs.Ytkelfdnhgdjaaaa.Ef.cloverWaits
