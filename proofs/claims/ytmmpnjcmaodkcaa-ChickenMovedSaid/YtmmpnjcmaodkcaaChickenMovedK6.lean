/- What is proved: the walk of ChickenMoved. Conditions: that the arguments can be read. -/
import Derived.Test.YtmmpnjcmaodkcaaChickenMovedD
namespace Go.Proofs.Ytmmpnjcmaodkcaa.Ef.chickenMoved
open Go Go.RowKit Go.Proofs.Ytmmpnjcmaodkcaa.Sep Go.Proofs.Ytmmpnjcmaodkcaa.Num Go.Proofs.Ytmmpnjcmaodkcaa.Mem Go.Proofs.Ytmmpnjcmaodkcaa.Ef
open Go.Proofs.Ytmmpnjcmaodkcaa.Ev (Fast)
set_option maxRecDepth 100000
set_option linter.unusedVariables false
theorem chk6 : noCut Try.prog Γs mf Try.f5 body args ⟨[(k3 10 1, false), (k3 10 2, false), (kq 11 0, true)], s0.H, s0.n⟩ okV = true := by kernel_rfl
end Go.Proofs.Ytmmpnjcmaodkcaa.Ef.chickenMoved
