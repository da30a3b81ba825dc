/- What is proved: the contracts of the reference memory's Load and CAS. Conditions: that the memory is one of at most 4096 words. -/
import Derived.Test.YtkelfdnhgdjaaaaRef
import Derived.Test.YtkelfdnhgdjaaaaCas
namespace Go.Proofs.Ytkelfdnhgdjaaaa.Mem
open Go Go.RowKit Go.Proofs.Ytkelfdnhgdjaaaa.Sep
set_option maxRecDepth 100000
set_option linter.unusedVariables false
set_option linter.unusedSimpArgs false
theorem refMem_cells {w : World} {R : HProp} {mb : Nat} {M : MS} (H : Holds w (MemP 56 mb M * R)) : ∃ wb : Nat, w.cell? ⟨mb, 0, none⟩ = some (.slice (some ⟨wb, 0, none⟩) M.ws.length M.ws.length) ∧ ∀ i, i < M.ws.length → w.cell? ⟨wb, i, none⟩ = some (.int .u64 (M.ws.getD i 0)) := by
  obtain ⟨wb, tv, xs, H3⟩ := memP_open H
  have H4 := H3.cast (Q := pt wb (.cells (W M.ws) 44 (0, 0)) * (pt mb (.cells #[.slice (some ⟨wb, 0, none⟩) M.ws.length M.ws.length, .int .i64 (M.cnt : Int), .int .i64 (M.tr : Int), tv] 56 (0, 0)) * (Row 107 3 tv M.n xs * R))) (by ac_rfl)
  exact ⟨wb, H3.cell 0 _ rfl, fun i hi => H4.cell i _ (W_get _ _ hi)⟩
end Go.Proofs.Ytkelfdnhgdjaaaa.Mem
