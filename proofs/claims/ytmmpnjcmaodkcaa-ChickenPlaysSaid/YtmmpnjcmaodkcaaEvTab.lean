/- What is proved: the table of contracts that the evaluator takes in this translation. Conditions: none beyond the contracts' own. -/
import Derived.Test.YtmmpnjcmaodkcaaEvCtr
import Derived.Test.YtmmpnjcmaodkcaaEvFast
namespace Go.Proofs.Ytmmpnjcmaodkcaa.Ev
open Go Go.RowKit Go.Proofs.Ytmmpnjcmaodkcaa.Sep Go.Proofs.Ytmmpnjcmaodkcaa.Num Go.Proofs.Ytmmpnjcmaodkcaa.Mem
set_option maxRecDepth 100000
set_option linter.unusedVariables false
set_option linter.unusedSimpArgs false
set_option maxHeartbeats 1000000 in
theorem slotWord_c (k n : Int) (w : World) :
    Calls Try.prog 85 #[.agg #[.int .i64 k, .int .i64 n]] w (Ret w (.int .u64 (sW k n))) := by
  have hw : Hid (bits .or .u64 (bits .and .u64 (IntKind.u64.wrap k) 3) (IntKind.u64.wrap (IntKind.u64.wrap n * 8)) = sW k n) := word1 k n
  go_enter Try.func85, Try.ntmps85
  go_wp2_with fail
  go_ret
  exact ⟨ret_int hw.out, (Below.refl _ _).alloc (Nat.le_refl _) _⟩
section
variable {X : Type} [Obj X]
def Γ : Ctr (MO X) :=
  ctrCons 18 (cLoad 101) <|
  ctrCons 20 (cStore 101) <|
  ctrCons 44 (cCas 101) <|
  ctrCons 42 (cU1 valA) <|
  ctrCons 15 (cU1 valA) <|
  ctrCons 85 cWord <|
  ctrCons 21 cWord <|
  ctrCons 43 (cU1 headA) <|
  ctrCons 17 (cU1 headA) <|
  ctrCons 95 cMoved <|
  ctrCons 69 cMoved <|
  ctrCons 24 cHeadWord <|
  ctrCons 25 (cStore 50) <|
  ctrNone
theorem Γ_ok : CtrOk Try.prog (Γ : Ctr (MO X)) :=
  ctrCons_ok (cLoad_ok load_calls) <|
  ctrCons_ok (cStore_ok store_calls) <|
  ctrCons_ok (cCas_ok cas_calls) <|
  ctrCons_ok (cU1_ok fun x w h0 h1 => by rw [valA_den]; exact slotOf_calls _ w h0 h1) <|
  ctrCons_ok (cU1_ok fun x w h0 h1 => by rw [valA_den]; exact ref01Of_calls _ w h0 h1) <|
  ctrCons_ok (cWord_ok slotWord_c) <|
  ctrCons_ok (cWord_ok ref01Word_calls) <|
  ctrCons_ok (cU1_ok fun x w h0 h1 => by rw [headA_den]; exact headOf_calls _ w h0 h1) <|
  ctrCons_ok (cU1_ok fun x w h0 h1 => by rw [headA_den]; exact ref02Of_calls _ w h0 h1) <|
  ctrCons_ok (cMoved_ok headMoved_calls) <|
  ctrCons_ok (cMoved_ok ref02Moved_calls) <|
  ctrCons_ok (cHeadWord_ok ref02Word_calls) <|
  ctrCons_ok (cStore_ok refStore_calls) <|
  ctrNone_ok _
end
end Go.Proofs.Ytmmpnjcmaodkcaa.Ev
