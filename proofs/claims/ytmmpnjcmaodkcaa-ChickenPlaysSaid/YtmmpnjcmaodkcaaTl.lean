/- What is proved: the table of contracts of the functions on words and memories in this translation. Conditions: none beyond the contracts' own. -/
import Derived.Test.YtmmpnjcmaodkcaaTo
import Derived.Test.YtmmpnjcmaodkcaaEvFast
import Derived.Test.YtmmpnjcmaodkcaaTk3
namespace Go.Proofs.Ytmmpnjcmaodkcaa.Ef
open Go Go.RowKit Go.Proofs.Ytmmpnjcmaodkcaa.Sep Go.Proofs.Ytmmpnjcmaodkcaa.Num Go.Proofs.Ytmmpnjcmaodkcaa.Mem
open Go.Proofs.Ytmmpnjcmaodkcaa.Ev (Fast topAt topVer topNext topNext_rng)
set_option maxRecDepth 100000
set_option linter.unusedVariables false
set_option linter.unusedSimpArgs false
set_option linter.unusedSectionVars false
theorem valA_wf [Ext] [Exp] (π : Pi) (x : Tm) (n : Nat) : (valA π x).wf n ∧ (valA π x).isTop = false := ⟨aggI_wf _ n, rfl⟩
theorem headA_wf [Ext] [Exp] (π : Pi) (x : Tm) (n : Nat) : (headA π x).wf n ∧ (headA π x).isTop = false := ⟨aggI_wf _ n, rfl⟩
def frzA [Ext] [Exp] (π : Pi) (x : Tm) : SV := .c (.int .u64 (mkFrz x))
def thwA [Ext] [Exp] (π : Pi) (x : Tm) : SV := .c (.int .u64 (mkThw x))
def fzA [Ext] [Exp] (π : Pi) (x : Tm) : SV := .c (.bool (mkEq (mkFzB x) (.lit 1)))
theorem frzA_wf [Ext] [Exp] (π : Pi) (x : Tm) (n : Nat) : (frzA π x).wf n ∧ (frzA π x).isTop = false := ⟨trivial, rfl⟩
theorem thwA_wf [Ext] [Exp] (π : Pi) (x : Tm) (n : Nat) : (thwA π x).wf n ∧ (thwA π x).isTop = false := ⟨trivial, rfl⟩
theorem fzA_wf [Ext] [Exp] (π : Pi) (x : Tm) (n : Nat) : (fzA π x).wf n ∧ (fzA π x).isTop = false := ⟨trivial, rfl⟩
theorem frzA_den [Ext] [Exp] [Vars] (π : Pi) (x : Tm) (β : Bl) (h : 0 ≤ x.v ∧ x.v < 18446744073709551616) : (frzA π x).den β = .int .u64 (frz x.v) := by
  show Value.int .u64 (mkFrz x).v = _
  rw [Tm.v, mkFrz_den, cl64_in h]; rfl
theorem thwA_den [Ext] [Exp] [Vars] (π : Pi) (x : Tm) (β : Bl) (h : 0 ≤ x.v ∧ x.v < 18446744073709551616) : (thwA π x).den β = .int .u64 (thw x.v) := by
  show Value.int .u64 (mkThw x).v = _
  rw [Tm.v, mkThw_den, cl64_in h]; rfl
theorem fzA_den [Ext] [Exp] [Vars] (π : Pi) (x : Tm) (β : Bl) (h : 0 ≤ x.v ∧ x.v < 18446744073709551616) : (fzA π x).den β = .bool (decide (fzB x.v = 1)) := by
  show Value.bool (mkEq (mkFzB x) (.lit 1)).tv = _
  rw [mkEq_tv, lit_v, Tm.v, mkFzB_den, cl64_in h]; rfl
theorem topA_wf [Ext] [Exp] (π : Pi) (x : Tm) (n : Nat) : (topA π x).wf n ∧ (topA π x).isTop = false := ⟨aggI_wf _ n, rfl⟩
section
variable [Ext] [Exp] [Vars]
theorem valA_den {π : Pi} (hπ : facts π) (x : Tm) (β : Bl) (h : 0 ≤ x.v ∧ x.v < 18446744073709551616) : (valA π x).den β = .agg #[.int .i64 (vK x.v), .int .i64 (vN x.v)] := by
  have e1 := vkT_v hπ x
  have e2 := vnT_v hπ x
  rw [cl64_in h] at e2
  simp only [valA, aggI, SV.den, SA.den, dens, List.map_cons, List.map_nil, SC.den, e1, e2]
theorem hdL_den (x : Tm) (β : Bl) : (aggI (hdL x)).den β = (HV.of x.v).agg := by
  simp only [hdL, aggI, SV.den, SA.den, dens, List.map_cons, List.map_nil, SC.den, HV.agg,
    m1_v (n := 3) (f := fun w => (HV.of w).st) (fun _ => rfl), m1_v (n := 4) (f := fun w => (HV.of w).cl) (fun _ => rfl), m1_v (n := 5) (f := fun w => (HV.of w).ct) (fun _ => rfl), m1_v (n := 6) (f := fun w => (HV.of w).mr) (fun _ => rfl),
    m1_v (n := 7) (f := fun w => (HV.of w).gr) (fun _ => rfl), m1_v (n := 8) (f := fun w => (HV.of w).tg) (fun _ => rfl), m1_v (n := 9) (f := fun w => (HV.of w).lk) (fun _ => rfl)]
theorem headA_den {π : Pi} (hπ : facts π) (x : Tm) (β : Bl) : (headA π x).den β = (HV.of x.v).agg := by
  unfold headA hdT
  split
  · rename_i a b c d e f g
    rw [Bool.cond_eq_ite]
    split
    · rename_i h
      simp only [Bool.and_eq_true] at h
      obtain ⟨h1, h2, h3, h4, h5, h6, h7⟩ := h
      have h1 := Rg.inside_ok (selRg_ok hπ a) h1
      have h2 := Rg.inside_ok (selRg_ok hπ b) h2
      have h3 := Rg.inside_ok (selRg_ok hπ c) h3
      have h4 := Rg.inside_ok (selRg_ok hπ d) h4
      have h5 := Rg.inside_ok (selRg_ok hπ e) h5
      have h6 := Rg.inside_ok (selRg_ok hπ f) h6
      have h7 := Rg.inside_ok (selRg_ok hπ g) h7
      show _ = (HV.of (HV.mk a.v b.v c.v d.v e.v f.v g.v).w).agg
      rw [HV.of_w _ ⟨by simp only; omega, by simp only; omega, by simp only; omega, by simp only; omega, by simp only; omega, by simp only; omega, by simp only; omega⟩]
      rfl
    · exact hdL_den _ β
  · exact hdL_den _ β
theorem topA_den (π : Pi) (x : Tm) (β : Bl) : (topA π x).den β = .agg #[.int .i64 (topAt x.v), .int .i64 (topVer x.v)] := by
  simp only [topA, aggI, SV.den, SA.den, dens, List.map_cons, List.map_nil, SC.den, m1_v (n := 10) (f := topAt) (fun _ => rfl), m1_v (n := 11) (f := topVer) (fun _ => rfl)]
end
section
variable [Ext] [Exp]
def Γb : Ctr :=
  ctrCons 18 (cEx (cOr (cLoad 1) cLoadC)) <|
  ctrCons 20 (cEx (cStore 1)) <|
  ctrCons 44 (cEx (cCas 1)) <|
  ctrCons 56 (cEx (cLoad 2)) <|
  ctrCons 25 (cEx (cStore 2)) <|
  ctrCons 58 (cEx (cCas 2)) <|
  ctrCons 32 (cNew 1) <|
  ctrCons 33 (cNew 2) <|
  ctrCons 42 (cU1 valA) <|
  ctrCons 15 (cU1 valA) <|
  ctrCons 43 (cU1 headA) <|
  ctrCons 17 (cU1 headA) <|
  ctrCons 98 (cU1 topA) <|
  ctrCons 79 (cU1 topA) <|
  ctrCons 85 (cWord) <|
  ctrCons 21 (cWord) <|
  ctrCons 45 (cHeadWord) <|
  ctrCons 24 (cHeadWord) <|
  ctrCons 95 (cMoved) <|
  ctrCons 69 (cMoved) <|
  ctrCons 99 (cW2 3 topNext .u64) <|
  ctrCons 80 (cW2 3 topNext .u64) <|
  ctrCons 10 (cKindF 3) <|
  ctrCons 61 (cClone 1) <|
  ctrCons 62 (cLenC) <|
  ctrNone
variable [Vars]
theorem Γb_ok : CtrOk Try.prog Γb :=
  ctrCons_ok (cEx_ok (cOr_ok (cLoad_ok (.inl ⟨rfl, rfl⟩) load_calls) (cLoadC_ok loadC_in))) <|
  ctrCons_ok (cEx_ok (cStore_ok (.inl ⟨rfl, rfl⟩) store_calls)) <|
  ctrCons_ok (cEx_ok (cCas_ok (.inl ⟨rfl, rfl⟩) cas_calls)) <|
  ctrCons_ok (cEx_ok (cLoad_ok (.inr ⟨rfl, rfl⟩) refLoad_calls)) <|
  ctrCons_ok (cEx_ok (cStore_ok (.inr ⟨rfl, rfl⟩) refStore_calls)) <|
  ctrCons_ok (cEx_ok (cCas_ok (.inr ⟨rfl, rfl⟩) refCas_calls)) <|
  ctrCons_ok (cNew_ok (.inl ⟨rfl, rfl⟩) memNew_calls) <|
  ctrCons_ok (cNew_ok (.inr ⟨rfl, rfl⟩) refNew_calls) <|
  ctrCons_ok (cU1_ok valA_wf fun π x β w hπ h0 h1 => by rw [valA_den hπ _ _ ⟨h0, h1⟩]; exact slotOf_calls _ w h0 h1) <|
  ctrCons_ok (cU1_ok valA_wf fun π x β w hπ h0 h1 => by rw [valA_den hπ _ _ ⟨h0, h1⟩]; exact ref01Of_calls _ w h0 h1) <|
  ctrCons_ok (cU1_ok headA_wf fun π x β w hπ h0 h1 => by rw [headA_den hπ]; exact headOf_calls _ w h0 h1) <|
  ctrCons_ok (cU1_ok headA_wf fun π x β w hπ h0 h1 => by rw [headA_den hπ]; exact ref02Of_calls _ w h0 h1) <|
  ctrCons_ok (cU1_ok topA_wf fun π x β w hπ h0 h1 => by rw [topA_den]; exact Ev.ofTop_c _ w h0 h1) <|
  ctrCons_ok (cU1_ok topA_wf fun π x β w hπ h0 h1 => by rw [topA_den]; exact Ev.rofTop_c _ w h0 h1) <|
  ctrCons_ok (cWord_ok Ev.slotWord_c) <|
  ctrCons_ok (cWord_ok ref01Word_calls) <|
  ctrCons_ok (cHeadWord_ok Ev.headWord_c) <|
  ctrCons_ok (cHeadWord_ok ref02Word_calls) <|
  ctrCons_ok (cMoved_ok headMoved_calls) <|
  ctrCons_ok (cMoved_ok ref02Moved_calls) <|
  ctrCons_ok (cW2_ok (fun _ _ => rfl) Ev.next_c) <|
  ctrCons_ok (cW2_ok (fun _ _ => rfl) Ev.rnext_c) <|
  ctrCons_ok (cKindF_ok 3 kind_calls) <|
  ctrCons_ok (cClone_ok (.inl ⟨rfl, rfl⟩) clone_calls) <|
  ctrCons_ok (cLenC_ok lenC_calls) <|
  ctrNone_ok _
end
theorem noGos : NoGos Try.prog := by
  have h : (Try.prog.funcs.toList.all fun fn => !(fn.name == "runtime.NumGoroutine")) = true := by kernel_rfl
  intro f fn hf
  have hm : fn ∈ Try.prog.funcs.toList := by
    have := Array.mem_of_getElem? hf
    exact Array.mem_toList_iff.2 this
  have := List.all_eq_true.1 h fn hm
  simpa using this
theorem mixedOrders : Try.prog.follows .mixedOrders = true := by kernel_rfl
end Go.Proofs.Ytmmpnjcmaodkcaa.Ef
