/- What is proved: how a statement's walk begins and ends: its arguments as rows and numbers, the memory that lay there before stays. Conditions: stated with each lemma. -/
import Derived.Test.YtmmpnjcmaodkcaaM2
import Derived.Test.YtmmpnjcmaodkcaaOpenC
namespace Go.Proofs.Ytmmpnjcmaodkcaa.Ef
open Go Go.RowKit Go.Proofs.Ytmmpnjcmaodkcaa.Sep Go.Proofs.Ytmmpnjcmaodkcaa.Num Go.Proofs.Ytmmpnjcmaodkcaa.Mem
open Go.Proofs.Ytmmpnjcmaodkcaa.Ev (Fast)
set_option maxRecDepth 100000
set_option linter.unusedVariables false
set_option linter.unusedSectionVars false
/-- A whole number of 64 bits; one that is not negative. -/
def iv (x : Nat) : Tm := i1 31 (.var x)
def nv (x : Nat) : Tm := i1 32 (.var x)
def flatv (b : Nat) : Nat → List SC
  | 0 => []
  | n + 1 => .int .i64 (iv b) :: flatv (b + 1) n
def p2 (x y : Tm) : Tm := .a2 .pair x y
/-- A row's record: row, offset, length, cells an element. -/
def rowT (r : Nat) (st : Int) : Tm := p2 (.var r) (p2 (.var (r + 1)) (p2 (nv (r + 2)) (.lit st)))
/-- The room of a slice is its length, and what is beyond. -/
def rowV (nm r : Nat) : SC := .sliceQ nm (.var (r + 1)) (nv (r + 2)) (.a2 .add (nv (r + 2)) (nv (r + 3)))
section
variable [Ext] [V : Vars]
theorem facts_nil : facts [] := fun q hq => by cases hq
theorem iv_v {x : Nat} (h : -9223372036854775808 ≤ (Tm.var x).v ∧ (Tm.var x).v ≤ 9223372036854775807) : (iv x).v = (Tm.var x).v := ci64_in h
theorem row_rec {w : World} {B : Nat} {l : List Int} {off st : Int} {n b : Nat} (h : RowOk w B l off (n : Int) st b) : RowOk w B l off (if (n : Int) < 0 then 0 else (n : Int)) st b := by
  rw [if_neg (by omega)]; exact h
theorem nv_v {x : Nat} (h : 0 ≤ (Tm.var x).v) : (nv x).v = (Tm.var x).v := by
  show (if (Tm.var x).v < 0 then 0 else (Tm.var x).v) = _
  rw [if_neg (by omega)]
theorem flatv_den (β : Bl) : ∀ {n b : Nat} {l : List Int}, l.length = n → (∀ j, j < n → (Tm.var (b + j)).v = l.getD j 0) → (∀ x ∈ l, -9223372036854775808 ≤ x ∧ x ≤ 9223372036854775807) → (flatv b n).map (SC.den β) = l.map (Value.int .i64)
  | 0, b, l, hl, _, _ => by rw [List.length_eq_zero_iff.1 hl]; rfl
  | n + 1, b, [], hl, _, _ => by simp at hl
  | n + 1, b, x :: r, hl, h, hr => by
    have h0 := h 0 (by omega)
    have e := flatv_den β (n := n) (b := b + 1) (l := r) (by simpa using hl) (fun j hj => by
      have := h (j + 1) (by omega)
      rw [show b + 1 + j = b + (j + 1) by omega, this]; simp) fun y hy => hr y (List.mem_cons_of_mem _ hy)
    show Value.int .i64 (iv b).v :: (flatv (b + 1) n).map (SC.den β) = _
    rw [e]
    have : (Tm.var b).v = x := by simpa using h0
    rw [iv_v (by rw [this]; exact hr x (List.mem_cons_self ..)), this]
    rfl
theorem flat_den {β : Bl} {b n : Nat} {v : Value} {l : List Int} (h : FlatIs v n l) (hv : ∀ j, j < n → (Tm.var (b + j)).v = l.getD j 0) : (SV.a (.agg (flatv b n))).den β = v := by
  show Value.agg (dens β (flatv b n)) = v
  rw [dens, flatv_den β h.2.1 hv h.2.2, h.1]
theorem int_den {β : Bl} {b : Nat} {x : Int} (h : -9223372036854775808 ≤ x ∧ x ≤ 9223372036854775807) (hv : (Tm.var b).v = x) : (SV.c (.int .i64 (iv b))).den β = .int .i64 x := by
  show Value.int .i64 (iv b).v = _
  rw [iv_v (by rw [hv]; exact h), hv]
theorem row_den {β : Bl} {w : World} {v : Value} {l : List Int} {len : Nat} {st : Int} {i off : Int} {cap b r nm : Nat} {ao : Option Addr} (h : RowAt w v l len st i off cap b ao) (h1 : (Tm.var (r + 1)).v = off) (h2 : (Tm.var (r + 2)).v = (len : Int)) (h3 : (Tm.var (r + 3)).v = (cap : Int) - (len : Int)) (hlc : len ≤ cap) (hb : β nm = b) (ha : (len : Int) ≤ 0 → Vars.ad off = ao) :
    (SV.c (rowV nm r)).den β = v := by
  rw [h.v]
  show Value.slice (if (nv (r + 2)).v ≤ 0 then Vars.ad (Tm.var (r + 1)).v else some ⟨β nm, (Tm.var (r + 1)).v.toNat, none⟩) (nv (r + 2)).v.toNat ((nv (r + 2)).v + (nv (r + 3)).v).toNat = _
  rw [nv_v (by rw [h2]; omega), nv_v (by rw [h3]; omega), h1, h2, h3, hb, show ((len : Int) + ((cap : Int) - (len : Int))).toNat = cap by omega]
  by_cases hl : (len : Int) ≤ 0
  · rw [if_pos hl, if_pos hl, ha hl]
  · rw [if_neg hl, if_neg hl]
end
section
variable [Ext] [Exp]
/-- The statement holds, and what was there before is there. -/
def okT (nm : Nat) (x : Tm) (ns : List Nat) (v : SV) (s : St) : Bool :=
  (match v with | .a (.one (.bool t)) => pv s.pi true t | _ => false) && (match find s.H nm with | some (.abs 9 y ms) => Tm.beq y x && nsBeq ms ns | _ => false)
theorem okT_ok {nm : Nat} {x r : Tm} {ns : List Nat} {v : SV} {s : St} (h : okT nm x ns v s = true) (hx : x = p2 (.var 0) r) {V : Vars} {β : Bl} {w w' : World} {R : HProp} (ht : @At _ V β s w' R) (h0 : oldOf (V.ρ 0) = some (w, w.heap.size)) (hs : Strm w w') :
    @SV.den _ V β v = .bool true ∧ Below w.heap.size w w' := by
  unfold okT at h
  rw [Bool.and_eq_true] at h
  obtain ⟨h1, h2⟩ := h
  refine ⟨?_, ?_⟩
  · split at h1
    · rename_i t
      have := @pv_ok _ _ V s.pi ht.pi true t h1
      show Value.bool (@Tm.tv _ V t) = _
      rw [this]
    · cases h1
  · split at h2
    · rename_i y ms hf
      rw [Bool.and_eq_true] at h2
      have e := Tm.beq_eq h2.1
      subst e
      have H := @focus _ V w' R β s.H nm _ hf ht.hold
      subst hx
      exact old_end (u := @Tm.den _ V (p2 (.var 0) r)) h0 H hs
    · cases h2
/-- The loops' own patterns: none. -/
abbrev noCut (P : Program) [Fast P] [Ab P] (Γ : Ctr) (mf : Nat → Bool) (fn : Func) (body : Code) (args : List SV) (s : St) (okV : SV → St → Bool) : Bool :=
  (evS P Γ mf 1000 [] body none (Frm.start fn.ntmps args) s).allB (okL [] [] 100 [] (fun e fr s => (ends P fn (e, fr, s)).allB fun q => okV q.1 q.2) none)
end
end Go.Proofs.Ytmmpnjcmaodkcaa.Ef
