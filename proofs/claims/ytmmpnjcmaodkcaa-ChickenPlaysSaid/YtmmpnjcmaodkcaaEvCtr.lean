/- What is proved: the contracts that the evaluator takes for the functions of packages slot, head, mem and of their references. Conditions: stated with each contract. -/
import Derived.Test.YtmmpnjcmaodkcaaM0
import Derived.Test.YtmmpnjcmaodkcaaCas
import Derived.Test.YtmmpnjcmaodkcaaRef
import Derived.Test.YtmmpnjcmaodkcaaHead
namespace Go.Proofs.Ytmmpnjcmaodkcaa.Ev
open Go Go.RowKit Go.Proofs.Ytmmpnjcmaodkcaa.Sep Go.Proofs.Ytmmpnjcmaodkcaa.Num Go.Proofs.Ytmmpnjcmaodkcaa.Mem
set_option maxRecDepth 100000
set_option linter.unusedVariables false
set_option linter.unusedSimpArgs false
/-- A memory, by its struct's type; what lay in memory ahead of the call, below a block; words that a proof gives. -/
class Obj (X : Type) where
  den : X → Nat → HProp
  known : X → Nat → Option SC
  known_ok : ∀ {x : X} {off : Nat} {c : SC}, known x off = some c → ∀ {w : World} {R : HProp} {b : Nat}, Holds w (den x b * R) → w.cell? ⟨b, off, none⟩ = some c.den
inductive MO (X : Type) where
  | mem (T : Nat) (M : MS)
  | old (B : Nat) (w : World)
  | obj (x : X)
def oldCell (w : World) (b off : Nat) : Value := (w.cell? ⟨b, off, none⟩).getD undef
def intAt (w : World) (b off : Nat) : Int :=
  match w.cell? ⟨b, off, none⟩ with
  | some (.int _ n) => n
  | _ => 0
/-- The kinds of a type's cells, where all are whole numbers. -/
def intsOfType (P : Program) [Fast P] (t : TypeId) : Option (List IntKind) :=
  match Fast.zero P t with
  | some v => v.cells.toList.mapM fun c => match c with | .int k _ => some k | _ => none
  | none => none
def oldLoad (P : Program) [Fast P] (t : TypeId) (b off : Nat) (B : Nat) (w : World) : Option (List Prop × SV) :=
  match tyAgg P t, tySize P t, intsOfType P t with
  | some false, _, some [k] => some ([b < B, w.cell? ⟨b, off, none⟩ = some (.int k (intAt w b off))], .c (.int k (.sym (intAt w b off))))
  | some true, some n, some ks => bif Nat.beq ks.length n then some ([b < B, ∀ j k, ks[j]? = some k → w.cell? ⟨b, off + j, none⟩ = some (.int k (intAt w b (off + j)))], .a (.agg (ks.zipIdx.map fun p => .int p.1 (.sym (intAt w b (off + p.2)))))) else none
  | _, _, _ => none
theorem old_cell {B : Nat} {w w' : World} {R : HProp} (h : Holds w' (old B w * R)) {b off : Nat} {v : Value} (hb : b < B) (hc : w.cell? ⟨b, off, none⟩ = some v) : w'.cell? ⟨b, off, none⟩ = some v := by
  obtain ⟨hp, a, p⟩ := h.left
  have e := p b
  rw [if_pos hb] at e
  unfold World.cell? at hc ⊢
  cases hh : w.heap[b]? with
  | none => simp only [hh] at hc; cases hc
  | some o =>
    rw [hh] at e
    simp only [a b o e]
    simp only [hh] at hc
    exact hc
theorem oldLoad_ok {P : Program} [Fast P] {t : TypeId} {b off B : Nat} {w0 : World} {ps : List Prop} {v : SV} (h : oldLoad P t b off B w0 = some (ps, v)) (hp : ∀ p ∈ ps, p) {w : World} {R : HProp} (hw : Holds w (old B w0 * R)) :
    (loadVar t ⟨b, off, none⟩).run P w = .ok v.den w := by
  unfold oldLoad at h
  split at h
  · rename_i k ha hk
    simp only [Option.some.injEq, Prod.mk.injEq] at h
    obtain ⟨rfl, rfl⟩ := h
    have h1 : b < B := hp _ (by simp)
    have h2 : w0.cell? ⟨b, off, none⟩ = some (.int k (intAt w0 b off)) := hp _ (by simp)
    exact run_loadVar_one ha (old_cell hw h1 h2)
  · rename_i n ks ha hs hk
    cases hn : Nat.beq ks.length n with
    | false => rw [hn] at h; cases h
    | true =>
      rw [hn] at h
      simp only [cond_true, Option.some.injEq, Prod.mk.injEq] at h
      obtain ⟨rfl, rfl⟩ := h
      have h1 : b < B := hp _ (by simp)
      have h2 : ∀ j k, ks[j]? = some k → w0.cell? ⟨b, off + j, none⟩ = some (.int k (intAt w0 b (off + j))) := hp _ (List.mem_cons_of_mem _ (List.mem_singleton.2 rfl))
      refine run_loadVar_agg ha hs (by simpa using Nat.eq_of_beq_eq_true hn) fun j c hj => ?_
      rw [List.getElem?_map, List.getElem?_zipIdx] at hj
      cases hkj : ks[j]? with
      | none => rw [hkj] at hj; simp at hj
      | some k =>
        rw [hkj] at hj
        simp at hj
        subst hj
        exact old_cell hw h1 (h2 j k hkj)
  · cases h
def knowns (f : Nat → Option SC) (o : Nat) : Nat → Option (List SC)
  | 0 => some []
  | n + 1 =>
    match f o, knowns f (o + 1) n with
    | some c, some l => some (c :: l)
    | _, _ => none
theorem knowns_ok {f : Nat → Option SC} {w : World} {b : Nat} (hf : ∀ o c, f o = some c → w.cell? ⟨b, o, none⟩ = some c.den) : ∀ (n o : Nat) (l : List SC), knowns f o n = some l → l.length = n ∧ ∀ j c, l[j]? = some c → w.cell? ⟨b, o + j, none⟩ = some c.den
  | 0, o, l, h => by
    simp only [knowns, Option.some.injEq] at h
    subst h
    exact ⟨rfl, fun j c hj => by simp at hj⟩
  | n + 1, o, l, h => by
    unfold knowns at h
    split at h
    · rename_i c l' hc hl
      simp only [Option.some.injEq] at h
      subst h
      obtain ⟨h1, h2⟩ := knowns_ok hf n (o + 1) l' hl
      refine ⟨by simp [h1], fun j c' hj => ?_⟩
      cases j with
      | zero => simp at hj; subst hj; exact hf o _ hc
      | succ j =>
        simp at hj
        have := h2 j c' hj
        rw [show o + (j + 1) = o + 1 + j by omega]; exact this
    · cases h
def objLoad {X : Type} [Obj X] (P : Program) [Fast P] (t : TypeId) (b off b' : Nat) (x : X) : Option (List Prop × SV) :=
  match tyAgg P t, tySize P t with
  | some true, some n => (knowns (Obj.known x) off n).map fun l => ([b = b'], .a (.agg l))
  | some false, _ => (Obj.known x off).map fun c => ([b = b'], .c c)
  | _, _ => none
theorem objLoad_ok {X : Type} [Obj X] {P : Program} [Fast P] {t : TypeId} {b off b' : Nat} {x : X} {ps : List Prop} {v : SV} (h : objLoad P t b off b' x = some (ps, v)) (hp : ∀ p ∈ ps, p) {w : World} {R : HProp} (hw : Holds w (Obj.den x b' * R)) :
    (loadVar t ⟨b, off, none⟩).run P w = .ok v.den w := by
  unfold objLoad at h
  split at h
  · rename_i n ha hs
    cases hl : knowns (Obj.known x) off n with
    | none => rw [hl] at h; cases h
    | some l =>
      rw [hl] at h
      simp only [Option.map_some, Option.some.injEq, Prod.mk.injEq] at h
      obtain ⟨rfl, rfl⟩ := h
      have e : b = b' := hp _ (List.mem_singleton.2 rfl)
      subst e
      obtain ⟨h1, h2⟩ := knowns_ok (w := w) (b := b) (fun o c hc => Obj.known_ok hc hw) n off l hl
      exact run_loadVar_agg ha hs h1 h2
  · rename_i ha
    cases hl : Obj.known x off with
    | none => rw [hl] at h; cases h
    | some c =>
      rw [hl] at h
      simp only [Option.map_some, Option.some.injEq, Prod.mk.injEq] at h
      obtain ⟨rfl, rfl⟩ := h
      have e : b = b' := hp _ (List.mem_singleton.2 rfl)
      subst e
      exact run_loadVar_one ha (Obj.known_ok hl hw)
  · cases h
section
variable {X : Type} [Obj X]
instance : Abs (MO X) where
  den x b := match x with
    | .mem T M => MemP T b M
    | .old B w => old B w
    | .obj x => Obj.den x b
  load P _ t b off b' x := match x with
    | .old B w => oldLoad P t b off B w
    | .obj x => objLoad P t b off b' x
    | _ => none
  load_ok := by
    intro P _ t b off b' x ps v h hp w R hw
    cases x with
    | mem T M => cases h
    | old B w0 => exact oldLoad_ok h hp hw
    | obj x => exact objLoad_ok h hp hw
def u64 (x : Int) : Prop := 0 ≤ x ∧ x < 18446744073709551616
def i64 (x : Int) : Prop := -9223372036854775808 ≤ x ∧ x ≤ 9223372036854775807
def m1 (f : Int → Int) : SI → SI
  | .lit n => .lit (f n)
  | .sym x => .sym (f x)
theorem m1_v (f : Int → Int) (x : SI) : (m1 f x).v = f x.v := by cases x <;> rfl
def m2 (f : Int → Int → Int) : SI → SI → SI
  | .lit n, .lit m => .lit (f n m)
  | x, y => .sym (f x.v y.v)
theorem m2_v (f : Int → Int → Int) (x y : SI) : (m2 f x y).v = f x.v y.v := by cases x <;> cases y <;> rfl
def b2 (f : Int → Int → Bool) : SI → SI → SB
  | .lit n, .lit m => .lit (f n m)
  | x, y => .sym (f x.v y.v)
theorem b2_v (f : Int → Int → Bool) (x y : SI) : (b2 f x y).v = f x.v y.v := by cases x <;> cases y <;> rfl
/-- A contract at one function. -/
abbrev CtrAt (X : Type) := List SV → SH (MO X) → Nat → Kont (MO X) → Option (Tree (MO X))
def CAtOk (P : Program) (f : Nat) (c : CtrAt X) : Prop :=
  ∀ args H n k t, c args H n k = some t → ∀ (L : Leaf (MO X) → Prop), t.Leads P L → ∀ (w : World) (R : HProp), Holds w (hden H * R) → ∀ Q : Ending → World → Prop,
    (∀ v H' n' w', (k v H' n').Leads P L → Holds w' (hden H' * R) → Strm w w' → Q (.returned v.den) w') → Calls P f (args.map SV.den).toArray w Q
def ctrNone : Ctr (MO X) := fun _ _ _ _ _ => none
def ctrCons (f : Nat) (c : CtrAt X) (r : Ctr (MO X)) : Ctr (MO X) := fun g args H n k => bif Nat.beq g f then c args H n k else r g args H n k
theorem ctrNone_ok (P : Program) : CtrOk P (ctrNone : Ctr (MO X)) := fun _ _ _ _ _ _ h => by cases h
theorem ctrCons_ok {P : Program} {f : Nat} {c : CtrAt X} {r : Ctr (MO X)} (hc : CAtOk P f c) (hr : CtrOk P r) : CtrOk P (ctrCons f c r) := by
  intro g args H n k t h
  unfold ctrCons at h
  cases hg : Nat.beq g f with
  | true =>
    rw [hg] at h
    rw [Nat.eq_of_beq_eq_true hg]
    exact hc args H n k t h
  | false =>
    rw [hg] at h
    exact hr g args H n k t h
/-- A function that only computes. -/
theorem at_pure {P : Program} {f : Nat} {args : List SV} {v : SV} (hc : ∀ w, Calls P f (args.map SV.den).toArray w (Ret w v.den)) {H : SH (MO X)} {n : Nat} {k : Kont (MO X)} {L : Leaf (MO X) → Prop} (hl : (k v H n).Leads P L)
    {w : World} {R : HProp} (hw : Holds w (hden H * R)) {Q : Ending → World → Prop} (hk : ∀ v H' n' w', (k v H' n').Leads P L → Holds w' (hden H' * R) → Strm w w' → Q (.returned v.den) w') : Calls P f (args.map SV.den).toArray w Q :=
  (hc w).mono fun e w' ⟨he, hb⟩ => by subst he; exact hk v H n w' hl (hw.kept hb) (Strm.below hb)
def aggI (l : List SI) : SV := .a (.agg (l.map fun x => .int .i64 x))
def valA (x : SI) : SV := aggI [m1 vK x, m1 vN x]
def headA (x : SI) : SV := aggI [m1 (fun w => (HV.of w).st) x, m1 (fun w => (HV.of w).cl) x, m1 (fun w => (HV.of w).ct) x, m1 (fun w => (HV.of w).mr) x, m1 (fun w => (HV.of w).gr) x, m1 (fun w => (HV.of w).tg) x, m1 (fun w => (HV.of w).lk) x]
/-- One whole number of 64 bits in, something out. -/
def cU1 (f : SI → SV) : CtrAt X := fun args H n k =>
  match args with
  | [.a (.one (.int .u64 x))] => some (.need (u64 x.v) (k (f x) H n))
  | _ => none
theorem cU1_ok {P : Program} {g : Nat} {f : SI → SV} (h : ∀ (x : SI) (w : World), 0 ≤ x.v → x.v < 18446744073709551616 → Calls P g #[.int .u64 x.v] w (Ret w (f x).den)) : CAtOk P g (cU1 f : CtrAt X) := by
  intro args H n k t ht L hl w R hw Q hk
  unfold cU1 at ht
  split at ht
  · rename_i x
    simp only [Option.some.injEq] at ht
    subst ht
    exact at_pure (args := [.a (.one (.int .u64 x))]) (fun w => h x w hl.1.1 hl.1.2) hl.2 hw hk
  · cases ht
def cMoved : CtrAt X := fun args H n k =>
  match args with
  | [.a (.one (.int .u64 x)), .a (.one (.int .i64 a))] => some (.need (u64 x.v) (k (.c (.int .i64 (m2 hMoved x a))) H n))
  | _ => none
theorem cMoved_ok {P : Program} {g : Nat} (h : ∀ (x a : Int) (w : World), 0 ≤ x → x < 18446744073709551616 → Calls P g #[.int .u64 x, .int .i64 a] w (Ret w (.int .i64 (hMoved x a)))) : CAtOk P g (cMoved : CtrAt X) := by
  intro args H n k t ht L hl w R hw Q hk
  unfold cMoved at ht
  split at ht
  · rename_i x a
    simp only [Option.some.injEq] at ht
    subst ht
    refine at_pure (args := [.a (.one (.int .u64 x)), .a (.one (.int .i64 a))]) (fun w => ?_) hl.2 hw hk
    have := h x.v a.v w hl.1.1 hl.1.2
    rw [← m2_v hMoved x a] at this
    exact this
  · cases ht
def cWord : CtrAt X := fun args H n k =>
  match args with
  | [.a (.agg [.int .i64 a, .int .i64 b])] => some (k (.c (.int .u64 (m2 sW a b))) H n)
  | _ => none
theorem cWord_ok {P : Program} {g : Nat} (h : ∀ (a b : Int) (w : World), Calls P g #[.agg #[.int .i64 a, .int .i64 b]] w (Ret w (.int .u64 (sW a b)))) : CAtOk P g (cWord : CtrAt X) := by
  intro args H n k t ht L hl w R hw Q hk
  unfold cWord at ht
  split at ht
  · rename_i a b
    simp only [Option.some.injEq] at ht
    subst ht
    refine at_pure (args := [.a (.agg [.int .i64 a, .int .i64 b])]) (fun w => ?_) hl hw hk
    have := h a.v b.v w
    rw [← m2_v sW a b] at this
    exact this
  · cases ht
def isLit : SI → Bool
  | .lit _ => true
  | _ => false
def allLit (l : List SI) : Bool := l.all isLit
def cHeadWord : CtrAt X := fun args H n k =>
  match args with
  | [.a (.agg [.int .i64 a, .int .i64 b, .int .i64 c, .int .i64 d, .int .i64 e, .int .i64 f, .int .i64 g])] => some (k (.c (.int .u64 (bif allLit [a, b, c, d, e, f, g] then .lit (HV.mk a.v b.v c.v d.v e.v f.v g.v).w else .sym (HV.mk a.v b.v c.v d.v e.v f.v g.v).w))) H n)
  | _ => none
theorem cHeadWord_ok {P : Program} {g : Nat} (h : ∀ (v : HV) (w : World), Calls P g #[v.agg] w (Ret w (.int .u64 v.w))) : CAtOk P g (cHeadWord : CtrAt X) := by
  intro args H n k t ht L hl w R hw Q hk
  unfold cHeadWord at ht
  split at ht
  · rename_i a b c d e f g
    simp only [Option.some.injEq] at ht
    subst ht
    refine at_pure (args := [.a (.agg [.int .i64 a, .int .i64 b, .int .i64 c, .int .i64 d, .int .i64 e, .int .i64 f, .int .i64 g])]) (fun w => ?_) hl hw hk
    have := h (HV.mk a.v b.v c.v d.v e.v f.v g.v) w
    have e2 : (SV.c (.int .u64 (bif allLit [a, b, c, d, e, f, g] then .lit (HV.mk a.v b.v c.v d.v e.v f.v g.v).w else .sym (HV.mk a.v b.v c.v d.v e.v f.v g.v).w))).den = .int .u64 (HV.mk a.v b.v c.v d.v e.v f.v g.v).w := by
      cases allLit [a, b, c, d, e, f, g] <;> rfl
    rw [e2]
    exact this
  · cases ht
def farB (k n : Int) : Bool := k == 1 && n != 0
def cFar : CtrAt X := fun args H n k =>
  match args with
  | [.a (.agg [.int .i64 a, .int .i64 b])] => some (k (.c (.bool (b2 farB a b))) H n)
  | _ => none
theorem cFar_ok {P : Program} {g : Nat} (h : ∀ (a b : Int) (w : World), Calls P g #[.agg #[.int .i64 a, .int .i64 b]] w (Ret w (.bool (farB a b)))) : CAtOk P g (cFar : CtrAt X) := by
  intro args H n k t ht L hl w R hw Q hk
  unfold cFar at ht
  split at ht
  · rename_i a b
    simp only [Option.some.injEq] at ht
    subst ht
    refine at_pure (args := [.a (.agg [.int .i64 a, .int .i64 b])]) (fun w => ?_) hl hw hk
    have := h a.v b.v w
    rw [← b2_v farB a b] at this
    exact this
  · cases ht
/-- A kind of at most three: which one it is, is told. -/
def cKind : CtrAt X := fun args H n k =>
  match args with
  | [.a (.one (.int .i64 c)), .a (.one (.int .i64 (.lit 3)))] =>
    some (.need (i64 c.v) (.ite (kindOf c.v 3 == 0) (k (.c (.int .i64 (.lit 0))) H n) (.ite (kindOf c.v 3 == 1) (k (.c (.int .i64 (.lit 1))) H n) (k (.c (.int .i64 (.lit 2))) H n))))
  | [.a (.one (.int .i64 c)), .a (.one (.int .i64 (.lit m)))] =>
    bif decide (0 < m) && decide (m ≤ 100000) then some (.need (i64 c.v) (k (.c (.int .i64 (.sym (kindOf c.v m)))) H n)) else none
  | _ => none
theorem cKind_ok {P : Program} {g : Nat} (h : ∀ (c n : Int) (w : World), -9223372036854775808 ≤ c → c ≤ 9223372036854775807 → 0 < n → n ≤ 100000 → Calls P g #[.int .i64 c, .int .i64 n] w (Ret w (.int .i64 (kindOf c n)))) : CAtOk P g (cKind : CtrAt X) := by
  intro args H n k t ht L hl w R hw Q hk
  unfold cKind at ht
  split at ht
  · rename_i c
    simp only [Option.some.injEq] at ht
    subst ht
    obtain ⟨hr, h1, h2⟩ := hl
    have hc := fun w => h c.v 3 w hr.1 hr.2 (by omega) (by omega)
    cases k0 : (kindOf c.v 3 == 0) with
    | true =>
      refine at_pure (args := [.a (.one (.int .i64 c)), .a (.one (.int .i64 (.lit 3)))]) (fun w => ?_) (h1 k0) hw hk
      have e : kindOf c.v 3 = 0 := by simpa using k0
      have := hc w
      rw [e] at this
      exact this
    | false =>
      obtain ⟨h3, h4⟩ := h2 k0
      cases k1 : (kindOf c.v 3 == 1) with
      | true =>
        refine at_pure (args := [.a (.one (.int .i64 c)), .a (.one (.int .i64 (.lit 3)))]) (fun w => ?_) (h3 k1) hw hk
        have e : kindOf c.v 3 = 1 := by simpa using k1
        have := hc w
        rw [e] at this
        exact this
      | false =>
        refine at_pure (args := [.a (.one (.int .i64 c)), .a (.one (.int .i64 (.lit 3)))]) (fun w => ?_) (h4 k1) hw hk
        have e : kindOf c.v 3 = 2 := by
          have a1 := kindOf_lo c.v 3 (by omega)
          have a2 := kindOf_hi c.v 3 (by omega)
          have a3 : kindOf c.v 3 ≠ 0 := by simpa using k0
          have a4 : kindOf c.v 3 ≠ 1 := by simpa using k1
          omega
        have := hc w
        rw [e] at this
        exact this
  · rename_i c m hne
    cases hm : (decide (0 < m) && decide (m ≤ 100000)) with
    | false => rw [hm] at ht; cases ht
    | true =>
      rw [hm] at ht
      simp only [cond_true, Option.some.injEq] at ht
      subst ht
      rw [Bool.and_eq_true] at hm
      have m0 : 0 < m := of_decide_eq_true hm.1
      have m1 : m ≤ 100000 := of_decide_eq_true hm.2
      exact at_pure (args := [.a (.one (.int .i64 c)), .a (.one (.int .i64 (.lit m)))]) (fun w => h c.v m w hl.1.1 hl.1.2 m0 m1) hl.2 hw hk
  · cases ht
/-! ### memories -/
def cLoad (T : Nat) : CtrAt X := fun args H n k =>
  match args with
  | [.a (.one (.ptr nm b 0)), .a (.one (.int .i64 a))] =>
    match find H nm with
    | some (b', .abs (.mem T' M)) => bif Nat.beq T' T then some (needs [b = b', M.ok] (k (.c (.int .u64 (.sym (M.load a.v)))) (put H nm (.abs (.mem T (M.loaded a.v)))) n)) else none
    | _ => none
  | _ => none
theorem cLoad_ok {P : Program} {g T : Nat} (h : ∀ (w : World) (R : HProp) (mb : Nat) (M : MS) (a : Int), Holds w (MemP T mb M * R) → M.ok → Calls P g #[.pointer (some ⟨mb, 0, none⟩), .int .i64 a] w fun e w' => e = .returned (.int .u64 (M.load a)) ∧ Holds w' (MemP T mb (M.loaded a) * R) ∧ Strm w w') : CAtOk P g (cLoad T : CtrAt X) := by
  intro args H n k t ht L hl w R hw Q hk
  unfold cLoad at ht
  split at ht
  · rename_i nm b a
    split at ht
    · rename_i b' T' M hf
      cases hT : Nat.beq T' T with
      | false => rw [hT] at ht; cases ht
      | true =>
        rw [hT] at ht
        have eT := Nat.eq_of_beq_eq_true hT
        subst eT
        simp only [cond_true, Option.some.injEq] at ht
        subst ht
        obtain ⟨h1, h2⟩ := needs_leads hl
        have e : b = b' := h1 _ (by simp)
        have hok : M.ok := h1 _ (by simp)
        subst e
        refine (h w _ b M a.v (focus hf hw) hok).mono ?_
        rintro e w' ⟨rfl, H2, s⟩
        exact hk _ _ _ w' h2 (unfocus (o1 := .abs (.mem T' (M.loaded a.v))) hf H2) s
    · cases ht
  · cases ht
def cStore (T : Nat) : CtrAt X := fun args H n k =>
  match args with
  | [.a (.one (.ptr nm b 0)), .a (.one (.int .i64 a)), .a (.one (.int .u64 x))] =>
    match find H nm with
    | some (b', .abs (.mem T' M)) => bif Nat.beq T' T then some (needs [b = b', M.ok] (k .un (put H nm (.abs (.mem T (M.store a.v x.v)))) n)) else none
    | _ => none
  | _ => none
theorem cStore_ok {P : Program} {g T : Nat} (h : ∀ (w : World) (R : HProp) (mb : Nat) (M : MS) (a x : Int), Holds w (MemP T mb M * R) → M.ok → Calls P g #[.pointer (some ⟨mb, 0, none⟩), .int .i64 a, .int .u64 x] w fun e w' => e = .returned (.tuple #[]) ∧ Holds w' (MemP T mb (M.store a x) * R) ∧ Strm w w') : CAtOk P g (cStore T : CtrAt X) := by
  intro args H n k t ht L hl w R hw Q hk
  unfold cStore at ht
  split at ht
  · rename_i nm b a x
    split at ht
    · rename_i b' T' M hf
      cases hT : Nat.beq T' T with
      | false => rw [hT] at ht; cases ht
      | true =>
        rw [hT] at ht
        have eT := Nat.eq_of_beq_eq_true hT
        subst eT
        simp only [cond_true, Option.some.injEq] at ht
        subst ht
        obtain ⟨h1, h2⟩ := needs_leads hl
        have e : b = b' := h1 _ (by simp)
        have hok : M.ok := h1 _ (by simp)
        subst e
        refine (h w _ b M a.v x.v (focus hf hw) hok).mono ?_
        rintro e w' ⟨rfl, H2, s⟩
        exact hk _ _ _ w' h2 (unfocus (o1 := .abs (.mem T' (M.store a.v x.v))) hf H2) s
    · cases ht
  · cases ht
def cCas (T : Nat) : CtrAt X := fun args H n k =>
  match args with
  | [.a (.one (.ptr nm b 0)), .a (.one (.int .i64 a)), .a (.one (.int .u64 o)), .a (.one (.int .u64 x))] =>
    match find H nm with
    | some (b', .abs (.mem T' M)) => bif Nat.beq T' T then some (needs [b = b', M.ok] (k (.c (.bool (.sym (M.casOk a.v o.v)))) (put H nm (.abs (.mem T (M.cas a.v o.v x.v)))) n)) else none
    | _ => none
  | _ => none
theorem cCas_ok {P : Program} {g T : Nat} (h : ∀ (w : World) (R : HProp) (mb : Nat) (M : MS) (a o x : Int), Holds w (MemP T mb M * R) → M.ok → Calls P g #[.pointer (some ⟨mb, 0, none⟩), .int .i64 a, .int .u64 o, .int .u64 x] w fun e w' => e = .returned (.bool (M.casOk a o)) ∧ Holds w' (MemP T mb (M.cas a o x) * R) ∧ Strm w w') : CAtOk P g (cCas T : CtrAt X) := by
  intro args H n k t ht L hl w R hw Q hk
  unfold cCas at ht
  split at ht
  · rename_i nm b a o x
    split at ht
    · rename_i b' T' M hf
      cases hT : Nat.beq T' T with
      | false => rw [hT] at ht; cases ht
      | true =>
        rw [hT] at ht
        have eT := Nat.eq_of_beq_eq_true hT
        subst eT
        simp only [cond_true, Option.some.injEq] at ht
        subst ht
        obtain ⟨h1, h2⟩ := needs_leads hl
        have e : b = b' := h1 _ (by simp)
        have hok : M.ok := h1 _ (by simp)
        subst e
        refine (h w _ b M a.v o.v x.v (focus hf hw) hok).mono ?_
        rintro e w' ⟨rfl, H2, s⟩
        exact hk _ _ _ w' h2 (unfocus (o1 := .abs (.mem T' (M.cas a.v o.v x.v))) hf H2) s
    · cases ht
  · cases ht
theorem valA_den (x : SI) : (valA x).den = .agg #[.int .i64 (vK x.v), .int .i64 (vN x.v)] := by
  simp [valA, aggI, SV.den, SA.den, dens, SC.den, m1_v]
theorem headA_den (x : SI) : (headA x).den = (HV.of x.v).agg := by
  simp [headA, aggI, SV.den, SA.den, dens, SC.den, m1_v, HV.agg]
end
theorem noGos : NoGos Try.prog := by
  have h : (Try.prog.funcs.toList.all fun fn => !(fn.name == "runtime.NumGoroutine")) = true := by kernel_rfl
  intro f fn hf
  have hm : fn ∈ Try.prog.funcs.toList := by
    have := Array.mem_of_getElem? hf
    exact Array.mem_toList_iff.2 this
  have := List.all_eq_true.1 h fn hm
  simpa using this
theorem mixedOrders : Try.prog.follows .mixedOrders = true := by kernel_rfl
end Go.Proofs.Ytmmpnjcmaodkcaa.Ev
