/- What is proved: the texts on which the statement's own texts stand. Conditions: stated with each lemma. -/
import Derived.Test.YtmmpnjcmaodkcaaSep
import Derived.Laws.StructEq
import Derived.Laws.Cells
import Derived.WalkSpells
import Derived.OrdersHeld
import Derived.Deep.RegionHeld3
import Derived.Laws.Tables
import Derived.Laws.Pointers
import Derived.Laws.Slices
import Derived.Lib.MinMax
import Derived.LoopN
import Derived.Scope
/- What is proved: a small evaluator of the model's operations over a heap that is described block by block, and that each operation without memory does as it says. Conditions: stated with each lemma. -/
namespace Go.Proofs.Ytmmpnjcmaodkcaa.Ev
open Go Go.Proofs.Ytmmpnjcmaodkcaa.Sep
set_option linter.unusedVariables false
set_option linter.unusedSimpArgs false

/-- A whole number that is known, or not. -/
inductive SI where
  | lit (n : Int)
  | sym (x : Int)
def SI.v : SI → Int
  | .lit n => n
  | .sym x => x
inductive SB where
  | lit (b : Bool)
  | sym (x : Bool)
def SB.v : SB → Bool
  | .lit b => b
  | .sym x => x
inductive SN where
  | lit (n : Nat)
  | sym (x : Nat)
def SN.v : SN → Nat
  | .lit n => n
  | .sym x => x
/-- What one cell holds; a pointer bears its block's name and its block. -/
inductive SC where
  | int (k : IntKind) (n : SI)
  | bool (b : SB)
  | ptr (nm b off : Nat)
  | nil
  | slice (nm b off : Nat) (len cap : SN)
  | snil
  | func (f : Nat) (first cap : List (Nat × Nat × Nat))
  | nilF
  | raw (v : Value)
abbrev sI (x : Int) : SC := .int .i64 (.sym x)
abbrev lI (x : Int) : SC := .int .i64 (.lit x)
abbrev sU (x : Int) : SC := .int .u64 (.sym x)
abbrev lU (x : Int) : SC := .int .u64 (.lit x)
abbrev sB (x : Bool) : SC := .bool (.sym x)
abbrev lB (x : Bool) : SC := .bool (.lit x)
def pden (p : Nat × Nat × Nat) : Value := .pointer (some ⟨p.2.1, p.2.2, none⟩)
def SC.den : SC → Value
  | .int k n => .int k n.v
  | .bool b => .bool b.v
  | .ptr _ b o => .pointer (some ⟨b, o, none⟩)
  | .nil => .pointer none
  | .slice _ b o l c => .slice (some ⟨b, o, none⟩) l.v c.v
  | .snil => .slice none 0 0
  | .func f a c => .func (.func f) (a.map pden).toArray (c.map pden).toArray
  | .nilF => .nilFunc
  | .raw v => v
def dens (l : List SC) : Array Value := (l.map SC.den).toArray
inductive SA where
  | one (c : SC)
  | agg (l : List SC)
def SA.den : SA → Value
  | .one c => c.den
  | .agg l => .agg (dens l)
inductive SV where
  | a (x : SA)
  | tup (l : List SA)
def SV.den : SV → Value
  | .a x => x.den
  | .tup l => .tuple (l.map SA.den).toArray
abbrev SV.c (c : SC) : SV := .a (.one c)
abbrev SV.un : SV := .tup []
theorem un_den : SV.un.den = undef := rfl
def fden (fr : List SV) : Array Value := (fr.map SV.den).toArray
def SC.of : Value → SC
  | .int k n => .int k (.lit n)
  | .bool b => .bool (.lit b)
  | .pointer none => .nil
  | .slice none 0 0 => .snil
  | .nilFunc => .nilF
  | v => .raw v
theorem SC.den_of (v : Value) : (SC.of v).den = v := by
  unfold SC.of
  split <;> rfl
def SV.of : Value → SV
  | .agg cs => .a (.agg (cs.toList.map SC.of))
  | .tuple cs => bif cs.size == 0 then .un else .c (.raw (.tuple cs))
  | v => .c (SC.of v)
theorem dens_of (cs : Array Value) : dens (cs.toList.map SC.of) = cs := by
  unfold dens
  rw [List.map_map, show SC.den ∘ SC.of = id from funext SC.den_of, List.map_id]
theorem SV.den_of (v : Value) : (SV.of v).den = v := by
  unfold SV.of
  split
  · simp [SV.den, SA.den, dens_of]
  · rename_i cs
    by_cases h : cs.size = 0
    · have : cs = #[] := by simpa using h
      subst this; rfl
    · have : (cs.size == 0) = false := by simpa using h
      rw [this]; rfl
  · exact SC.den_of v
/-- An operand's value. -/
def opnd (fr : List SV) : Operand → SV
  | .tmp t => fr.getD t .un
  | .const v => SV.of v
  | .global g => .c (.raw (.pointer (some ⟨g, 0, none⟩)))
  | .func f => .c (.func f [] [])
theorem opnd_den (fr : List SV) (d : List Deferred) (x : Operand) : (⟨fden fr, d⟩ : Act).eval x = (opnd fr x).den := by
  cases x with
  | tmp t =>
    simp only [Act.eval, opnd, fden]
    rw [Array.getD_eq_getD_getElem?, List.getD_eq_getElem?_getD]
    simp only [List.getElem?_toArray, List.getElem?_map]
    cases fr[t]? <;> rfl
  | const v => exact (SV.den_of v).symm
  | global g => rfl
  | func f => rfl
def fput (fr : List SV) (d : Option Tmp) (v : SV) : List SV :=
  match d with
  | some d => fr.set d v
  | none => fr
theorem fput_den (fr : List SV) (ds : List Deferred) (d : Option Tmp) (v : SV) : (⟨fden fr, ds⟩ : Act).put d v.den = ⟨fden (fput fr d v), ds⟩ := by
  cases d with
  | none => rfl
  | some d => simp [Act.put, fput, fden, List.map_set]

/-! ### types, functions: a program's tables, quick to look into -/
class Fast (P : Program) where
  und : Nat → Option TypeDesc
  size : Nat → Option Nat
  zero : Nat → Option Value
  func : Nat → Option Func
  plain : Nat → Bool
  guard : Nat → Bool
  small : Nat → Bool
  und_ok : ∀ {t d}, und t = some d → P.underlying t = some d
  size_ok : ∀ {t n}, size t = some n → ∃ i, P.info? t = some i ∧ i.size = n
  zero_ok : ∀ {t v}, zero t = some v → ∃ i, P.info? t = some i ∧ i.zero = some v
  func_ok : ∀ {f fn}, func f = some fn → P.funcs[f]? = some fn
  plain_ok : ∀ {t}, plain t = true → P.stoodInHeld t = false
  guard_ok : ∀ {t}, guard t = true → P.eqGuardType P.depth t = false
  small_ok : ∀ {t}, small t = true → ∃ i, P.info? t = some i ∧ i.bytes ≤ 1048576
def tyAgg (P : Program) [Fast P] (t : TypeId) : Option Bool :=
  match Fast.und P t with
  | some (.struct _) => some true
  | some (.array _ _) => some true
  | some _ => some false
  | none => none
def tySize (P : Program) [Fast P] (t : TypeId) : Option Nat := Fast.size P t
theorem run_underlying' {P : Program} [Fast P] {t : TypeId} {d : TypeDesc} (h : Fast.und P t = some d) (w : World) : (underlying t).run P w = .ok d w := by
  unfold underlying
  simp [Fast.und_ok h]
theorem run_isAgg' {P : Program} [Fast P] {t : TypeId} {b : Bool} (h : tyAgg P t = some b) (w : World) : (isAgg t).run P w = .ok b w := by
  unfold tyAgg at h
  unfold isAgg
  cases hu : Fast.und P t with
  | none => rw [hu] at h; simp at h
  | some d =>
    rw [hu] at h
    simp only [Sem.run_bind, run_underlying' hu, Result.andThen_ok]
    cases d <;> simp at h <;> subst h <;> rfl
theorem run_sizeOf' {P : Program} [Fast P] {t : TypeId} {n : Nat} (h : tySize P t = some n) (w : World) : (sizeOf t).run P w = .ok n w := by
  obtain ⟨i, hi, hn⟩ := Fast.size_ok (P := P) h
  unfold sizeOf typeInfo
  simp only [Sem.run_bind, run_program, Result.andThen_ok]
  rw [hi]
  simp [hn]
theorem run_zeroValue' {P : Program} [Fast P] {t : TypeId} {v : Value} (h : Fast.zero P t = some v) (w : World) : (zeroValue t).run P w = .ok v w := by
  obtain ⟨i, hi, hv⟩ := Fast.zero_ok (P := P) h
  unfold zeroValue typeInfo
  simp [hi, hv]
def tyPart (P : Program) [Fast P] (t : TypeId) (l : List SC) (off : Nat) : Option SA :=
  match tyAgg P t, tySize P t with
  | some true, some n => some (.agg ((l.drop off).take n))
  | some false, _ => (l[off]?).map .one
  | _, _ => none
theorem run_part' {P : Program} [Fast P] {t : TypeId} {l : List SC} {off : Nat} {x : SA} (h : tyPart P t l off = some x) (w : World) : (part t (dens l) off).run P w = .ok x.den w := by
  unfold tyPart at h
  unfold part
  split at h
  · rename_i n ha hs
    simp only [Option.some.injEq] at h
    subst h
    simp only [Sem.run_bind, run_isAgg' ha, Result.andThen_ok, if_true, run_sizeOf' hs, Sem.run_pure, SA.den]
    congr 1
    simp [dens, List.extract_eq_take_drop, List.map_take, List.map_drop]
  · rename_i ha
    simp only [Sem.run_bind, run_isAgg' ha, Result.andThen_ok, Bool.false_eq_true, if_false]
    cases hl : l[off]? with
    | none => rw [hl] at h; simp at h
    | some c =>
      rw [hl] at h
      simp at h
      subst h
      have : (dens l)[off]? = some c.den := by simp [dens, hl]
      simp [this, SA.den]
  · simp at h

/-! ### whole numbers -/
def inR (k : IntKind) (n : Int) : Prop := k.min ≤ n ∧ n ≤ k.max
theorem wrap_in {k : IntKind} {n : Int} (h : inR k n) : k.wrap n = n := by
  unfold inR at h
  cases k <;> simp [IntKind.min, IntKind.max, IntKind.signed, IntKind.bits] at h <;> simp [IntKind.wrap, IntKind.signed, IntKind.bits] <;> omega
def bitsV (op : BinOp) (k : IntKind) (x y : Int) : Int :=
  match op with
  | .and => k.wrap (BitVec.ofInt k.bits x &&& BitVec.ofInt k.bits y).toNat
  | .or => k.wrap (BitVec.ofInt k.bits x ||| BitVec.ofInt k.bits y).toNat
  | .xor => k.wrap (BitVec.ofInt k.bits x ^^^ BitVec.ofInt k.bits y).toNat
  | _ => k.wrap (BitVec.ofInt k.bits x &&& ~~~ BitVec.ofInt k.bits y).toNat
/-- A sum, difference, product: of a kind with a sign it has to stay in the kind's range. -/
def arith (k : IntKind) (f : Int → Int → Int) (x y : SI) : List Prop × SC :=
  match x, y with
  | .lit a, .lit b => ([], .int k (.lit (k.wrap (f a b))))
  | x, y => bif k.signed then ([inR k (f x.v y.v)], .int k (.sym (f x.v y.v))) else ([], .int k (.sym (k.wrap (f x.v y.v))))
theorem arith_den (k : IntKind) (f : Int → Int → Int) (x y : SI) (h : ∀ p ∈ (arith k f x y).1, p) : (arith k f x y).2.den = .int k (k.wrap (f x.v y.v)) := by
  unfold arith at *
  split
  · rfl
  · rename_i x y hne
    cases hs : k.signed with
    | true =>
      rw [hs] at h
      simp only [cond_true] at h
      have h1 := h _ (List.mem_singleton.2 rfl)
      simp only [cond_true]
      rw [wrap_in h1]
      rfl
    | false => simp [hs]; rfl
def cmpB (f : Int → Int → Bool) (x y : SI) : SC :=
  match x, y with
  | .lit a, .lit b => .bool (.lit (f a b))
  | x, y => .bool (.sym (f x.v y.v))
theorem cmpB_den (f : Int → Int → Bool) (x y : SI) : (cmpB f x y).den = .bool (f x.v y.v) := by
  unfold cmpB; split <;> rfl
def intI (k : IntKind) (f : Int → Int → Int) (x y : SI) : SC :=
  match x, y with
  | .lit a, .lit b => .int k (.lit (f a b))
  | x, y => .int k (.sym (f x.v y.v))
theorem intI_den (k : IntKind) (f : Int → Int → Int) (x y : SI) : (intI k f x y).den = .int k (f x.v y.v) := by
  unfold intI; split <;> rfl
def nonZero : SI → List Prop
  | .lit n => bif n == 0 then [False] else []
  | .sym x => [x ≠ 0]
theorem nonZero_spec {y : SI} (h : ∀ p ∈ nonZero y, p) : y.v ≠ 0 := by
  cases y with
  | lit n =>
    intro h0
    have : n = 0 := h0
    subst this
    exact h False (by simp [nonZero])
  | sym x => have h1 : x ≠ 0 := h _ (List.mem_singleton.2 rfl); exact h1
def nonNeg : SI → List Prop
  | .lit n => bif decide (n < 0) then [False] else []
  | .sym x => [0 ≤ x]
theorem nonNeg_spec {y : SI} (h : ∀ p ∈ nonNeg y, p) : ¬ y.v < 0 := by
  cases y with
  | lit n =>
    intro h0
    have h0' : n < 0 := h0
    exact h False (by simp [nonNeg, h0'])
  | sym x => have h1 : 0 ≤ x := h _ (List.mem_singleton.2 rfl); show ¬ x < 0; omega
def sameK (j k : IntKind) : Bool :=
  match j, k with
  | .i8, .i8 | .i16, .i16 | .i32, .i32 | .i64, .i64 | .u8, .u8 | .u16, .u16 | .u32, .u32 | .u64, .u64 => true
  | _, _ => false
theorem sameK_spec {j k : IntKind} (h : sameK j k = true) : j = k := by cases j <;> cases k <;> first | rfl | cases h
def shlV (k : IntKind) (x y : Int) : Int := k.wrap (x * 2 ^ (min y.toNat k.bits))
def shrV (k : IntKind) (x y : Int) : Int := x.fdiv (2 ^ (min y.toNat k.bits))
def binInt (op : BinOp) (k : IntKind) (x : SI) (k' : IntKind) (y : SI) : Option (List Prop × SC) :=
  match op with
  | .shl => some (nonNeg y, intI k (shlV k) x y)
  | .shr => some (nonNeg y, intI k (shrV k) x y)
  | op =>
    bif !sameK k k' then none else
    match op with
    | .add => some (arith k (· + ·) x y)
    | .sub => some (arith k (· - ·) x y)
    | .mul => some (arith k (· * ·) x y)
    | .quo => some (nonZero y, intI k (fun a b => k.wrap (a.tdiv b)) x y)
    | .rem => some (nonZero y, intI k Int.tmod x y)
    | .and => some ([], intI k (bitsV .and k) x y)
    | .or => some ([], intI k (bitsV .or k) x y)
    | .xor => some ([], intI k (bitsV .xor k) x y)
    | .andNot => some ([], intI k (bitsV .andNot k) x y)
    | .eql => some ([], cmpB (fun a b => a == b) x y)
    | .neq => some ([], cmpB (fun a b => a != b) x y)
    | .lss => some ([], cmpB (fun a b => decide (a < b)) x y)
    | .leq => some ([], cmpB (fun a b => decide (a ≤ b)) x y)
    | .gtr => some ([], cmpB (fun a b => decide (a > b)) x y)
    | .geq => some ([], cmpB (fun a b => decide (a ≥ b)) x y)
    | _ => none
theorem run_binInt {P : Program} {op : BinOp} {k k' : IntKind} {x y : SI} {ps : List Prop} {c : SC} (t : TypeId) (h : binInt op k x k' y = some (ps, c)) (hp : ∀ p ∈ ps, p) (w : World) :
    (binOp op t (.int k x.v) (.int k' y.v)).run P w = .ok c.den w := by
  by_cases hk : k = k'
  · subst hk
    have hs : sameK k k = true := by cases k <;> rfl
    have key : ∀ {op : BinOp} {f : Int → Int → Int}, some (arith k f x y) = some (ps, c) → c.den = .int k (k.wrap (f x.v y.v)) := by
      intro op f h
      simp only [Option.some.injEq] at h
      have := arith_den k f x y (by rw [h]; exact hp)
      rw [h] at this; exact this
    cases op <;> simp [binInt, hs] at h
    case add => rw [show c.den = _ from key (op := .add) (by rw [h])]; simp [binOp, Op.intArith]
    case sub => rw [show c.den = _ from key (op := .sub) (by rw [h])]; simp [binOp, Op.intArith]
    case mul => rw [show c.den = _ from key (op := .mul) (by rw [h])]; simp [binOp, Op.intArith]
    case quo =>
      obtain ⟨rfl, rfl⟩ := h
      have := nonZero_spec hp
      simp [binOp, Op.intDiv, this, intI_den]
    case rem =>
      obtain ⟨rfl, rfl⟩ := h
      have := nonZero_spec hp
      simp [binOp, Op.intDiv, this, intI_den]
    case shl =>
      obtain ⟨rfl, rfl⟩ := h
      have := nonNeg_spec hp
      simp [binOp, Op.shift, this, intI_den, shlV, shrV]
    case shr =>
      obtain ⟨rfl, rfl⟩ := h
      have := nonNeg_spec hp
      simp [binOp, Op.shift, this, intI_den, shlV, shrV]
    all_goals
      obtain ⟨rfl, rfl⟩ := h
      first
        | (rw [intI_den]; simp [binOp, Op.intBits, bitsV]; done)
        | (rw [cmpB_den]; simp [binOp, Op.intCmp]; done)
  · have hs : sameK k k' = false := by
      cases hh : sameK k k' with
      | false => rfl
      | true => exact absurd (sameK_spec hh) hk
    cases op <;> simp [binInt, hs] at h
    case shl =>
      obtain ⟨rfl, rfl⟩ := h
      have := nonNeg_spec hp
      simp [binOp, Op.shift, this, intI_den, shlV, shrV]
    case shr =>
      obtain ⟨rfl, rfl⟩ := h
      have := nonNeg_spec hp
      simp [binOp, Op.shift, this, intI_den, shlV, shrV]
end Go.Proofs.Ytmmpnjcmaodkcaa.Ev
/- What is proved: the operations that neither read nor make memory, as the evaluator has them. Conditions: stated with each lemma. -/
namespace Go.Proofs.Ytmmpnjcmaodkcaa.Ev
open Go Go.Proofs.Ytmmpnjcmaodkcaa.Sep
set_option linter.unusedVariables false
set_option linter.unusedSimpArgs false

/-! ### equality -/
def eqSI (x y : SI) : SB :=
  match x, y with
  | .lit a, .lit b => .lit (a == b)
  | x, y => .sym (x.v == y.v)
theorem eqSI_v (x y : SI) : (eqSI x y).v = (x.v == y.v) := by unfold eqSI; split <;> rfl
def eqSB (x y : SB) : SB :=
  match x, y with
  | .lit a, .lit b => .lit (a == b)
  | x, y => .sym (x.v == y.v)
theorem eqSB_v (x y : SB) : (eqSB x y).v = (x.v == y.v) := by unfold eqSB; split <;> rfl
def andSB (x y : SB) : SB :=
  match x, y with
  | .lit true, y => y
  | .lit false, _ => .lit false
  | x, .lit true => x
  | x, y => .sym (x.v && y.v)
theorem andSB_v (x y : SB) : (andSB x y).v = (x.v && y.v) := by
  unfold andSB; split
  · simp [SB.v]
  · simp [SB.v]
  · simp [SB.v]
  · rfl
def notSB : SB → SB
  | .lit b => .lit (!b)
  | .sym x => .sym (!x)
theorem notSB_v (x : SB) : (notSB x).v = !x.v := by cases x <;> rfl
def eqV (P : Program) [Fast P] : Nat → TypeId → SA → SA → Option SB
  | 0, _, _, _ => none
  | d + 1, t, x, y =>
    match Fast.und P t, x, y with
    | some (.int _), .one (.int k a), .one (.int k' b) => bif sameK k k' then some (eqSI a b) else none
    | some .bool, .one (.bool a), .one (.bool b) => some (eqSB a b)
    | some (.pointer _), .one .nil, .one .nil => some (.lit true)
    | some (.pointer _), .one .nil, .one (.ptr _ _ _) => some (.lit false)
    | some (.pointer _), .one (.ptr _ _ _), .one .nil => some (.lit false)
    | some (.slice _), .one .snil, .one .snil => some (.lit true)
    | some (.slice _), .one (.slice _ _ _ _ _), .one .snil => some (.lit false)
    | some (.slice _), .one .snil, .one (.slice _ _ _ _ _) => some (.lit false)
    | some (.func _ _ _), .one .nilF, .one .nilF => some (.lit true)
    | some (.func _ _ _), .one (.func _ _ _), .one .nilF => some (.lit false)
    | some (.func _ _ _), .one .nilF, .one (.func _ _ _) => some (.lit false)
    | some (.struct fs), .agg xs, .agg ys =>
      bif !(Fast.plain P t) then none else
      fs.toList.foldr (fun f acc =>
        match tyPart P f.type xs f.offset, tyPart P f.type ys f.offset with
        | some a, some b =>
          match eqV P d f.type a b, acc with
          | some r, some s => bif f.name == "_" then none else some (andSB r s)
          | _, _ => none
        | _, _ => none) (some (.lit true))
    | _, _, _ => none
theorem run_eqV {P : Program} [Fast P] : ∀ (d : Nat) (t : TypeId) (x y : SA) (b : SB), eqV P d t x y = some b → ∀ (e : Nat) (w : World), (Op.equalIn (d + e) t x.den y.den).run P w = .ok b.v w
  | 0, _, _, _, _, h, _, _ => by simp [eqV] at h
  | d + 1, t, x, y, b, h, e, w => by
    rw [show d + 1 + e = (d + e) + 1 by omega]
    unfold eqV at h
    split at h
    · rename_i k0 k a k' b' hu
      cases hk : sameK k k' with
      | false => rw [hk] at h; simp at h
      | true =>
        rw [hk] at h
        simp at h
        have := sameK_spec hk
        subst this
        subst h
        simp [SA.den, SC.den, Op.equalIn, run_underlying' hu, eqSI_v]
    · rename_i hu
      simp at h; subst h
      simp [SA.den, SC.den, Op.equalIn, run_underlying' hu, eqSB_v]
    · rename_i hu; simp at h; subst h; simp [SA.den, SC.den, Op.equalIn, run_underlying' hu, SB.v]
    · rename_i hu; simp at h; subst h; simp [SA.den, SC.den, Op.equalIn, run_underlying' hu, SB.v]
    · rename_i hu; simp at h; subst h; simp [SA.den, SC.den, Op.equalIn, run_underlying' hu, SB.v]
    · rename_i hu; simp at h; subst h; simp [SA.den, SC.den, Op.equalIn, run_underlying' hu, SB.v]
    · rename_i hu; simp at h; subst h; simp [SA.den, SC.den, Op.equalIn, run_underlying' hu, SB.v]
    · rename_i hu; simp at h; subst h; simp [SA.den, SC.den, Op.equalIn, run_underlying' hu, SB.v]
    · rename_i hu; simp at h; subst h; simp [SA.den, SC.den, Op.equalIn, run_underlying' hu, SB.v]
    · rename_i hu; simp at h; subst h; simp [SA.den, SC.den, Op.equalIn, run_underlying' hu, SB.v]
    · rename_i hu; simp at h; subst h; simp [SA.den, SC.den, Op.equalIn, run_underlying' hu, SB.v]
    · rename_i fs xs ys hu
      cases hs : Fast.plain P t with
      | false => rw [hs] at h; simp at h
      | true =>
        rw [hs] at h
        simp only [Bool.not_true, cond_false] at h
        have hf : P.fieldsOf t = fs := by simp [Program.fieldsOf, Fast.und_ok hu]
        show (Op.equalIn (d + e + 1) t (.agg (dens xs)) (.agg (dens ys))).run P w = _
        rw [run_equalIn_struct (P := P) w (d + e) t _ _ (by rw [hf]; exact Fast.und_ok hu) (Fast.plain_ok hs), hf]
        revert b h
        induction fs.toList with
        | nil => intro b h; simp at h; subst h; simp [Op.eqFields, SB.v]
        | cons f l ih =>
          intro b h
          simp only [List.foldr_cons] at h
          split at h
          · rename_i a1 b1 ha hb
            split at h
            · rename_i r s hr hs'
              cases hn : (f.name == "_") with
              | true => rw [hn] at h; simp at h
              | false =>
                rw [hn] at h
                simp at h
                subst h
                have hn' : f.name ≠ "_" := by simpa using hn
                have ih' := ih s hs'
                simp only [Op.eqFields, if_pos hn', Sem.run_bind, run_part' ha, run_part' hb, Result.andThen_ok, run_eqV d f.type a1 b1 r hr e w, andSB_v]
                cases hrv : r.v with
                | false => simp
                | true => simp [ih']
            · simp at h
          · simp at h
    · simp at h

/-! ### parts of an aggregate -/
def SA.cells : SA → List SC
  | .one c => [c]
  | .agg l => l
theorem den_notAgg (c : SC) (h : ∀ v, c ≠ .raw v) : c.den.cells = #[c.den] := by
  cases c <;> first | rfl | exact absurd rfl (h _)
def SA.plain : SA → Bool
  | .one (.raw _) => false
  | _ => true
theorem SA.cells_den (x : SA) (h : x.plain = true) : x.den.cells = dens x.cells := by
  cases x with
  | one c =>
    show c.den.cells = _
    rw [den_notAgg c (fun v hv => by subst hv; cases h)]
    rfl
  | agg l => rfl
/-- The cells c over the ones from off on. -/
def over (cells : List SC) (off : Nat) (c : List SC) : List SC := cells.take off ++ c ++ cells.drop (off + c.length)
theorem over_den (cells : List SC) (off : Nat) (c : List SC) (h : off + c.length ≤ cells.length) :
    (dens c).zipIdx.foldl (fun cs p => cs.setIfInBounds (off + p.2) p.1) (dens cells) = dens (over cells off c) := by
  have key : ∀ (c : List SC) (o : Nat) (cells : List SC), o + c.length ≤ cells.length →
      ((c.map SC.den).zipIdx.foldl (fun (cs : Array Value) p => cs.setIfInBounds (o + p.2) p.1) (dens cells)) = dens (over cells o c) := by
    intro c
    induction c with
    | nil => intro o cells h; simp [over]
    | cons x c ih =>
      intro o cells h
      simp only [List.length_cons] at h
      simp only [List.map_cons, List.zipIdx_cons, List.foldl_cons, Nat.add_zero, Nat.zero_add]
      have e1 : (dens cells).setIfInBounds o x.den = dens (cells.set o x) := by simp [dens, List.map_set]
      rw [e1]
      have e2 := ih (o + 1) (cells.set o x) (by simp; omega)
      have e3 : (List.map SC.den c).zipIdx 1 = ((List.map SC.den c).zipIdx).map (fun p => (p.1, p.2 + 1)) := by
        rw [List.zipIdx_succ]
      rw [e3, List.foldl_map]
      have e4 : (fun (cs : Array Value) (p : Value × Nat) => cs.setIfInBounds (o + (p.2 + 1)) p.1) = (fun cs p => cs.setIfInBounds (o + 1 + p.2) p.1) := by
        funext cs p; rw [show o + (p.2 + 1) = o + 1 + p.2 by omega]
      show List.foldl (fun (cs : Array Value) (p : Value × Nat) => cs.setIfInBounds (o + (p.2 + 1)) p.1) _ _ = _
      rw [e4, e2]
      congr 1
      unfold over
      have ho : o < cells.length := by omega
      have e5 : (cells.set o x).take (o + 1) = cells.take o ++ [x] := by
        rw [List.take_succ_eq_append_getElem (by simpa using ho)]
        simp only [List.getElem_set_self]
        congr 1
        apply List.ext_getElem?
        intro i
        rw [List.getElem?_take, List.getElem?_take]
        split
        · rw [List.getElem?_set_ne (by omega)]
        · rfl
      rw [e5, List.length_cons]
      rw [show o + 1 + c.length = o + (c.length + 1) by omega]
      rw [List.drop_set_of_lt (by omega)]
      simp
  have := key c off cells h
  rw [← this]
  unfold dens
  rw [← Array.foldl_toList]
  congr 1
  simp
def fillC (place : Nat → Option (Nat × Nat)) (cells : List SC) : List (Nat × SA) → Option (List SC)
  | [] => some cells
  | (i, x) :: rest =>
    match place i with
    | none => none
    | some (off, size) =>
      bif x.plain && (x.cells.length == size && Nat.ble (off + x.cells.length) cells.length) then fillC place (over cells off x.cells) rest else none
theorem fillC_den (place : Nat → Option (Nat × Nat)) : ∀ (parts : List (Nat × SA)) (cells r : List SC), fillC place cells parts = some r →
    Instr.fill place (dens cells) (parts.map fun p => (p.1, p.2.den)) = some (dens r)
  | [], cells, r, h => by simp [fillC] at h; subst h; rfl
  | (i, x) :: rest, cells, r, h => by
    unfold fillC at h
    simp only [List.map_cons, Instr.fill]
    cases hp : place i with
    | none => rw [hp] at h; simp at h
    | some q =>
      obtain ⟨off, size⟩ := q
      rw [hp] at h
      simp only at h ⊢
      cases hc : (x.plain && (x.cells.length == size && Nat.ble (off + x.cells.length) cells.length)) with
      | false => rw [hc] at h; simp at h
      | true =>
        rw [hc] at h
        simp only [cond_true] at h
        simp at hc
        obtain ⟨h1, h2, h3⟩ := hc
        rw [SA.cells_den x h1]
        have l1 : (dens x.cells).size = x.cells.length := by simp [dens]
        have l2 : (dens cells).size = cells.length := by simp [dens]
        rw [if_neg (by simp [l1, l2, h2]; omega), over_den _ _ _ h3]
        exact fillC_den place rest _ r h
def zeroC (P : Program) [Fast P] (t : TypeId) : Option (List SC) :=
  match Fast.zero P t with
  | some v => some (v.cells.toList.map SC.of)
  | none => none
def placesC (P : Program) [Fast P] : List Field → Option (List (Nat × Nat))
  | [] => some []
  | f :: r =>
    match Fast.size P f.type, placesC P r with
    | some n, some l => some ((f.offset, n) :: l)
    | _, _ => none
theorem placesC_ok {P : Program} [Fast P] : ∀ (fs : List Field) (l : List (Nat × Nat)), placesC P fs = some l → fs.mapM (fun f => (P.info? f.type).map fun i => (f.offset, i.size)) = some l
  | [], l, h => by simp [placesC] at h; subst h; rfl
  | f :: r, l, h => by
    unfold placesC at h
    split at h
    · rename_i n l' hn hl
      simp only [Option.some.injEq] at h
      subst h
      obtain ⟨i, hi, hs⟩ := Fast.size_ok (P := P) hn
      simp [List.mapM_cons, hi, hs, placesC_ok r l' hl]
    · cases h
def builtC (P : Program) [Fast P] (t : TypeId) (parts : List (Nat × SA)) : Option (List SC) :=
  match Fast.zero P t, Fast.und P t with
  | some z, some (.array _ e) =>
    match Fast.size P e with
    | some n => fillC (fun i => some (i * n, n)) (z.cells.toList.map SC.of) parts
    | none => none
  | some z, some (.struct fields) =>
    match placesC P fields.toList with
    | some places => fillC (places.toArray[·]?) (z.cells.toList.map SC.of) parts
    | none => none
  | _, _ => none
theorem builtC_den {P : Program} [Fast P] {t : TypeId} {parts : List (Nat × SA)} {r : List SC} (h : builtC P t parts = some r) : P.built t (parts.map fun p => (p.1, p.2.den)) = some (dens r) := by
  unfold builtC at h
  unfold Program.built
  split at h
  · rename_i z n e hz hu
    obtain ⟨it, hi, hzz⟩ := Fast.zero_ok hz
    simp only [hi, Fast.und_ok hu, hzz]
    split at h
    · rename_i k hk
      obtain ⟨ie, hie, hs⟩ := Fast.size_ok hk
      simp only [hie]
      have := fillC_den _ _ _ _ h
      rw [dens_of] at this
      rw [hs]
      exact this
    · cases h
  · rename_i z fields hz hu
    obtain ⟨it, hi, hzz⟩ := Fast.zero_ok hz
    simp only [hi, Fast.und_ok hu, hzz]
    split at h
    · rename_i places hpl
      simp only [placesC_ok _ _ hpl]
      have := fillC_den _ _ _ _ h
      rw [dens_of] at this
      exact this
    · cases h
  · cases h
/-- Operands as parts. -/
def partsA (fr : List SV) : List (Nat × Operand) → Option (List (Nat × SA))
  | [] => some []
  | (i, x) :: l =>
    match opnd fr x, partsA fr l with
    | .a y, some r => some ((i, y) :: r)
    | _, _ => none
theorem partsA_den (fr : List SV) (ds : List Deferred) : ∀ (l : List (Nat × Operand)) (r : List (Nat × SA)), partsA fr l = some r →
    l.map (fun p => (p.1, (⟨fden fr, ds⟩ : Act).eval p.2)) = r.map fun p => (p.1, p.2.den)
  | [], r, h => by simp [partsA] at h; subst h; rfl
  | (i, x) :: l, r, h => by
    unfold partsA at h
    split at h
    · rename_i y r' hy hr
      simp at h; subst h
      rw [List.map_cons, List.map_cons, ← partsA_den fr ds l r' hr, opnd_den, hy]
      rfl
    · simp at h
def ptrsA (fr : List SV) : List Operand → Option (List (Nat × Nat × Nat))
  | [] => some []
  | x :: l =>
    match opnd fr x, ptrsA fr l with
    | .a (.one (.ptr nm b o)), some r => some ((nm, b, o) :: r)
    | _, _ => none
theorem ptrsA_den (fr : List SV) (ds : List Deferred) : ∀ (l : List Operand) (r : List (Nat × Nat × Nat)), ptrsA fr l = some r → l.map (⟨fden fr, ds⟩ : Act).eval = r.map pden
  | [], r, h => by simp [ptrsA] at h; subst h; rfl
  | x :: l, r, h => by
    unfold ptrsA at h
    split at h
    · rename_i nm b o r' hy hr
      simp at h; subst h
      rw [List.map_cons, List.map_cons, ← ptrsA_den fr ds l r' hr, opnd_den, hy]
      rfl
    · simp at h
end Go.Proofs.Ytmmpnjcmaodkcaa.Ev
/- What is proved: an operation that neither reads nor makes memory yields what the evaluator says, in whatever world. Conditions: the evaluator's own premises. -/
namespace Go.Proofs.Ytmmpnjcmaodkcaa.Ev
open Go Go.Proofs.Ytmmpnjcmaodkcaa.Sep
set_option linter.unusedVariables false
set_option linter.unusedSimpArgs false

def binV (P : Program) [Fast P] (op : BinOp) (t : TypeId) (x y : SV) : Option (List Prop × SV) :=
  match x, y with
  | .a (.one (.int k a)), .a (.one (.int k' b)) => (binInt op k a k' b).map fun r => (r.1, .c r.2)
  | .a x, .a y =>
    match op with
    | .eql => bif !(Fast.guard P t) then none else (eqV P 8 t x y).map fun b => ([], .c (.bool b))
    | .neq => bif !(Fast.guard P t) then none else (eqV P 8 t x y).map fun b => ([], .c (.bool (notSB b)))
    | _ => none
  | _, _ => none
theorem run_eqGuard {P : Program} [Fast P] {op : BinOp} {t : TypeId} {x y : Operand} {a b : SA} (hg0 : Fast.guard P t = true) (h : (eqV P 8 t a b).isSome = true) (w : World) :
    (eqGuard op t x y a.den b.den).run P w = .ok () w := by
  have hg := Fast.guard_ok hg0
  cases op <;> first
    | (simp [eqGuard]; done)
    | (cases a with
      | agg xs =>
        cases b with
        | agg ys => simp [eqGuard, SA.den, hg]
        | one c => simp [eqV] at h
      | one c =>
        cases c <;> first
          | (simp [eqGuard, SA.den, SC.den]; done)
          | (unfold eqV at h; split at h <;> simp_all; done))
theorem run_binV {P : Program} [Fast P] {op : BinOp} {t : TypeId} {x y : SV} {ps : List Prop} {v : SV} (h : binV P op t x y = some (ps, v)) (hp : ∀ p ∈ ps, p) (ox oy : Operand) (w : World) :
    (do eqGuard op t ox oy x.den y.den; binOp op t x.den y.den : Sem Value).run P w = .ok v.den w := by
  unfold binV at h
  split at h
  · rename_i k a k' b
    cases hb : binInt op k a k' b with
    | none => rw [hb] at h; simp at h
    | some r =>
      rw [hb] at h
      simp at h
      obtain ⟨rfl, rfl⟩ := h
      have hr := run_binInt (P := P) (x := a) (y := b) (ps := r.1) (c := r.2) t hb hp w
      have hq : (eqGuard op t ox oy (SV.a (.one (.int k a))).den (SV.a (.one (.int k' b))).den).run P w = .ok () w := by
        cases op <;> simp [eqGuard, SV.den, SA.den, SC.den]
      simp only [Sem.run_bind, hq, Result.andThen_ok]
      exact hr
  · rename_i x y hne
    split at h
    · cases hg : Fast.guard P t with
      | false => rw [hg] at h; simp at h
      | true =>
        rw [hg] at h
        simp only [Bool.not_true, cond_false] at h
        cases he : eqV P 8 t x y with
        | none => rw [he] at h; simp at h
        | some b =>
          rw [he] at h
          simp at h
          obtain ⟨rfl, rfl⟩ := h
          have hq := run_eqGuard (op := .eql) (x := ox) (y := oy) hg (by rw [he]; rfl) w
          have hr := run_eqV 8 t x y b he 9992 w
          have hb : binOp .eql t x.den y.den = (do pure (.bool (← Op.equal t x.den y.den))) := by
            unfold eqV at he
            split at he <;> first | rfl | (simp at he; done) | (exfalso; exact hne _ _ _ _ rfl rfl)
          simp only [SV.den, Sem.run_bind, hq, Result.andThen_ok, hb]
          unfold Op.equal Op.maxDepth
          rw [hr]
          rfl
    · cases hg : Fast.guard P t with
      | false => rw [hg] at h; simp at h
      | true =>
        rw [hg] at h
        simp only [Bool.not_true, cond_false] at h
        cases he : eqV P 8 t x y with
        | none => rw [he] at h; simp at h
        | some b =>
          rw [he] at h
          simp at h
          obtain ⟨rfl, rfl⟩ := h
          have hq := run_eqGuard (op := .neq) (x := ox) (y := oy) hg (by rw [he]; rfl) w
          have hr := run_eqV 8 t x y b he 9992 w
          have hb : binOp .neq t x.den y.den = (do pure (.bool (!(← Op.equal t x.den y.den)))) := by
            unfold eqV at he
            split at he <;> first | rfl | (simp at he; done) | (exfalso; exact hne _ _ _ _ rfl rfl)
          simp only [SV.den, Sem.run_bind, hq, Result.andThen_ok, hb]
          unfold Op.equal Op.maxDepth
          rw [hr]
          simp [SA.den, SC.den, notSB_v]
    · simp at h
  · simp at h
/-- An index within n. -/
def within (i : SI) (n : SN) : List Prop :=
  match i, n with
  | .lit i, .lit n => bif decide (0 ≤ i) && decide (i < (n : Int)) then [] else [False]
  | i, n => [0 ≤ i.v ∧ i.v < (n.v : Int)]
theorem within_spec {i : SI} {n : SN} (h : ∀ p ∈ within i n, p) : 0 ≤ i.v ∧ i.v < (n.v : Int) := by
  unfold within at h
  split at h
  · rename_i i n
    cases hc : (decide (0 ≤ i) && decide (i < (n : Int))) with
    | true => simpa [SI.v, SN.v] using hc
    | false => rw [hc] at h; exact (h False (List.mem_singleton.2 rfl)).elim
  · exact h _ (List.mem_singleton.2 rfl)
def indexAddrV (P : Program) [Fast P] (t : TypeId) (x ix : SV) : Option (List Prop × SV) :=
  match Fast.und P t, x, ix with
  | some (.slice e), .a (.one (.slice nm b off len cap)), .a (.one (.int k i)) =>
    (tySize P e).map fun n => (within i len, .c (.ptr nm b (off + i.v.toNat * n)))
  | some (.array m e), .a (.one (.ptr nm b off)), .a (.one (.int k i)) =>
    (tySize P e).map fun n => (within i (.lit m), .c (.ptr nm b (off + i.v.toNat * n)))
  | _, _, _ => none
theorem addr_add (b off n : Nat) : (⟨b, off, none⟩ : Addr).add n = ⟨b, off + n, none⟩ := by
  unfold Addr.add
  split
  · rename_i h; subst h; rfl
  · rfl
theorem run_indexAddrV {P : Program} [Fast P] {t : TypeId} {x ix : SV} {ps : List Prop} {v : SV} (h : indexAddrV P t x ix = some (ps, v)) (hp : ∀ p ∈ ps, p) (w : World) :
    (Instr.indexAt t x.den ix.den).run P w = .ok v.den w := by
  unfold indexAddrV at h
  split at h
  · rename_i e nm b off len cap k i hu
    cases hs : tySize P e with
    | none => rw [hs] at h; simp at h
    | some n =>
      rw [hs] at h
      simp at h
      obtain ⟨rfl, rfl⟩ := h
      have hw := within_spec hp
      unfold Instr.indexAt
      simp [SV.den, SA.den, SC.den, asIntOf, run_underlying' hu, hw, run_sizeOf' hs, addr_add]
  · rename_i m e nm b off k i hu
    cases hs : tySize P e with
    | none => rw [hs] at h; simp at h
    | some n =>
      rw [hs] at h
      simp at h
      obtain ⟨rfl, rfl⟩ := h
      have hw := within_spec hp
      simp [SN.v] at hw
      unfold Instr.indexAt
      simp [SV.den, SA.den, SC.den, asIntOf, run_underlying' hu, hw, run_sizeOf' hs, addr_add, Instr.sureAddr]
  · simp at h
def indexV (P : Program) [Fast P] (t : TypeId) (x ix : SV) : Option (List Prop × SV) :=
  match Fast.und P t, x, ix with
  | some (.array m e), .a (.agg l), .a (.one (.int k (.lit i))) =>
    match tySize P e with
    | some n => (tyPart P e l (i.toNat * n)).map fun r => (within (.lit i) (.lit m), .a r)
    | none => none
  | _, _, _ => none
theorem run_indexV {P : Program} [Fast P] {t : TypeId} {x ix : SV} {ps : List Prop} {v : SV} (h : indexV P t x ix = some (ps, v)) (hp : ∀ p ∈ ps, p) (w : World) :
    (Instr.index t x.den ix.den).run P w = .ok v.den w := by
  unfold indexV at h
  split at h
  · rename_i m e l k i hu
    split at h
    · rename_i n hs
      cases hr : tyPart P e l (i.toNat * n) with
      | none => rw [hr] at h; simp at h
      | some r =>
        rw [hr] at h
        simp at h
        obtain ⟨rfl, rfl⟩ := h
        have hw := within_spec hp
        simp [SI.v, SN.v] at hw
        unfold Instr.index
        simp [SV.den, SA.den, SC.den, SI.v, asIntOf, run_underlying' hu, hw, run_sizeOf' hs, run_part' hr]
    · simp at h
  · simp at h
def fieldAddrV (P : Program) [Fast P] (s : TypeId) (x : SV) (f : Nat) : Option (List Prop × SV) :=
  match Fast.und P s, x with
  | some (.struct fs), .a (.one (.ptr nm b off)) =>
    match fs[f]? with
    | some f => match tySize P f.type with
      | some (n + 1) => some ([], .c (.ptr nm b (off + f.offset)))
      | _ => none
    | none => none
  | _, _ => none
theorem run_fieldAddrV {P : Program} [Fast P] {s : TypeId} {x : SV} {f : Nat} {ps : List Prop} {v : SV} (h : fieldAddrV P s x f = some (ps, v)) (w : World) :
    (Instr.fieldAt s x.den f).run P w = .ok v.den w := by
  unfold fieldAddrV at h
  split at h
  · rename_i fs nm b off hu
    split at h
    · rename_i g hg
      split at h
      · rename_i n hs
        simp at h
        obtain ⟨rfl, rfl⟩ := h
        unfold Instr.fieldAt
        simp [SV.den, SA.den, SC.den, run_underlying' hu, hg, Instr.sureAddr, fieldPlace, run_sizeOf' hs, addr_add]
      · simp at h
    · simp at h
  · simp at h
def fieldV (P : Program) [Fast P] (t : TypeId) (x : SV) (f : Nat) : Option (List Prop × SV) :=
  match Fast.und P t, x with
  | some (.struct fs), .a (.agg l) =>
    match fs[f]? with
    | some f => (tyPart P f.type l f.offset).map fun r => ([], .a r)
    | none => none
  | _, _ => none
theorem run_fieldV {P : Program} [Fast P] {t : TypeId} {x : SV} {f : Nat} {ps : List Prop} {v : SV} (h : fieldV P t x f = some (ps, v)) (w : World) :
    (Instr.field t x.den f).run P w = .ok v.den w := by
  unfold fieldV at h
  split at h
  · rename_i fs l hu
    split at h
    · rename_i g hg
      cases hr : tyPart P g.type l g.offset with
      | none => rw [hr] at h; simp at h
      | some r =>
        rw [hr] at h
        simp at h
        obtain ⟨rfl, rfl⟩ := h
        unfold Instr.field
        simp [SV.den, SA.den, run_underlying' hu, hg, asAgg, run_part' hr]
    · simp at h
  · simp at h
def unV (op : UnOp) (x : SV) : Option (List Prop × SV) :=
  match op, x with
  | .not, .a (.one (.bool b)) => some ([], .c (.bool (notSB b)))
  | .neg, .a (.one (.int k n)) => let r := arith k (· - ·) (.lit 0) n; some (r.1, .c r.2)
  | _, _ => none
theorem run_unV {P : Program} [Fast P] {op : UnOp} {x : SV} {ps : List Prop} {v : SV} (h : unV op x = some (ps, v)) (hp : ∀ p ∈ ps, p) (w : World) : (Op.unary op x.den).run P w = .ok v.den w := by
  unfold unV at h
  split at h
  · simp at h
    obtain ⟨rfl, rfl⟩ := h
    simp [SV.den, SA.den, SC.den, Op.unary, notSB_v]
  · rename_i k n
    simp at h
    obtain ⟨rfl, rfl⟩ := h
    have := arith_den k (· - ·) (.lit 0) n hp
    show (Op.unary .neg (.int k n.v)).run P w = .ok (arith k (· - ·) (.lit 0) n).2.den w
    rw [this]
    simp [Op.unary, Op.intArith, SI.v]
  · simp at h
def convV (P : Program) [Fast P] (src dst : TypeId) (x : SV) : Option (List Prop × SV) :=
  match Fast.und P src, Fast.und P dst, x with
  | some (.int _), some (.int k), .a (.one (.int _ n)) => some ([], .c (.int k (match n with | .lit n => .lit (k.wrap n) | .sym n => .sym (k.wrap n))))
  | _, _, _ => none
theorem run_convV {P : Program} [Fast P] {src dst : TypeId} {x : SV} {ps : List Prop} {v : SV} (h : convV P src dst x = some (ps, v)) (w : World) : (convert src dst x.den).run P w = .ok v.den w := by
  unfold convV at h
  split at h
  · rename_i k0 k k1 n hs hd
    simp at h
    obtain ⟨rfl, rfl⟩ := h
    unfold convert
    simp [SV.den, SA.den, SC.den, run_underlying' hs, run_underlying' hd, Conv.intToInt]
    cases n <;> rfl
  · simp at h
def extractV (x : SV) (i : Nat) : Option (List Prop × SV) :=
  match x with
  | .tup l => (l[i]?).map fun r => ([], .a r)
  | _ => none
theorem run_extractV {P : Program} [Fast P] {x : SV} {i : Nat} {ps : List Prop} {v : SV} (h : extractV x i = some (ps, v)) (w : World) : (Instr.extract x.den i).run P w = .ok v.den w := by
  unfold extractV at h
  split at h
  · rename_i l
    cases hl : l[i]? with
    | none => rw [hl] at h; simp at h
    | some r =>
      rw [hl] at h
      simp at h
      obtain ⟨rfl, rfl⟩ := h
      simp [SV.den, Instr.extract, hl]
  · simp at h
/-- A bound of a slice expression: none, or one that is known. -/
def bound (fr : List SV) : Option Operand → Option (Option Nat)
  | none => some none
  | some x => match opnd fr x with
    | .a (.one (.int .i64 (.lit n))) => bif decide (0 ≤ n) then some (some n.toNat) else none
    | _ => none
def sliceV (P : Program) [Fast P] (fr : List SV) (t : TypeId) (x : SV) (lo hi mx : Option Operand) : Option (List Prop × SV) :=
  match Fast.und P t, x, bound fr lo, bound fr hi, mx with
  | some (.slice e), .a (.one (.slice nm b off (.lit len) (.lit cap))), some l, some h, none =>
    match tySize P e with
    | some n =>
      let h := h.getD len
      let l := l.getD 0
      bif Nat.ble l h && Nat.ble h cap && !(Nat.beq cap l) then some ([], .c (.slice nm b (off + l * n) (.lit (h - l)) (.lit (cap - l)))) else
      bif Nat.ble l h && Nat.ble h cap then some ([], .c (.slice nm b off (.lit (h - l)) (.lit (cap - l)))) else none
    | none => none
  | some (.array m e), .a (.one (.ptr nm b off)), some l, some h, none =>
    match tySize P e with
    | some n =>
      let h := h.getD m
      let l := l.getD 0
      bif Nat.ble l h && Nat.ble h m && !(Nat.beq m l) then some ([], .c (.slice nm b (off + l * n) (.lit (h - l)) (.lit (m - l)))) else none
    | none => none
  | _, _, _, _, _ => none
theorem bound_den {fr : List SV} {x : Option Operand} {r : Option Nat} (h : bound fr x = some r) (ds : List Deferred) :
    x.map (⟨fden fr, ds⟩ : Act).eval = r.map fun (n : Nat) => Value.int .i64 (n : Int) := by
  cases x with
  | none => simp [bound] at h; subst h; rfl
  | some x =>
    simp only [bound] at h
    split at h
    · rename_i n hx
      cases hn : decide (0 ≤ n) with
      | false => rw [hn] at h; simp at h
      | true =>
        rw [hn] at h
        simp at h hn
        subst h
        simp only [Option.map_some, opnd_den, hx, SV.den, SA.den, SC.den, SI.v]
        congr 2
        omega
    · simp at h
theorem run_sliceBound {P : Program} [Fast P] (n y : Nat) (c : BoundsCode) (h : n ≤ y) (w : World) : (Instr.sliceBound (.int .i64 (n : Int)) y c).run P w = .ok n w := by
  unfold Instr.sliceBound
  simp [asIntOf, h]
theorem run_sliceBounds {P : Program} [Fast P] (s : Bool) (len cap : Nat) (lo hi : Option Nat) (h1 : lo.getD 0 ≤ hi.getD len) (h2 : hi.getD len ≤ cap) (w : World) :
    (Instr.sliceBounds s len cap (lo.map fun (n : Nat) => Value.int .i64 (n : Int)) (hi.map fun (n : Nat) => Value.int .i64 (n : Int)) none).run P w = .ok (lo.getD 0, hi.getD len, cap) w := by
  unfold Instr.sliceBounds
  cases lo with
  | none =>
    cases hi with
    | none => simp
    | some h => simp at h2; simp [run_sliceBound _ _ _ h2]
  | some l =>
    cases hi with
    | none => simp at h1; simp [run_sliceBound _ _ _ h1]
    | some h => simp at h1 h2; simp [run_sliceBound _ _ _ h1, run_sliceBound _ _ _ h2]
theorem run_sliceV {P : Program} [Fast P] {fr : List SV} {t : TypeId} {x : SV} {lo hi mx : Option Operand} {ps : List Prop} {v : SV} (h : sliceV P fr t x lo hi mx = some (ps, v)) (ds : List Deferred) (w : World) :
    (Instr.sliceAt t x.den (lo.map (⟨fden fr, ds⟩ : Act).eval) (hi.map (⟨fden fr, ds⟩ : Act).eval) (mx.map (⟨fden fr, ds⟩ : Act).eval)).run P w = .ok v.den w := by
  unfold sliceV at h
  split at h
  · rename_i e nm b off len cap l hh hu hl hhi
    rw [bound_den hl, bound_den hhi]
    split at h
    · rename_i n hs
      simp only at h
      cases hc : (Nat.ble (l.getD 0) (hh.getD len) && Nat.ble (hh.getD len) cap && !(Nat.beq cap (l.getD 0))) with
      | true =>
        rw [hc] at h
        simp at h hc
        obtain ⟨rfl, rfl⟩ := h
        obtain ⟨⟨c1, c2⟩, c3⟩ := hc
        have hb := run_sliceBounds (P := P) true len cap l hh c1 c2 w
        have c3' : ¬ (cap = l.getD 0) := fun h => by rw [h, Nat.beq_refl] at c3; cases c3
        unfold Instr.sliceAt Instr.slice
        simp only [SV.den, SA.den, SC.den, SN.v, Sem.run_bind, run_underlying' hu, Result.andThen_ok, Option.map_none, hb, run_sizeOf' hs, if_neg c3', Sem.run_pure, Option.map_some, addr_add]
      | false =>
        rw [hc] at h
        cases hd : (Nat.ble (l.getD 0) (hh.getD len) && Nat.ble (hh.getD len) cap) with
        | false => rw [hd] at h; simp at h
        | true =>
          rw [hd] at h hc
          simp at h hc hd
          obtain ⟨rfl, rfl⟩ := h
          obtain ⟨c1, c2⟩ := hd
          have hb := run_sliceBounds (P := P) true len cap l hh c1 c2 w
          unfold Instr.sliceAt Instr.slice
          simp only [SV.den, SA.den, SC.den, SN.v, Sem.run_bind, run_underlying' hu, Result.andThen_ok, Option.map_none, hb, run_sizeOf' hs, if_pos hc, Sem.run_pure, Option.map_some, addr_add]
    · simp at h
  · rename_i m e nm b off l hh hu hl hhi
    rw [bound_den hl, bound_den hhi]
    split at h
    · rename_i n hs
      simp only at h
      cases hc : (Nat.ble (l.getD 0) (hh.getD m) && Nat.ble (hh.getD m) m && !(Nat.beq m (l.getD 0))) with
      | true =>
        rw [hc] at h
        simp at h hc
        obtain ⟨rfl, rfl⟩ := h
        obtain ⟨⟨c1, c2⟩, c3⟩ := hc
        have hb := run_sliceBounds (P := P) false m m l hh c1 c2 w
        have c3' : ¬ (m = l.getD 0) := fun h => by rw [h, Nat.beq_refl] at c3; cases c3
        unfold Instr.sliceAt
        simp only [SV.den, SA.den, SC.den, SN.v, Sem.run_bind, run_underlying' hu, Result.andThen_ok, Option.map_none, hb, run_sizeOf' hs, if_neg c3', Sem.run_pure, Option.map_some, addr_add, Instr.sureAddr]
      | false => rw [hc] at h; simp at h
    · simp at h
  · simp at h
end Go.Proofs.Ytmmpnjcmaodkcaa.Ev
/- What is proved: loads and stores of a heap that is described block by block. Conditions: the evaluator's own premises. -/
namespace Go.Proofs.Ytmmpnjcmaodkcaa.Ev
open Go Go.Proofs.Ytmmpnjcmaodkcaa.Sep
set_option linter.unusedVariables false
set_option linter.unusedSimpArgs false

/-- What else a block may hold: words that the statements' own proofs give. -/
class Abs (A : Type) where
  den : A → Nat → HProp
  load : (P : Program) → [Fast P] → TypeId → Nat → Nat → Nat → A → Option (List Prop × SV)
  load_ok : ∀ {P : Program} [Fast P] {t : TypeId} {b off b' : Nat} {x : A} {ps : List Prop} {v : SV}, load P t b off b' x = some (ps, v) → (∀ p ∈ ps, p) → ∀ {w : World} {R : HProp}, Holds w (den x b' * R) →
    (loadVar t ⟨b, off, none⟩).run P w = .ok v.den w
inductive SO (A : Type) where
  | cells (l : List SC) (T : TypeId)
  | row (ws : List Int) (T : TypeId)
  | abs (x : A)
abbrev SH (A : Type) := List (Nat × Nat × SO A)
def rowV (ws : List Int) : Array Value := (ws.map (Value.int .u64)).toArray
section
variable {A : Type} [Abs A]
def SO.den (b : Nat) : SO A → HProp
  | .cells l T => pt b (.cells (dens l) T (0, 0))
  | .row ws T => pt b (.cells (rowV ws) T (0, 0))
  | .abs x => Abs.den x b
def hden : SH A → HProp
  | [] => emp
  | (_, b, o) :: r => o.den b * hden r
def find : SH A → Nat → Option (Nat × SO A)
  | [], _ => none
  | (m, b, o) :: r, n => bif Nat.beq m n then some (b, o) else find r n
def del : SH A → Nat → SH A
  | [], _ => []
  | (m, b, o) :: r, n => bif Nat.beq m n then r else (m, b, o) :: del r n
def put : SH A → Nat → SO A → SH A
  | [], _, _ => []
  | (m, b, o) :: r, n, o' => bif Nat.beq m n then (m, b, o') :: r else (m, b, o) :: put r n o'
theorem find_den {n b : Nat} {o : SO A} : ∀ (H : SH A), find H n = some (b, o) → hden H = (o.den b * hden (del H n))
  | [], h => by simp [find] at h
  | (m, b', o') :: r, h => by
    unfold find at h
    unfold del
    cases hm : Nat.beq m n with
    | true => rw [hm] at h; simp at h; obtain ⟨rfl, rfl⟩ := h; rfl
    | false =>
      rw [hm] at h
      simp only [cond_false] at h ⊢
      unfold hden
      rw [find_den r h]
      ac_rfl
theorem put_den {n b : Nat} {o o1 : SO A} : ∀ (H : SH A), find H n = some (b, o) → hden (put H n o1) = (o1.den b * hden (del H n))
  | [], h => by simp [find] at h
  | (m, b', o') :: r, h => by
    unfold find at h
    unfold del put
    cases hm : Nat.beq m n with
    | true => rw [hm] at h; simp at h; obtain ⟨rfl, rfl⟩ := h; rfl
    | false =>
      rw [hm] at h
      simp only [cond_false] at h ⊢
      unfold hden
      rw [put_den r h]
      ac_rfl
variable {w : World} {R : HProp}
theorem focus {H : SH A} {n b : Nat} {o : SO A} (h : find H n = some (b, o)) (hw : Holds w (hden H * R)) : Holds w (o.den b * (hden (del H n) * R)) :=
  hw.cast (by rw [find_den H h]; ac_rfl)
theorem unfocus {H : SH A} {n b : Nat} {o o1 : SO A} (h : find H n = some (b, o)) (hw : Holds w (o1.den b * (hden (del H n) * R))) : Holds w (hden (put H n o1) * R) :=
  hw.cast (by rw [put_den H h]; ac_rfl)

/-! ### loads -/
def loadO (P : Program) [Fast P] (t : TypeId) (b off : Nat) (b' : Nat) : SO A → Option (List Prop × SV)
  | .cells l T =>
    match tyAgg P t, tySize P t with
    | some true, some n => bif Nat.ble (off + n) l.length then some ([b = b'], .a (.agg ((l.drop off).take n))) else none
    | some false, _ => (l[off]?).map fun c => ([b = b'], .c c)
    | _, _ => none
  | .row ws T =>
    match tyAgg P t with
    | some false => some ([b = b', off < ws.length], .c (.int .u64 (.sym (ws.getD off 0))))
    | _ => none
  | .abs x => Abs.load P t b off b' x
def loadV (P : Program) [Fast P] (t : TypeId) (H : SH A) (x : SV) : Option (List Prop × SV) :=
  match x with
  | .a (.one (.ptr nm b off)) =>
    match find H nm with
    | some (b', o) => loadO P t b off b' o
    | none => none
  | _ => none
theorem run_loadVar_one {P : Program} [Fast P] {t : TypeId} (ha : tyAgg P t = some false) {a : Addr} {v : Value} (hc : w.cell? a = some v) : (loadVar t a).run P w = .ok v w := by
  unfold loadVar
  simp [run_isAgg' ha, hc]
theorem run_loadVar_agg {P : Program} [Fast P] {t : TypeId} {n : Nat} (ha : tyAgg P t = some true) (hs : tySize P t = some n) {b off : Nat} {l : List SC} (hl : l.length = n)
    (hc : ∀ j c, l[j]? = some c → w.cell? ⟨b, off + j, none⟩ = some c.den) : (loadVar t ⟨b, off, none⟩).run P w = .ok (.agg (dens l)) w := by
  unfold loadVar
  have h1 := run_loadCells_list (P := P) w ⟨b, off, none⟩ (l.map SC.den) (fun j v hj => by
    rw [addr_add]
    rw [List.getElem?_map] at hj
    cases hlj : l[j]? with
    | none => rw [hlj] at hj; simp at hj
    | some c => rw [hlj] at hj; simp at hj; subst hj; exact hc j c hlj)
  rw [List.length_map, hl] at h1
  simp only [Sem.run_bind, run_isAgg' ha, Result.andThen_ok, if_true, run_sizeOf' hs, h1, Sem.run_pure]
  rfl
theorem run_loadO {P : Program} [Fast P] {t : TypeId} {b off b' : Nat} {o : SO A} {ps : List Prop} {v : SV} (h : loadO P t b off b' o = some (ps, v)) (hp : ∀ p ∈ ps, p) (hw : Holds w (o.den b' * R)) :
    (loadVar t ⟨b, off, none⟩).run P w = .ok v.den w := by
  unfold loadO at h
  split at h
  · rename_i l T
    have hcell := Holds.cells (by exact hw : Holds w (pt b' (.cells (dens l) T (0, 0)) * R))
    split at h
    · rename_i n ha hs
      cases hb : Nat.ble (off + n) l.length with
      | false => rw [hb] at h; simp at h
      | true =>
        rw [hb] at h
        simp at h hb
        obtain ⟨rfl, rfl⟩ := h
        have he : b = b' := hp _ (List.mem_singleton.2 rfl)
        subst he
        refine run_loadVar_agg ha hs (by simp; omega) ?_
        intro j c hj
        rw [hcell]
        have : l[off + j]? = some c := by
          rw [List.getElem?_take] at hj
          split at hj
          · rw [List.getElem?_drop] at hj; exact hj
          · simp at hj
        simp [dens, this]
    · rename_i ha
      cases hl : l[off]? with
      | none => rw [hl] at h; simp at h
      | some c =>
        rw [hl] at h
        simp at h
        obtain ⟨rfl, rfl⟩ := h
        have he : b = b' := hp _ (List.mem_singleton.2 rfl)
        subst he
        exact run_loadVar_one ha (by rw [hcell]; simp [dens, hl]; rfl)
    · simp at h
  · rename_i ws T
    have hcell := Holds.cells (by exact hw : Holds w (pt b' (.cells (rowV ws) T (0, 0)) * R))
    split at h
    · rename_i ha
      simp at h
      obtain ⟨rfl, rfl⟩ := h
      have he : b = b' := hp _ (by simp)
      have hlt : off < ws.length := hp _ (by simp)
      subst he
      exact run_loadVar_one ha (by rw [hcell]; simp [rowV, hlt, SV.den, SA.den, SC.den, SI.v])
    · simp at h
  · rename_i x
    exact Abs.load_ok h hp hw
theorem run_loadV {P : Program} [Fast P] {t : TypeId} {H : SH A} {x : SV} {ps : List Prop} {v : SV} (h : loadV P t H x = some (ps, v)) (hp : ∀ p ∈ ps, p) (hw : Holds w (hden H * R)) :
    (Instr.loadAt t x.den).run P w = .ok v.den w := by
  unfold loadV at h
  split at h
  · rename_i nm b off
    split at h
    · rename_i b' o hf
      have := run_loadO h hp (focus hf hw)
      unfold Instr.loadAt
      simp [SV.den, SA.den, SC.den, Instr.sureAddr]
      exact this
    · simp at h
  · simp at h

/-! ### stores -/
def SC.okc : SC → Bool
  | .raw _ => false
  | _ => true
theorem SC.okc_one {c : SC} (h : c.okc = true) : c.den.oneCell' = true := by
  cases c <;> first | rfl | cases h
theorem run_storeCells {P : Program} {b T : Nat} : ∀ (cs : List SC) (l : List SC) (off : Nat) (w : World) (i : Nat), Holds w (pt b (.cells (dens l) T (0, 0)) * R) → off + i + cs.length ≤ l.length → (∀ c ∈ cs, c.okc = true) →
    ∃ w', (storeCells ⟨b, off, none⟩ (cs.map SC.den) i).run P w = .ok () w' ∧ Holds w' (pt b (.cells (dens (over l (off + i) cs)) T (0, 0)) * R) ∧ Strm w w'
  | [], l, off, w, i, hw, hl, hc => by
    refine ⟨w, by simp [storeCells], ?_, Strm.refl w⟩
    simpa [over] using hw
  | c :: cs, l, off, w, i, hw, hl, hc => by
    simp only [List.length_cons] at hl
    have hlt : off + i < l.length := by omega
    have hcell : w.cell? ⟨b, off + i, none⟩ = some (l[off + i]).den := by rw [hw.cells]; simp [dens, hlt]
    have hfr := hw.frees (off + i)
    have h1 := hw.set (off + i) c.den
    have e1 : (dens l).setIfInBounds (off + i) c.den = dens (l.set (off + i) c) := by simp [dens, List.map_set]
    rw [e1] at h1
    obtain ⟨w', h2, h3, h4⟩ := run_storeCells (P := P) cs (l.set (off + i) c) off _ (i + 1) h1 (by simp; omega) (fun x hx => hc x (List.mem_cons_of_mem _ hx))
    refine ⟨w', ?_, ?_, ((Strm.refl w).set _ _).trans h4⟩
    · rw [List.map_cons, storeCells]
      simp only [Sem.run_bind, addr_add, run_store P w _ _ _ (SC.okc_one (hc c (List.mem_cons_self ..))), hcell, hfr, Bool.false_eq_true, if_false, Result.andThen_ok]
      exact h2
    · have e2 : over (l.set (off + i) c) (off + (i + 1)) cs = over l (off + i) (c :: cs) := by
        unfold over
        have e5 : (l.set (off + i) c).take (off + (i + 1)) = l.take (off + i) ++ [c] := by
          rw [show off + (i + 1) = off + i + 1 by omega, List.take_succ_eq_append_getElem (by simpa using hlt)]
          simp only [List.getElem_set_self]
          congr 1
          apply List.ext_getElem?
          intro k
          rw [List.getElem?_take, List.getElem?_take]
          split
          · rw [List.getElem?_set_ne (by omega)]
          · rfl
        rw [e5, List.length_cons, show off + (i + 1) + cs.length = off + i + (cs.length + 1) by omega, List.drop_set_of_lt (by omega)]
        simp
      rw [e2] at h3
      exact h3
def storeV (P : Program) [Fast P] (t : TypeId) (H : SH A) (x y : SV) : Option (List Prop × SH A) :=
  match x, y with
  | .a (.one (.ptr nm b off)), .a y =>
    match find H nm, tySize P t with
    | some (b', .cells l T), some n =>
      bif y.cells.all SC.okc && (Nat.beq y.cells.length n && Nat.ble (off + n) l.length) then some ([b = b'], put H nm (.cells (over l off y.cells) T)) else none
    | some (b', .row ws T), some 1 =>
      match y with
      | .one (.int .u64 v) => some ([b = b', off < ws.length], put H nm (.row (ws.set off v.v) T))
      | _ => none
    | _, _ => none
  | _, _ => none
theorem all_okc_plain {y : SA} (h : y.cells.all SC.okc = true) : y.plain = true := by
  cases y with
  | agg l => rfl
  | one c => cases c <;> first | rfl | (simp [SA.cells, SC.okc] at h)
theorem run_storeV {P : Program} [Fast P] {t : TypeId} {H H' : SH A} {x y : SV} {ps : List Prop} (h : storeV P t H x y = some (ps, H')) (hp : ∀ p ∈ ps, p) (hw : Holds w (hden H * R)) :
    ∃ w', (Instr.storeAt t x.den y.den).run P w = .ok () w' ∧ Holds w' (hden H' * R) ∧ Strm w w' := by
  unfold storeV at h
  split at h
  · rename_i nm b off y
    split at h
    · rename_i b' l T n hf hs
      cases hb : (y.cells.all SC.okc && (Nat.beq y.cells.length n && Nat.ble (off + n) l.length)) with
      | false => rw [hb] at h; simp at h
      | true =>
        rw [hb] at h
        rw [Bool.and_eq_true, Bool.and_eq_true] at hb
        obtain ⟨h1, h2, h3⟩ := hb
        simp at h
        obtain ⟨rfl, rfl⟩ := h
        have he : b = b' := hp _ (List.mem_singleton.2 rfl)
        subst he
        have h2' : y.cells.length = n := Nat.eq_of_beq_eq_true h2
        have h3' : off + n ≤ l.length := Nat.le_of_ble_eq_true h3
        obtain ⟨w', r1, r2, r3⟩ := run_storeCells (P := P) y.cells l off w 0 (focus hf hw) (by omega) (fun c hc => List.all_eq_true.1 h1 c hc)
        refine ⟨w', ?_, unfocus hf r2, r3⟩
        have hy : y.den.cells = dens y.cells := SA.cells_den y (all_okc_plain h1)
        have hsz : (dens y.cells).size = n := by simp [dens, h2']
        show (Instr.storeAt t (.pointer (some ⟨b, off, none⟩)) y.den).run P w = _
        generalize y.den = yv at hy
        unfold Instr.storeAt storeVar
        simp only [Sem.run_bind, Instr.sureAddr, Sem.run_pure, Result.andThen_ok, run_sizeOf' hs]
        rw [hy, if_neg (by rw [hsz]; simp)]
        simpa [dens] using r1
    · rename_i b' ws T hf hs
      split at h
      · rename_i v
        simp at h
        obtain ⟨rfl, rfl⟩ := h
        have he : b = b' := hp _ (by simp)
        have hlt : off < ws.length := hp _ (by simp)
        subst he
        have hw1 : Holds w (pt b (.cells (rowV ws) T (0, 0)) * (hden (del H nm) * R)) := focus hf hw
        have hcell : w.cell? ⟨b, off, none⟩ = some (.int .u64 ws[off]) := by rw [hw1.cells]; simp [rowV, hlt]
        have hfr := hw1.frees off
        have h1 := hw1.set off (.int .u64 v.v)
        have e1 : (rowV ws).setIfInBounds off (.int .u64 v.v) = rowV (ws.set off v.v) := by simp [rowV, List.map_set]
        rw [e1] at h1
        refine ⟨_, ?_, unfocus hf h1, (Strm.refl w).set _ _⟩
        show (Instr.storeAt t (.pointer (some ⟨b, off, none⟩)) (.int .u64 v.v)).run P w = _
        unfold Instr.storeAt storeVar
        have hz : ¬ ((Value.int .u64 v.v).cells.size ≠ 1) := by simp [Value.cells]
        simp only [Sem.run_bind, Instr.sureAddr, Sem.run_pure, Result.andThen_ok, run_sizeOf' hs, if_neg hz]
        simp [Value.cells, storeCells, addr_add, run_store P w _ (.int .u64 v.v) _ rfl, hcell, hfr]
      · simp at h
    · simp at h
  · simp at h

/-! ### new blocks -/
theorem alloc_holds {H : SH A} (hw : Holds w (hden H * R)) (l : List SC) (T n : Nat) : Holds (w.alloc (.cells (dens l) T)) (hden ((n, w.heap.size, SO.cells l T) :: H) * R) :=
  (hw.alloc (.cells (dens l) T)).cast (by
    show _ = (pt w.heap.size (.cells (dens l) T (0, 0)) * hden H) * R
    ac_rfl)
theorem run_alloc' {P : Program} [Fast P] {t : TypeId} {l : List SC} (h : zeroC P t = some l) : (Instr.alloc t true (.tuple #[])).run P w = .ok (.pointer (some ⟨w.heap.size, 0, none⟩)) (w.alloc (.cells (dens l) t)) := by
  unfold zeroC at h
  split at h
  · rename_i v hv
    simp only [Option.some.injEq] at h
    subst h
    unfold Instr.alloc newVar newRow
    simp [run_zeroValue' hv, dens_of]
  · cases h
theorem run_box' {P : Program} {t : TypeId} {x : SA} (h : x.plain = true) : (Instr.box t x.den).run P w = .ok (.pointer (some ⟨w.heap.size, 0, none⟩)) (w.alloc (.cells (dens x.cells) t)) := by
  unfold Instr.box newVar newRow
  simp [SA.cells_den x h]
def rowOf (z : List SC) (k : Nat) : List SC := (List.range (k * z.length)).map fun i => (z[i % z.length]?).getD .nil
def sliceC (P : Program) [Fast P] (t : TypeId) (len : Nat) (parts : List (Nat × SA)) : Option (TypeId × List SC) :=
  match Fast.und P t with
  | some (.slice e) =>
    match tySize P e, zeroC P e with
    | some n, some z =>
      bif Nat.beq z.length n && (Nat.blt 0 (len * n) && Nat.ble (len * n) 4096) then (fillC (fun i => some (i * n, n)) (rowOf z len) parts).map fun l => (e, l) else none
    | _, _ => none
  | _ => none
theorem run_sliceC {P : Program} [Fast P] {t : TypeId} {len : Nat} {parts : List (Nat × SA)} {e : TypeId} {l : List SC} (h : sliceC P t len parts = some (e, l)) :
    (Instr.buildSlice t len (parts.map fun p => (p.1, p.2.den)).toArray).run P w = .ok (.slice (some ⟨w.heap.size, 0, none⟩) len len) (w.alloc (.cells (dens l) e)) := by
  unfold sliceC at h
  split at h
  · rename_i e' hu
    split at h
    · rename_i n z hs hz
      cases hc : (Nat.beq z.length n && (Nat.blt 0 (len * n) && Nat.ble (len * n) 4096)) with
      | false => rw [hc] at h; cases h
      | true =>
        rw [hc] at h
        simp only [cond_true] at h
        rw [Bool.and_eq_true, Bool.and_eq_true] at hc
        have c1 := Nat.eq_of_beq_eq_true hc.1
        have c2 : 0 < len * n := Nat.le_of_ble_eq_true hc.2.1
        have c3 := Nat.le_of_ble_eq_true hc.2.2
        cases hf : fillC (fun i => some (i * n, n)) (rowOf z len) parts with
        | none => rw [hf] at h; cases h
        | some l' =>
          rw [hf] at h
          simp only [Option.map_some, Option.some.injEq, Prod.mk.injEq] at h
          obtain ⟨rfl, rfl⟩ := h
          have hfd := fillC_den _ _ _ _ hf
          unfold zeroC at hz
          split at hz
          · rename_i v hv
            · simp only [Option.some.injEq] at hz
              have hzv : dens z = v.cells := by rw [← hz]; exact dens_of _
              have hz0 : z.length = v.cells.size := by rw [← hz]; simp
              have hrow : dens (rowOf z len) = (Array.range (len * n)).map (v.cells[· % v.cells.size]!) := by
                unfold dens rowOf
                rw [← hzv, List.map_map, c1]
                apply Array.ext'
                simp only [Array.toList_map, Array.toList_range]
                apply List.map_congr_left
                intro i hi'
                have hpos : 0 < z.length := by
                  rcases Nat.eq_zero_or_pos z.length with h | h
                  · rw [c1] at h; rw [h] at c2; simp at c2
                  · exact h
                have hlt : i % n < z.length := by rw [← c1]; exact Nat.mod_lt _ hpos
                have hsz : (dens z).size = n := by simp [dens, c1]
                simp only [Function.comp]
                rw [hsz]
                have e1 : (dens z)[i % n]! = z[i % n].den := by
                  rw [getElem!_pos (dens z) (i % n) (by simpa [dens] using hlt)]
                  simp [dens]
                rw [e1, List.getElem?_eq_getElem hlt]
                rfl
              have hn0 : ¬ (len * n > 2 ^ 24) := by omega
              have hn1 : ¬ (len * n = 0) := by omega
              unfold Instr.buildSlice
              have hzr : (zeroValue e').run P w = .ok v w := run_zeroValue' hv w
              simp only [Sem.run_bind, run_underlying' hu, Result.andThen_ok, run_sizeOf' hs, if_neg hn0, if_neg hn1, hzr, Sem.run_pure]
              rw [← hrow]
              simp only [hfd]
              unfold newRow
              simp
          · cases hz
    · cases h
  · cases h
end
end Go.Proofs.Ytmmpnjcmaodkcaa.Ev
/- What is proved: the evaluator of code over a heap that is described block by block: what it finds holds of the call, in every order that a region may draw. Conditions: the evaluator's own premises. -/
namespace Go.Proofs.Ytmmpnjcmaodkcaa.Ev
open Go Go.Proofs.Ytmmpnjcmaodkcaa.Sep
set_option linter.unusedVariables false
set_option linter.unusedSimpArgs false
section
variable {A : Type} [Abs A]
/-- What the evaluator finds: an end; two ways; something that has to hold; a new block; two orders. -/
inductive Leaf (A : Type) where
  | val (v : SV) (H : SH A) (n : Nat)
  | stop (e : Exit) (fr : List SV) (H : SH A) (n : Nat)
inductive Tree (A : Type) where
  | done (x : Leaf A)
  | loop (c : Code) (fr : List SV) (H : SH A) (n : Nat) (K : Exit → List SV → SH A → Nat → Tree A)
  | ite (c : Bool) (a b : Tree A)
  | need (p : Prop) (t : Tree A)
  | new (f : Nat → Tree A)
  | both (a b : Tree A)
  | fail
/-- A loop, from a frame and a heap on: what it comes to by an exit. -/
def LoopSays [Abs A] (P : Program) (c : Code) (fr : List SV) (H : SH A) (Z : Exit → List SV → SH A → Nat → Prop) : Prop :=
  ∀ (w : World) (R : HProp) (Q : Exit → Act → World → Prop), Holds w (hden H * R) → (∀ e fr' H' n' w', Z e fr' H' n' → Holds w' (hden H' * R) → Strm w w' → Q e ⟨fden fr', []⟩ w') → (Code.loop c).wp P Q ⟨fden fr, []⟩ w
def Tree.Leads [Abs A] (P : Program) : Tree A → (Leaf A → Prop) → Prop
  | .done x, L => L x
  | .loop c fr H n K, L => LoopSays P c fr H fun e fr' H' n' => (K e fr' H' n').Leads P L
  | .ite c a b, L => (c = true → a.Leads P L) ∧ (c = false → b.Leads P L)
  | .need p t, L => p ∧ t.Leads P L
  | .new f, L => ∀ b, (f b).Leads P L
  | .both a b, L => a.Leads P L ∧ b.Leads P L
  | .fail, _ => False
def needs : List Prop → Tree A → Tree A
  | [], t => t
  | p :: ps, t => .need p (needs ps t)
theorem needs_leads {P : Program} {L : Leaf A → Prop} : ∀ {ps : List Prop} {t : Tree A}, (needs ps t).Leads P L → (∀ p ∈ ps, p) ∧ t.Leads P L
  | [], t, h => ⟨fun p hp => (by cases hp), h⟩
  | p :: ps, t, h => by
    obtain ⟨h1, h2⟩ := h
    obtain ⟨h3, h4⟩ := needs_leads h2
    exact ⟨fun q hq => by
      rcases List.mem_cons.1 hq with rfl | hq
      · exact h1
      · exact h3 q hq, h4⟩
/-- What holds of itself: for short. -/
def same : List Nat → Tree A → Tree A
  | [], t => t
  | b :: r, t => .need (b = b) (same r t)
def sameC : List SC → Tree A → Tree A
  | [], t => t
  | c :: r, t => .need (c.den = c.den) (sameC r t)
theorem same_leads {P : Program} {L : Leaf A → Prop} : ∀ (l : List Nat) (t : Tree A), (same l t).Leads P L = t.Leads P L
  | [], t => rfl
  | b :: r, t => by show (_ ∧ (same r t).Leads P L) = _; rw [same_leads r t]; simp
theorem sameC_leads {P : Program} {L : Leaf A → Prop} : ∀ (l : List SC) (t : Tree A), (sameC l t).Leads P L = t.Leads P L
  | [], t => rfl
  | b :: r, t => by show (_ ∧ (sameC r t).Leads P L) = _; rw [sameC_leads r t]; simp
abbrev Kont (A : Type) := SV → SH A → Nat → Tree A
abbrev Caller (A : Type) := Nat → List SV → SH A → Nat → Kont A → Tree A
/-- A call by the evaluator holds of the program. -/
def CallerOk (P : Program) (call : Caller A) : Prop :=
  ∀ f args H n k (L : Leaf A → Prop), (call f args H n k).Leads P L → ∀ (w : World) (R : HProp), Holds w (hden H * R) → ∀ Q : Ending → World → Prop,
    (∀ v H' n' w', (k v H' n').Leads P L → Holds w' (hden H' * R) → Strm w w' → Q (.returned v.den) w') → Calls P f (args.map SV.den).toArray w Q
def isBody (P : Program) [Fast P] (f : Nat) : Bool :=
  match Fast.func P f with
  | some fn => fn.body.isSome
  | none => false
def argsV (fr : List SV) : List Operand → List SV
  | [] => []
  | x :: l => opnd fr x :: argsV fr l
theorem argsV_den (fr : List SV) (ds : List Deferred) : ∀ l, l.map (⟨fden fr, ds⟩ : Act).eval = (argsV fr l).map SV.den
  | [] => rfl
  | x :: l => by simp only [List.map_cons, argsV, ← argsV_den fr ds l]; rw [opnd_den]
def ptrV (p : Nat × Nat × Nat) : SV := .c (.ptr p.1 p.2.1 p.2.2)
theorem ptrV_den (l : List (Nat × Nat × Nat)) : (l.map ptrV).map SV.den = l.map pden := by
  rw [List.map_map]; rfl
/-! ### operations without memory, together -/
def pureOp (P : Program) [Fast P] (fr : List SV) (o : Oper) : Option (List Prop × SV) :=
  match o.op with
  | .move x => some ([], opnd fr x)
  | .assign x => some ([], opnd fr x)
  | .pick c a b =>
    match opnd fr c with
    | .a (.one (.bool (.lit c))) => some ([], bif c then opnd fr a else opnd fr b)
    | _ => none
  | .nilCheck x =>
    match opnd fr x with
    | .a (.one (.ptr nm b o)) => some ([], .c (.ptr nm b o))
    | .a (.one (.func f a c)) => some ([], .c (.func f a c))
    | _ => none
  | .build t parts =>
    match partsA fr parts.toList with
    | some r => (builtC P t r).map fun l => ([], .a (.agg l))
    | none => none
  | .binOp op t x y _ => binV P op t (opnd fr x) (opnd fr y)
  | .unOp op _ x => unV op (opnd fr x)
  | .convert s d x => convV P s d (opnd fr x)
  | .makeFunc (.func f) first cap =>
    match ptrsA fr first.toList, ptrsA fr cap.toList with
    | some a, some c => some ([], .c (.func f a c))
    | _, _ => none
  | .slice t x lo hi mx => sliceV P fr t (opnd fr x) lo hi mx
  | .fieldAddr s x f => fieldAddrV P s (opnd fr x) f
  | .field t x f => fieldV P t (opnd fr x) f
  | .indexAddr t x i => indexAddrV P t (opnd fr x) (opnd fr i)
  | .index t x i => indexV P t (opnd fr x) (opnd fr i)
  | .extract x i => extractV (opnd fr x) i
  | .call c =>
    match c.callee, c.args.toList, c.argTypes.toList with
    | .builtin .len, [x], [t] =>
      match Fast.und P t, opnd fr x with
      | some (.slice _), .a (.one (.slice _ _ _ (.lit n) _)) => some ([], .c (.int .i64 (.lit (n : Int))))
      | some (.slice _), .a (.one (.slice _ _ _ (.sym n) _)) => some ([], .c (.int .i64 (.sym (n : Int))))
      | some (.slice _), .a (.one .snil) => some ([], .c (.int .i64 (.lit 0)))
      | some (.array n _), _ => some ([], .c (.int .i64 (.lit (n : Int))))
      | _, _ => none
    | _, _, _ => none
  | _ => none
theorem run_pureOp {P : Program} [Fast P] {fr : List SV} {o : Oper} {ps : List Prop} {v : SV} (h : pureOp P fr o = some (ps, v)) (hp : ∀ p ∈ ps, p) (ds : List Deferred) (w : World) :
    (execOp (⟨fden fr, ds⟩ : Act).eval o).run P w = .ok (.value v.den) w := by
  unfold pureOp at h
  unfold execOp
  split at h
  · rename_i x ho
    simp at h; obtain ⟨rfl, rfl⟩ := h
    simp [ho, opnd_den]
  · rename_i x ho
    simp at h; obtain ⟨rfl, rfl⟩ := h
    simp [ho, opnd_den]
  · rename_i c a b ho
    split at h
    · rename_i c' hc
      simp at h; obtain ⟨rfl, rfl⟩ := h
      simp only [ho, opnd_den, hc, SV.den, SA.den, SC.den, SB.v, asBool]
      cases c' <;> simp <;> rfl
    · simp at h
  · rename_i x ho
    split at h
    · rename_i nm b off hx
      simp at h; obtain ⟨rfl, rfl⟩ := h
      simp only [ho, opnd_den, hx]
      rfl
    · rename_i f a c hx
      simp at h; obtain ⟨rfl, rfl⟩ := h
      simp only [ho, opnd_den, hx]
      rfl
    · simp at h
  · rename_i t parts ho
    split at h
    · rename_i r hr
      cases hb : builtC P t r with
      | none => rw [hb] at h; simp at h
      | some l =>
        rw [hb] at h
        simp at h; obtain ⟨rfl, rfl⟩ := h
        simp only [ho]
        have h1 := partsA_den fr ds parts.toList r hr
        have h2 := builtC_den hb
        rw [← h1] at h2
        have h3 : (Instr.build t (parts.map fun (i, x) => (i, (⟨fden fr, ds⟩ : Act).eval x))).run P w = .ok (.agg (dens l)) w := run_build w t _ _ (by simpa using h2)
        simp only [Sem.run_bind, h3, Result.andThen_ok, Sem.run_pure]
        rfl
    · simp at h
  · rename_i op t x y ty ho
    have := run_binV h hp x y w
    simp only [ho, opnd_den]
    rw [Sem.run_bind, this]
    rfl
  · rename_i op t x ho
    have := run_unV (P := P) h hp w
    simp only [ho, opnd_den]
    rw [Sem.run_bind, this]
    rfl
  · rename_i s d x ho
    have := run_convV h w
    simp only [ho, opnd_den]
    rw [Sem.run_bind, this]
    rfl
  · rename_i f first cap ho
    split at h
    · rename_i a c ha hc
      simp at h; obtain ⟨rfl, rfl⟩ := h
      have h1 := ptrsA_den fr ds _ _ ha
      have h2 := ptrsA_den fr ds _ _ hc
      simp only [ho, Instr.makeFunc]
      have e1 : first.map (⟨fden fr, ds⟩ : Act).eval = (a.map pden).toArray := by rw [← h1, ← Array.toList_inj, Array.toList_map]
      have e2 : cap.map (⟨fden fr, ds⟩ : Act).eval = (c.map pden).toArray := by rw [← h2, ← Array.toList_inj, Array.toList_map]
      rw [e1, e2]
      rfl
    · simp at h
  · rename_i t x lo hi mx ho
    have := run_sliceV h ds w
    simp only [ho, opnd_den]
    rw [Sem.run_bind, this]
    rfl
  · rename_i s x f ho
    have := run_fieldAddrV h w
    simp only [ho, opnd_den]
    rw [Sem.run_bind, this]
    rfl
  · rename_i t x f ho
    have := run_fieldV h w
    simp only [ho, opnd_den]
    rw [Sem.run_bind, this]
    rfl
  · rename_i t x i ho
    have := run_indexAddrV h hp w
    simp only [ho, opnd_den]
    rw [Sem.run_bind, this]
    rfl
  · rename_i t x i ho
    have := run_indexV h hp w
    simp only [ho, opnd_den]
    rw [Sem.run_bind, this]
    rfl
  · rename_i x i ho
    have := run_extractV (P := P) h w
    simp only [ho, opnd_den]
    rw [Sem.run_bind, this]
    rfl
  · rename_i c ho
    split at h
    · rename_i x t hcal hargs htys
      have ha : c.args = #[x] := by rw [← Array.toList_inj]; simpa using hargs
      have ht : c.argTypes = #[t] := by rw [← Array.toList_inj]; simpa using htys
      have key : ∀ {n : Int}, (Builtin.len_ #[t] o.type #[(opnd fr x).den]).run P w = .ok (.int .i64 n) w → (execOp (⟨fden fr, ds⟩ : Act).eval o).run P w = .ok (.value (.int .i64 n)) w := by
        intro n hn
        unfold execOp
        simp only [ho, resolve, hcal, ha, ht, Sem.run_bind, Sem.run_pure, Result.andThen_ok, invoke, builtin]
        simp only [List.map_toArray, List.map_cons, List.map_nil, opnd_den, hn, Result.andThen_ok]
      split at h
      · rename_i e nm b off n cap hu hx
        simp at h; obtain ⟨rfl, rfl⟩ := h
        exact key (by simp [hx, Builtin.len_, run_underlying' hu, SV.den, SA.den, SC.den, SN.v, SI.v, goInt])
      · rename_i e nm b off n cap hu hx
        simp at h; obtain ⟨rfl, rfl⟩ := h
        exact key (by simp [hx, Builtin.len_, run_underlying' hu, SV.den, SA.den, SC.den, SN.v, SI.v, goInt])
      · rename_i e hu hx
        simp at h; obtain ⟨rfl, rfl⟩ := h
        exact key (by simp [hx, Builtin.len_, run_underlying' hu, SV.den, SA.den, SC.den, SN.v, SI.v, goInt])
      · rename_i n e hu
        simp at h; obtain ⟨rfl, rfl⟩ := h
        exact key (by simp [Builtin.len_, run_underlying' hu, SI.v, goInt])
      · simp at h
    · simp at h
  · simp at h
end
end Go.Proofs.Ytmmpnjcmaodkcaa.Ev
/- What is proved: the evaluator of code over a heap that is described block by block: what it finds holds of the call, in every order that a region may draw. Conditions: the evaluator's own premises. -/
namespace Go.Proofs.Ytmmpnjcmaodkcaa.Ev
open Go Go.Proofs.Ytmmpnjcmaodkcaa.Sep
set_option linter.unusedVariables false
set_option linter.unusedSimpArgs false
section
variable {A : Type} [Abs A]
/-! ### one operation -/
def evOp (P : Program) [Fast P] (call : Caller A) (o : Oper) (fr : List SV) (H : SH A) (n : Nat) (k : Kont A) : Tree A :=
  match pureOp P fr o with
  | some (ps, v) => needs ps (k v H n)
  | none =>
    match o.op with
    | .load t x =>
      match loadV P t H (opnd fr x) with
      | some (ps, v) => needs ps (k v H n)
      | none => .fail
    | .store t x y =>
      match storeV P t H (opnd fr x) (opnd fr y) with
      | some (ps, H') => needs ps (k .un H' n)
      | none => .fail
    | .alloc t =>
      match zeroC P t with
      | some l => .new fun b => k (.c (.ptr n b 0)) ((n, b, .cells l t) :: H) (n + 1)
      | none => .fail
    | .box t x =>
      match opnd fr x with
      | .a x => bif x.plain then .new fun b => k (.c (.ptr n b 0)) ((n, b, .cells x.cells t) :: H) (n + 1) else .fail
      | _ => .fail
    | .buildSlice t len parts =>
      match partsA fr parts.toList with
      | some r =>
        match sliceC P t len r with
        | some (e, l) => .new fun b => k (.c (.slice n b 0 (.lit len) (.lit len))) ((n, b, .cells l e) :: H) (n + 1)
        | none => .fail
      | none => .fail
    | .pick c a b =>
      match opnd fr c with
      | .a (.one (.bool (.sym c))) => .ite c (k (opnd fr a) H n) (k (opnd fr b) H n)
      | _ => .fail
    | .call c =>
      match c.callee with
      | .value f =>
        match opnd fr f with
        | .a (.one (.func f first cap)) => bif isBody P f then call f (first.map ptrV ++ (argsV fr c.args.toList ++ cap.map ptrV)) H n k else .fail
        | _ => .fail
      | _ => .fail
    | _ => .fail
def NoGos (P : Program) : Prop := ∀ (f : Nat) (fn : Func), P.funcs[f]? = some fn → (fn.name == "runtime.NumGoroutine") = false
theorem run_callFunc {P : Program} [Fast P] (hn : NoGos P) {f : Nat} (hb : isBody P f = true) (args : Array Value) (w : World) : (callFunc f args).run P w = .ok (.enter f args) w := by
  unfold isBody at hb
  cases hf0 : Fast.func P f with
  | none => rw [hf0] at hb; cases hb
  | some fn =>
    rw [hf0] at hb
    have hf := Fast.func_ok hf0
    have h1 := hn f fn hf
    unfold callFunc
    have h1' : ¬ fn.name = "runtime.NumGoroutine" := by simpa using h1
    have h2 : ¬ fn.body = none := by intro h; simp only [h] at hb; cases hb
    simp [hf, h1', h2]
theorem evOp_ok {P : Program} [Fast P] (hn : NoGos P) {call : Caller A} (hcall : CallerOk P call) {o : Oper} {fr : List SV} {H : SH A} {n : Nat} {k : Kont A} {L : Leaf A → Prop}
    (hl : (evOp P call o fr H n k).Leads P L) {w : World} {R : HProp} (hw : Holds w (hden H * R)) {next : Act → World → Prop} {Q : Exit → Act → World → Prop}
    (hk : ∀ v H' n' w', (k v H' n').Leads P L → Holds w' (hden H' * R) → Strm w w' → next ⟨fden (fput fr o.dst v), []⟩ w') : o.wp P ⟨fden fr, []⟩ w next Q := by
  unfold evOp at hl
  split at hl
  · rename_i ps v hp
    obtain ⟨h1, h2⟩ := needs_leads hl
    unfold Oper.wp
    rw [run_pureOp hp h1 [] w]
    simp only [Oper.upon, fput_den]
    exact hk v H n w h2 hw (Strm.refl w)
  · split at hl
    · rename_i t x ho
      split at hl
      · rename_i ps v hld
        obtain ⟨h1, h2⟩ := needs_leads hl
        have h3 := run_loadV hld h1 hw
        unfold Oper.wp execOp
        simp only [ho, opnd_den, Sem.run_bind, h3, Result.andThen_ok, Sem.run_pure, Oper.upon, fput_den]
        exact hk v H n w h2 hw (Strm.refl w)
      · exact hl.elim
    · rename_i t x y ho
      split at hl
      · rename_i ps H' hst
        obtain ⟨h1, h2⟩ := needs_leads hl
        obtain ⟨w', h3, h4, h5⟩ := run_storeV hst h1 hw
        unfold Oper.wp execOp
        simp only [ho, opnd_den, Sem.run_bind, h3, Result.andThen_ok, Sem.run_pure, Oper.upon]
        rw [← un_den, fput_den]
        exact hk .un H' n w' h2 h4 h5
      · exact hl.elim
    · rename_i t ho
      split at hl
      · rename_i l hz
        unfold Oper.wp execOp
        simp only [ho, Sem.run_bind, run_alloc' hz, Result.andThen_ok, Sem.run_pure, Oper.upon]
        rw [show Value.pointer (some ⟨w.heap.size, 0, none⟩) = (SV.c (.ptr n w.heap.size 0)).den from rfl, fput_den]
        exact hk _ _ _ _ (hl w.heap.size) (alloc_holds hw l t n) ((Strm.refl w).alloc _)
      · exact hl.elim
    · rename_i t x ho
      split at hl
      · rename_i y hx
        cases hp : y.plain with
        | false => rw [hp] at hl; exact hl.elim
        | true =>
          rw [hp] at hl
          unfold Oper.wp execOp
          have e : (opnd fr x).den = y.den := by rw [hx]; rfl
          simp only [ho, opnd_den, e, Sem.run_bind, run_box' hp, Result.andThen_ok, Sem.run_pure, Oper.upon]
          rw [show Value.pointer (some ⟨w.heap.size, 0, none⟩) = (SV.c (.ptr n w.heap.size 0)).den from rfl, fput_den]
          exact hk _ _ _ _ (hl w.heap.size) (alloc_holds hw y.cells t n) ((Strm.refl w).alloc _)
      · exact hl.elim
    · rename_i t len parts ho
      split at hl
      · rename_i r hr
        split at hl
        · rename_i e l hs
          have h1 := partsA_den fr [] parts.toList r hr
          have h2 : (parts.map fun (i, x) => (i, (⟨fden fr, []⟩ : Act).eval x)) = (r.map fun p => (p.1, p.2.den)).toArray := by rw [← h1, ← Array.toList_inj, Array.toList_map]
          unfold Oper.wp execOp
          simp only [ho, h2, Sem.run_bind, run_sliceC hs, Result.andThen_ok, Sem.run_pure, Oper.upon]
          rw [show Value.slice (some ⟨w.heap.size, 0, none⟩) len len = (SV.c (.slice n w.heap.size 0 (.lit len) (.lit len))).den from rfl, fput_den]
          exact hk _ _ _ _ (hl w.heap.size) (alloc_holds hw l e n) ((Strm.refl w).alloc _)
        · exact hl.elim
      · exact hl.elim
    · rename_i c a b ho
      split at hl
      · rename_i c' hc
        obtain ⟨h1, h2⟩ := hl
        unfold Oper.wp execOp
        have e : (opnd fr c).den = .bool c' := by rw [hc]; rfl
        simp only [ho, opnd_den, e, asBool]
        cases hc' : c' with
        | true =>
          simp only [Sem.run_bind, Sem.run_pure, Result.andThen_ok, if_true, Oper.upon, fput_den]
          exact hk _ _ _ _ (h1 hc') hw (Strm.refl w)
        | false =>
          simp only [Sem.run_bind, Sem.run_pure, Result.andThen_ok, Bool.false_eq_true, if_false, Oper.upon, fput_den]
          exact hk _ _ _ _ (h2 hc') hw (Strm.refl w)
      · exact hl.elim
    · rename_i c ho
      split at hl
      · rename_i f hcal
        split at hl
        · rename_i f' first cap hf
          cases hb : isBody P f' with
          | false => rw [hb] at hl; exact hl.elim
          | true =>
            rw [hb] at hl
            have e : (opnd fr f).den = .func (.func f') (first.map pden).toArray (cap.map pden).toArray := by rw [hf]; rfl
            have ea : c.args.map (⟨fden fr, []⟩ : Act).eval = ((argsV fr c.args.toList).map SV.den).toArray := by
              rw [← argsV_den fr [] c.args.toList, ← Array.toList_inj, Array.toList_map]
            unfold Oper.wp execOp
            simp only [ho, resolve, hcal, opnd_den, e, Deferred.ofValue, Sem.run_bind, Sem.run_pure, Result.andThen_ok, invoke, ea, run_callFunc hn hb, Oper.upon]
            have hc := hcall f' _ H n k L hl w R hw (fun e w' => ∃ v, e = .returned v.den ∧ next ⟨fden (fput fr o.dst v), []⟩ w')
              (fun v H' n' w' h1 h2 h3 => ⟨v, rfl, hk v H' n' w' h1 h2 h3⟩)
            have eargs : (first.map pden).toArray ++ ((argsV fr c.args.toList).map SV.den).toArray ++ (cap.map pden).toArray = ((first.map ptrV ++ (argsV fr c.args.toList ++ cap.map ptrV)).map SV.den).toArray := by
              simp only [List.map_append, ptrV_den]
              simp
            rw [eargs]
            refine hc.mono ?_
            rintro e' w' ⟨v, rfl, h⟩
            simp only [fput_den]
            exact h
        · exact hl.elim
      · exact hl.elim
    · exact hl.elim
/-! ### a region in the text's order -/
inductive Gd where
  | yes | no | bad
  | fork (d : Nat) (c want : Bool)
def gd (ops : List Oper) (fr : List SV) : Option (Nat × Bool) → Gd
  | none => .yes
  | some (j, want) =>
    match ops[j]? with
    | some o =>
      match o.dst with
      | some d =>
        match fr[d]? with
        | some (.a (.one (.bool (.lit b)))) => bif b == want then .yes else .no
        | some (.a (.one (.bool (.sym c)))) => .fork d c want
        | some (.a (.one (.raw _))) => .bad
        | _ => .no
      | none => .no
    | none => .no
theorem set_same {fr : List SV} {d : Nat} {v u : SV} (h : fr[d]? = some u) (e : u.den = v.den) : fden (fr.set d v) = fden fr := by
  unfold fden
  rw [List.map_set, ← e]
  congr 1
  apply List.ext_getElem?
  intro i
  rw [List.getElem?_set]
  split
  · rename_i hi; subst hi
    split
    · simp [h]
    · rename_i hlt; simp at hlt; simp [hlt]
  · rfl
theorem yielded_fden (ops : List Oper) (fr : List SV) (j : Nat) {o : Oper} {d : Nat} (ho : ops[j]? = some o) (hd : o.dst = some d) {v : SV} (hv : fr[d]? = some v) :
    yielded ops.toArray (fden fr) j = match v.den with | .bool b => some b | _ => none := by
  unfold yielded
  have : (fden fr)[d]? = some v.den := by simp [fden, hv]
  simp only [List.getElem?_toArray, ho, Option.bind_some, hd, this]
  cases v.den <;> rfl
theorem wanted_den {ops : List Oper} {fr : List SV} {o : Oper} : (gd ops fr o.guard = .yes → Region.wanted o (yielded ops.toArray (fden fr)) = true) ∧ (gd ops fr o.guard = .no → Region.wanted o (yielded ops.toArray (fden fr)) = false) := by
  unfold Region.wanted gd
  cases hg : o.guard with
  | none => simp
  | some q =>
    obtain ⟨j, want⟩ := q
    simp only
    cases ho : ops[j]? with
    | none => simp [yielded, ho]
    | some oj =>
      simp only
      cases hd : oj.dst with
      | none => simp [yielded, ho, hd]
      | some d =>
        simp only
        cases hv : fr[d]? with
        | none => simp [yielded, ho, hd, fden, hv]
        | some v =>
          rw [yielded_fden ops fr j ho hd hv]
          cases v with
          | tup l => simp [SV.den]
          | a x =>
            cases x with
            | agg l => simp [SV.den, SA.den]
            | one c =>
              cases c <;> simp [SV.den, SA.den, SC.den]
              case bool b =>
                cases b with
                | lit b => cases b <;> cases want <;> simp [SB.v]
                | sym c => simp
end
end Go.Proofs.Ytmmpnjcmaodkcaa.Ev
/- What is proved: the evaluator of code over a heap that is described block by block: regions in the text's order and in any order, loops, calls. Conditions: the evaluator's own premises. -/
namespace Go.Proofs.Ytmmpnjcmaodkcaa.Ev
open Go Go.Proofs.Ytmmpnjcmaodkcaa.Sep
set_option linter.unusedVariables false
set_option linter.unusedSimpArgs false
section
variable {A : Type}
/-! ### what is handed on is laid open first: else the kernel reckons it anew each time -/
def frcC (c : SC) (k : SC → Tree A) : Tree A :=
  match c with
  | .int j (.lit n) => k (.int j (.lit n))
  | .int j (.sym n) => k (.int j (.sym n))
  | .bool (.lit b) => k (.bool (.lit b))
  | .bool (.sym b) => k (.bool (.sym b))
  | c => k c
def frcCs : List SC → (List SC → Tree A) → Tree A
  | [], k => k []
  | c :: r, k => frcC c fun c => frcCs r fun r => k (c :: r)
def frcA (x : SA) (k : SA → Tree A) : Tree A :=
  match x with
  | .one c => frcC c fun c => k (.one c)
  | .agg l => frcCs l fun l => k (.agg l)
def frcAs : List SA → (List SA → Tree A) → Tree A
  | [], k => k []
  | c :: r, k => frcA c fun c => frcAs r fun r => k (c :: r)
def frcV (v : SV) (k : SV → Tree A) : Tree A :=
  match v with
  | .a x => frcA x fun x => k (.a x)
  | .tup l => frcAs l fun l => k (.tup l)
def frcL : List SV → (List SV → Tree A) → Tree A
  | [], k => k []
  | v :: r, k => frcL r fun r => k (v :: r)
def frcH : SH A → (SH A → Tree A) → Tree A
  | [], k => k []
  | (n, b, .cells l T) :: r, k => frcCs l fun l => frcH r fun r => k ((n, b, .cells l T) :: r)
  | (n, b, o) :: r, k => frcH r fun r => k ((n, b, o) :: r)
theorem frcC_eq (c : SC) (k : SC → Tree A) : frcC c k = k c := by unfold frcC; split <;> rfl
theorem frcCs_eq : ∀ (l : List SC) (k : List SC → Tree A), frcCs l k = k l
  | [], k => rfl
  | c :: r, k => by unfold frcCs; rw [frcC_eq, frcCs_eq r]
theorem frcA_eq (x : SA) (k : SA → Tree A) : frcA x k = k x := by
  cases x with
  | one c => exact frcC_eq c fun c => k (.one c)
  | agg l => exact frcCs_eq l fun l => k (.agg l)
theorem frcAs_eq : ∀ (l : List SA) (k : List SA → Tree A), frcAs l k = k l
  | [], k => rfl
  | c :: r, k => by unfold frcAs; rw [frcA_eq, frcAs_eq r]
theorem frcV_eq (v : SV) (k : SV → Tree A) : frcV v k = k v := by
  cases v with
  | a x => exact frcA_eq x fun x => k (.a x)
  | tup l => exact frcAs_eq l fun l => k (.tup l)
theorem frcL_eq : ∀ (l : List SV) (k : List SV → Tree A), frcL l k = k l
  | [], k => rfl
  | c :: r, k => by unfold frcL; rw [frcL_eq r]
theorem frcH_eq : ∀ (H : SH A) (k : SH A → Tree A), frcH H k = k H
  | [], k => rfl
  | (n, b, o) :: r, k => by
    cases o with
    | cells l T => unfold frcH; rw [frcCs_eq, frcH_eq r]
    | row ws T => unfold frcH; rw [frcH_eq r]
    | abs x => unfold frcH; rw [frcH_eq r]
/-- On with the frame that has v in its place, and the heap. -/
def goOn (v : SV) (fr : List SV) (d : Option Tmp) (H : SH A) (k : List SV → SH A → Tree A) : Tree A :=
  frcV v fun v => frcL (fput fr d v) fun fr => frcH H fun H => k fr H
theorem goOn_eq (v : SV) (fr : List SV) (d : Option Tmp) (H : SH A) (k : List SV → SH A → Tree A) : goOn v fr d H k = k (fput fr d v) H := by
  unfold goOn; rw [frcV_eq, frcL_eq, frcH_eq]
end
section
variable {A : Type} [Abs A]
abbrev KontF (A : Type) := List SV → SH A → Nat → Tree A
def allT : List Nat → (Nat → Tree A) → Tree A
  | [], _ => .fail
  | [i], t => t i
  | i :: r, t => .both (t i) (allT r t)
theorem allT_leads {P : Program} {t : Nat → Tree A} {L : Leaf A → Prop} : ∀ {l : List Nat}, (allT l t).Leads P L → ∀ i ∈ l, (t i).Leads P L
  | [], h, i, hi => by cases hi
  | [j], h, i, hi => by
    rcases List.mem_singleton.1 hi with rfl
    exact h
  | j :: k :: r, h, i, hi => by
    obtain ⟨h1, h2⟩ := h
    rcases List.mem_cons.1 hi with rfl | hi
    · exact h1
    · exact allT_leads h2 i hi
/-- The operations of a region, one behind the other. -/
def evList (P : Program) [Fast P] (call : Caller A) (ops : List Oper) : List Oper → List SV → SH A → Nat → KontF A → Tree A
  | [], fr, H, n, K => K fr H n
  | o :: rest, fr, H, n, K =>
    match gd ops fr o.guard with
    | .yes => evOp P call o fr H n fun v H n => goOn v fr o.dst H fun fr H => evList P call ops rest fr H n K
    | .no => evList P call ops rest (fput fr o.dst .un) H n K
    | .fork d c want =>
      .ite c
        (bif want then evOp P call o (fr.set d (.c (.bool (.lit true)))) H n fun v H n => goOn v (fr.set d (.c (.bool (.lit true)))) o.dst H fun fr H => evList P call ops rest fr H n K
          else evList P call ops rest (fput (fr.set d (.c (.bool (.lit true)))) o.dst .un) H n K)
        (bif want then evList P call ops rest (fput (fr.set d (.c (.bool (.lit false)))) o.dst .un) H n K
          else evOp P call o (fr.set d (.c (.bool (.lit false)))) H n fun v H n => goOn v (fr.set d (.c (.bool (.lit false)))) o.dst H fun fr H => evList P call ops rest fr H n K)
    | .bad => .fail
theorem gd_fork {ops : List Oper} {fr : List SV} {g : Option (Nat × Bool)} {d : Nat} {c want : Bool} (h : gd ops fr g = .fork d c want) :
    ∃ j o, g = some (j, want) ∧ ops[j]? = some o ∧ o.dst = some d ∧ fr[d]? = some (.c (.bool (.sym c))) := by
  unfold gd at h
  cases hg : g with
  | none => rw [hg] at h; simp at h
  | some q =>
    obtain ⟨j, w⟩ := q
    rw [hg] at h
    simp only at h
    cases ho : ops[j]? with
    | none => rw [ho] at h; simp at h
    | some o =>
      rw [ho] at h
      simp only at h
      cases hd : o.dst with
      | none => rw [hd] at h; simp at h
      | some d' =>
        rw [hd] at h
        simp only at h
        split at h
        · rename_i b hv
          cases hb : (b == w) <;> rw [hb] at h <;> simp at h
        · rename_i c' hv
          simp at h
          obtain ⟨rfl, rfl, rfl⟩ := h
          exact ⟨j, o, rfl, ho, hd, hv⟩
        · simp at h
        · simp at h
theorem gd_set {ops : List Oper} {fr : List SV} {d : Nat} {c want b : Bool} {o : Oper} (h : gd ops fr o.guard = .fork d c want) :
    gd ops (fr.set d (.c (.bool (.lit b)))) o.guard = (bif b == want then .yes else .no) := by
  obtain ⟨j, oj, hg, ho, hd, hv⟩ := gd_fork h
  have hlt : d < fr.length := by
    rcases Nat.lt_or_ge d fr.length with h | h
    · exact h
    · rw [List.getElem?_eq_none h] at hv; cases hv
  unfold gd
  rw [hg]
  simp only [ho, hd, List.getElem?_set_self hlt]
theorem evList_ok {P : Program} [Fast P] (hn : NoGos P) {call : Caller A} (hcall : CallerOk P call) {ops : List Oper} {L : Leaf A → Prop} {R : HProp} {Q : Exit → Act → World → Prop} {K : KontF A} :
    ∀ (l : List Oper) (fr : List SV) (H : SH A) (n : Nat) (w : World), (evList P call ops l fr H n K).Leads P L → Holds w (hden H * R) →
      (∀ fr' H' n' w', (K fr' H' n').Leads P L → Holds w' (hden H' * R) → Strm w w' → Q .normal ⟨fden fr', []⟩ w') → wpList P ops.toArray Q l ⟨fden fr, []⟩ w
  | [], fr, H, n, w, hl, hw, hk => hk fr H n w hl hw (Strm.refl w)
  | o :: rest, fr, H, n, w, hl, hw, hk => by
    have yes : ∀ (fr1 : List SV), gd ops fr1 o.guard = .yes → (evOp P call o fr1 H n fun v H n => goOn v fr1 o.dst H fun fr H => evList P call ops rest fr H n K).Leads P L → wpList P ops.toArray Q (o :: rest) ⟨fden fr1, []⟩ w := by
      intro fr1 hg hl
      have hwant := wanted_den.1 hg
      unfold wpList
      rw [if_pos hwant]
      left
      refine evOp_ok hn hcall hl hw fun v H' n' w' h1 h2 h3 => ?_
      rw [goOn_eq] at h1
      exact evList_ok hn hcall rest _ H' n' w' h1 h2 fun fr' H' n' w'' k1 k2 k3 => hk fr' H' n' w'' k1 k2 (h3.trans k3)
    have no : ∀ (fr1 : List SV), gd ops fr1 o.guard = .no → (evList P call ops rest (fput fr1 o.dst .un) H n K).Leads P L → wpList P ops.toArray Q (o :: rest) ⟨fden fr1, []⟩ w := by
      intro fr1 hg hl
      have hwant := wanted_den.2 hg
      unfold wpList
      rw [if_neg (by rw [hwant]; simp)]
      show wpList P ops.toArray Q rest ((⟨fden fr1, []⟩ : Act).put o.dst undef) w
      rw [← un_den, fput_den]
      exact evList_ok hn hcall rest _ H n w hl hw hk
    unfold evList at hl
    cases hg : gd ops fr o.guard with
    | yes => rw [hg] at hl; exact yes fr hg hl
    | no => rw [hg] at hl; exact no fr hg hl
    | bad => rw [hg] at hl; exact hl.elim
    | fork d c want =>
      rw [hg] at hl
      obtain ⟨h1, h2⟩ := hl
      obtain ⟨j, oj, _, _, _, hv⟩ := gd_fork hg
      cases hc : c with
      | true =>
        have e : fden (fr.set d (.c (.bool (.lit true)))) = fden fr := set_same hv (by rw [hc]; rfl)
        have hs := gd_set (b := true) hg
        have h1' := h1 hc
        rw [← e]
        cases want with
        | true => exact yes _ hs h1'
        | false => exact no _ hs h1'
      | false =>
        have e : fden (fr.set d (.c (.bool (.lit false)))) = fden fr := set_same hv (by rw [hc]; rfl)
        have hs := gd_set (b := false) hg
        have h2' := h2 hc
        rw [← e]
        cases want with
        | true => exact no _ hs h2'
        | false => exact yes _ hs h2'

/-! ### a region in any order: cells that nobody of it writes are held -/
abbrev Held := List (Nat × Nat × Nat × SC)
def heldS (S : Held) (w : World) : Prop := ∀ x ∈ S, w.cell? ⟨x.2.1, x.2.2.1, none⟩ = some x.2.2.2.den
def heldP (H : SH A) : Held → Option (List Prop)
  | [] => some []
  | (nm, b, off, c) :: r =>
    match find H nm, heldP H r with
    | some (b', .cells l _), some ps =>
      match l[off]? with
      | some c' => some ((b' = b) :: (c'.den = c.den) :: ps)
      | none => none
    | _, _ => none
theorem heldP_ok {H : SH A} {w : World} {R : HProp} (hw : Holds w (hden H * R)) : ∀ (S : Held) (ps : List Prop), heldP H S = some ps → (∀ p ∈ ps, p) → heldS S w
  | [], ps, h, hp => fun x hx => (by cases hx)
  | (nm, b, off, c) :: r, ps, h, hp => by
    unfold heldP at h
    split at h
    · rename_i b' l T ps' hf hr
      cases hl : l[off]? with
      | none => rw [hl] at h; simp at h
      | some c' =>
        rw [hl] at h
        simp at h
        subst h
        have h1 : b' = b := hp _ (by simp)
        have h2 : c'.den = c.den := hp _ (by simp)
        have h3 := heldP_ok hw r ps' hr (fun p hp' => hp p (by simp [hp']))
        have hw1 : Holds w (pt b' (.cells (dens l) T (0, 0)) * (hden (del H nm) * R)) := focus hf hw
        intro x hx
        rcases List.mem_cons.1 hx with rfl | hx
        · show w.cell? ⟨b, off, none⟩ = some c.den
          rw [← h1, hw1.cells, ← h2]
          simp [dens, hl]
        · exact h3 x hx
    · simp at h
def lookS : Held → Nat → Nat → Option (Nat × SC)
  | [], _, _ => none
  | (nm, b, off, c) :: r, m, o => bif Nat.beq nm m && Nat.beq off o then some (b, c) else lookS r m o
theorem lookS_mem : ∀ {S : Held} {m o b : Nat} {c : SC}, lookS S m o = some (b, c) → (m, b, o, c) ∈ S
  | [], _, _, _, _, h => by simp [lookS] at h
  | (nm, b', off, c') :: r, m, o, b, c, h => by
    unfold lookS at h
    cases hc : (Nat.beq nm m && Nat.beq off o) with
    | true =>
      rw [hc] at h
      simp at h
      obtain ⟨rfl, rfl⟩ := h
      rw [Bool.and_eq_true] at hc
      rw [Nat.eq_of_beq_eq_true hc.1, Nat.eq_of_beq_eq_true hc.2]
      exact List.mem_cons_self ..
    | false => rw [hc] at h; exact List.mem_cons_of_mem _ (lookS_mem h)
def looksS (S : Held) (m b : Nat) : Nat → Nat → Option (List Prop × List SC)
  | _, 0 => some ([], [])
  | o, n + 1 =>
    match lookS S m o, looksS S m b (o + 1) n with
    | some (b', c), some (ps, l) => some ((b' = b) :: ps, c :: l)
    | _, _ => none
theorem looksS_ok {S : Held} {m b : Nat} {w : World} (hS : heldS S w) : ∀ (n o : Nat) (ps : List Prop) (l : List SC), looksS S m b o n = some (ps, l) → (∀ p ∈ ps, p) →
    l.length = n ∧ ∀ j c, l[j]? = some c → w.cell? ⟨b, o + j, none⟩ = some c.den
  | 0, o, ps, l, h, hp => by
    simp [looksS] at h
    obtain ⟨rfl, rfl⟩ := h
    exact ⟨rfl, fun j c hj => by simp at hj⟩
  | n + 1, o, ps, l, h, hp => by
    unfold looksS at h
    split at h
    · rename_i b' c ps' l' h1 h2
      simp at h
      obtain ⟨rfl, rfl⟩ := h
      have e : b' = b := hp _ (by simp)
      subst e
      obtain ⟨g1, g2⟩ := looksS_ok hS n (o + 1) ps' l' h2 (fun p hp' => hp p (by simp [hp']))
      refine ⟨by simp [g1], fun j c' hj => ?_⟩
      cases j with
      | zero => simp at hj; subst hj; exact hS _ (lookS_mem h1)
      | succ j =>
        simp at hj
        have := g2 j c' hj
        rw [show o + (j + 1) = o + 1 + j by omega]; exact this
    · simp at h
def loadH (P : Program) [Fast P] (S : Held) (t : TypeId) (x : SV) : Option (List Prop × SV) :=
  match x with
  | .a (.one (.ptr nm b off)) =>
    match tyAgg P t, tySize P t with
    | some true, some n => (looksS S nm b off n).map fun r => (r.1, .a (.agg r.2))
    | some false, _ => (lookS S nm off).map fun r => ([r.1 = b], .c r.2)
    | _, _ => none
  | _ => none
theorem run_loadH {P : Program} [Fast P] {S : Held} {t : TypeId} {x : SV} {ps : List Prop} {v : SV} (h : loadH P S t x = some (ps, v)) (hp : ∀ p ∈ ps, p) {w : World} (hS : heldS S w) :
    (Instr.loadAt t x.den).run P w = .ok v.den w := by
  unfold loadH at h
  split at h
  · rename_i nm b off
    unfold Instr.loadAt
    simp only [SV.den, SA.den, SC.den, Instr.sureAddr, Sem.run_bind, Sem.run_pure, Result.andThen_ok]
    split at h
    · rename_i n ha hs
      cases hl : looksS S nm b off n with
      | none => rw [hl] at h; simp at h
      | some r =>
        rw [hl] at h
        simp at h
        obtain ⟨rfl, rfl⟩ := h
        obtain ⟨g1, g2⟩ := looksS_ok hS n off r.1 r.2 hl hp
        exact run_loadVar_agg ha hs g1 g2
    · rename_i ha
      cases hl : lookS S nm off with
      | none => rw [hl] at h; simp at h
      | some r =>
        rw [hl] at h
        simp at h
        obtain ⟨rfl, rfl⟩ := h
        have e : r.1 = b := hp _ (List.mem_singleton.2 rfl)
        have := hS _ (lookS_mem hl)
        rw [e] at this
        exact run_loadVar_one ha this
    · simp at h
  · simp at h
/-- An operation that may be taken first. -/
def quiet (P : Program) [Fast P] (ops : List Oper) (S : Held) (fr : List SV) (o : Oper) : Option (List Prop × SV) :=
  match gd ops fr o.guard with
  | .no => some ([], .un)
  | .yes =>
    match pureOp P fr o with
    | some r => some r
    | none =>
      match o.op with
      | .load t x => loadH P S t (opnd fr x)
      | _ => none
  | _ => none
theorem quiet_ok {P : Program} [Fast P] {ops : List Oper} {S : Held} {fr : List SV} {o : Oper} {ps : List Prop} {v : SV} (h : quiet P ops S fr o = some (ps, v)) (hp : ∀ p ∈ ps, p) :
    YieldsIf P ops.toArray (heldS S) o v.den ⟨fden fr, []⟩ := by
  unfold quiet at h
  unfold YieldsIf
  split at h
  · rename_i hg
    simp at h
    obtain ⟨rfl, rfl⟩ := h
    exact .inr ⟨wanted_den.2 hg, rfl⟩
  · rename_i hg
    left
    refine ⟨wanted_den.1 hg, fun w hS => ?_⟩
    split at h
    · rename_i r hr
      simp only [Option.some.injEq] at h
      subst h
      exact run_pureOp hr hp [] w
    · split at h
      · rename_i t x ho
        have := run_loadH h hp hS
        unfold execOp
        simp only [ho, opnd_den, Sem.run_bind, this, Result.andThen_ok, Sem.run_pure]
      · simp at h
  · simp at h
def pickQ (P : Program) [Fast P] (ops : List Oper) (S : Held) (listed : Array Bool) (fr : List SV) : List Nat → Option (Nat × Oper × List Prop × SV)
  | [] => none
  | i :: r =>
    match ops[i]? with
    | some o =>
      match quiet P ops S fr o with
      | some (ps, v) => bif Region.free .any ops.toArray listed i then some (i, o, ps, v) else pickQ P ops S listed fr r
      | none => pickQ P ops S listed fr r
    | none => pickQ P ops S listed fr r
theorem pickQ_ok {P : Program} [Fast P] {ops : List Oper} {S : Held} {listed : Array Bool} {fr : List SV} : ∀ {l : List Nat} {i : Nat} {o : Oper} {ps : List Prop} {v : SV}, pickQ P ops S listed fr l = some (i, o, ps, v) →
    i ∈ l ∧ ops[i]? = some o ∧ quiet P ops S fr o = some (ps, v) ∧ Region.free .any ops.toArray listed i = true
  | [], _, _, _, _, h => by simp [pickQ] at h
  | j :: r, i, o, ps, v, h => by
    unfold pickQ at h
    split at h
    · rename_i o' ho
      split at h
      · rename_i ps' v' hq
        cases hf : Region.free .any ops.toArray listed j with
        | true =>
          rw [hf] at h
          simp at h
          obtain ⟨rfl, rfl, rfl, rfl⟩ := h
          exact ⟨List.mem_cons_self .., ho, hq, hf⟩
        | false =>
          rw [hf] at h
          obtain ⟨h1, h2⟩ := pickQ_ok h
          exact ⟨List.mem_cons_of_mem _ h1, h2⟩
      · obtain ⟨h1, h2⟩ := pickQ_ok h
        exact ⟨List.mem_cons_of_mem _ h1, h2⟩
    · obtain ⟨h1, h2⟩ := pickQ_ok h
      exact ⟨List.mem_cons_of_mem _ h1, h2⟩
def pickF (ops : List Oper) (fr : List SV) : List Nat → Option (Nat × Bool)
  | [] => none
  | i :: r =>
    match ops[i]? with
    | some o =>
      match gd ops fr o.guard with
      | .fork d c _ => some (d, c)
      | _ => pickF ops fr r
    | none => pickF ops fr r
theorem pickF_ok {ops : List Oper} {fr : List SV} : ∀ {l : List Nat} {d : Nat} {c : Bool}, pickF ops fr l = some (d, c) → fr[d]? = some (.c (.bool (.sym c)))
  | [], _, _, h => by simp [pickF] at h
  | i :: r, d, c, h => by
    unfold pickF at h
    split at h
    · split at h
      · rename_i d' c' want hg
        simp at h
        obtain ⟨rfl, rfl⟩ := h
        obtain ⟨j, oj, _, _, _, hv⟩ := gd_fork hg
        exact hv
      · exact pickF_ok h
    · exact pickF_ok h
def evAny (P : Program) [Fast P] (call : Caller A) (ops : List Oper) (S : Held) : Nat → Nat → Array Bool → List SV → SH A → Nat → KontF A → Tree A
  | 0, _, _, _, _, _, _ => .fail
  | g + 1, F, listed, fr, H, n, K =>
    match Region.ready .any ops.toArray listed with
    | [] => K fr H n
    | r :: rs =>
      match F with
      | 0 => .fail
      | F + 1 =>
        match pickQ P ops S listed fr (r :: rs) with
        | some (i, o, ps, v) => needs ps (goOn v fr o.dst H fun fr H => evAny P call ops S g F (listed.setIfInBounds i true) fr H n K)
        | none =>
          match pickF ops fr (r :: rs) with
          | some (d, c) => .ite c (evAny P call ops S g (F + 1) listed (fr.set d (.c (.bool (.lit true)))) H n K) (evAny P call ops S g (F + 1) listed (fr.set d (.c (.bool (.lit false)))) H n K)
          | none => allT (r :: rs) fun i =>
            match ops[i]? with
            | some o =>
              match gd ops fr o.guard with
              | .yes => evOp P call o fr H n fun v H' n' =>
                match heldP H' S with
                | some ps => needs ps (goOn v fr o.dst H' fun fr H' => evAny P call ops S g F (listed.setIfInBounds i true) fr H' n' K)
                | none => .fail
              | _ => .fail
            | none => .fail
theorem evAny_ok {P : Program} [Fast P] (hn : NoGos P) {call : Caller A} (hcall : CallerOk P call) {ops : List Oper} {S : Held} (hns : Region.noSelect ops.toArray = true) {L : Leaf A → Prop} {R : HProp}
    {Q : Exit → Act → World → Prop} (hQ : ∀ c a a' w, Q (.panic c) a w → Q (.panic c) a' w) {K : KontF A} :
    ∀ (g F : Nat) (listed : Array Bool) (fr : List SV) (H : SH A) (n : Nat) (w : World), (evAny P call ops S g F listed fr H n K).Leads P L → Holds w (hden H * R) → heldS S w →
      (∀ fr' H' n' w', (K fr' H' n').Leads P L → Holds w' (hden H' * R) → Strm w w' → Q .normal ⟨fden fr', []⟩ w') → wpAnyH P .any ops.toArray Q (heldS S) F listed ⟨fden fr, []⟩ w
  | 0, F, listed, fr, H, n, w, hl, hw, hS, hk => hl.elim
  | g + 1, F, listed, fr, H, n, w, hl, hw, hS, hk => by
    unfold evAny at hl
    split at hl
    · rename_i hr
      exact wpAnyH_done hr (hk fr H n w hl hw (Strm.refl w)) F
    · rename_i r rs hr
      cases F with
      | zero => exact hl.elim
      | succ F =>
        simp only at hl
        split at hl
        · rename_i i o ps v hq
          obtain ⟨h1, h2⟩ := needs_leads hl
          rw [goOn_eq] at h2
          obtain ⟨p1, p2, p3, p4⟩ := pickQ_ok hq
          refine wpAnyH_take (i := i) (oi := o) (v := v.den) (by simpa using p2) hns p4 (by rw [hr]; simpa using p1) (fun c a w h => hQ c _ _ w h) (quiet_ok p3 h1) hS ?_
          rw [fput_den]
          exact evAny_ok hn hcall hns hQ g F _ _ H n w h2 hw hS hk
        · split at hl
          · rename_i d c hf
            obtain ⟨h1, h2⟩ := hl
            have hv := pickF_ok hf
            cases hc : c with
            | true =>
              have e : fden (fr.set d (.c (.bool (.lit true)))) = fden fr := set_same hv (by rw [hc]; rfl)
              rw [← e]
              exact evAny_ok hn hcall hns hQ g (F + 1) _ _ H n w (h1 hc) hw hS hk
            | false =>
              have e : fden (fr.set d (.c (.bool (.lit false)))) = fden fr := set_same hv (by rw [hc]; rfl)
              rw [← e]
              exact evAny_ok hn hcall hns hQ g (F + 1) _ _ H n w (h2 hc) hw hS hk
          · refine wpAnyH_all hr (by simp) fun i hi => ?_
            have hl' := allT_leads hl i hi
            split at hl'
            · rename_i o ho
              split at hl'
              · rename_i hg
                have ho' : ops.toArray[i]? = some o := by simpa using ho
                unfold wpOp
                simp only [ho']
                rw [if_pos (wanted_den.1 hg)]
                left
                refine evOp_ok hn hcall hl' hw fun v H' n' w' k1 k2 k3 => ?_
                split at k1
                · rename_i ps hps
                  obtain ⟨h1, h2⟩ := needs_leads k1
                  rw [goOn_eq] at h2
                  have hS' := heldP_ok k2 S ps hps h1
                  exact ⟨hS', evAny_ok hn hcall hns hQ g F _ _ H' n' w' h2 k2 hS' fun fr' H' n' w'' j1 j2 j3 => hk fr' H' n' w'' j1 j2 (k3.trans j3)⟩
                · exact k1.elim
              · exact hl'.elim
            · exact hl'.elim
end
section
variable {A : Type}
/-- The cells that a region's loads read and that none of its stores writes. -/
def gather (P : Program) [Fast P] (ops : List Oper) (H : SH A) : List Oper → List SV → Held → List (Nat × Nat × Nat) → Held × List (Nat × Nat × Nat)
  | [], _, S, W => (S, W)
  | o :: rest, fr, S, W =>
    match gd ops fr o.guard with
    | .yes =>
      match pureOp P fr o with
      | some (_, v) => gather P ops H rest (fput fr o.dst v) S W
      | none =>
        match o.op with
        | .load t x =>
          match opnd fr x with
          | .a (.one (.ptr nm b off)) =>
            match find H nm with
            | some (b, .cells l _) =>
              match tyAgg P t, tySize P t with
              | some true, some n => gather P ops H rest (fput fr o.dst (.a (.agg ((l.drop off).take n)))) (((l.drop off).take n).zipIdx.map (fun p => (nm, b, off + p.2, p.1)) ++ S) W
              | some false, _ =>
                match l[off]? with
                | some c => gather P ops H rest (fput fr o.dst (.c c)) ((nm, b, off, c) :: S) W
                | none => gather P ops H rest (fput fr o.dst .un) S W
              | _, _ => gather P ops H rest (fput fr o.dst .un) S W
            | _ => gather P ops H rest (fput fr o.dst .un) S W
          | _ => gather P ops H rest (fput fr o.dst .un) S W
        | .store t x _ =>
          match opnd fr x, tySize P t with
          | .a (.one (.ptr nm b off)), some n => gather P ops H rest fr S ((nm, off, n) :: W)
          | _, _ => gather P ops H rest fr S W
        | _ => gather P ops H rest (fput fr o.dst .un) S W
    | _ => gather P ops H rest (fput fr o.dst .un) S W
def struck (W : List (Nat × Nat × Nat)) (nm off : Nat) : Bool := W.any fun q => Nat.beq q.1 nm && (Nat.ble q.2.1 off && Nat.blt off (q.2.1 + q.2.2))
def gathered (P : Program) [Fast P] (ops : List Oper) (fr : List SV) (H : SH A) : Held :=
  let r := gather P ops H ops fr [] []
  r.1.filter fun x => !struck r.2 x.1 x.2.2.1
/-- A cell that the heap has. -/
def HasCell (H : SH A) (x : Nat × Nat × Nat × SC) : Prop := ∃ l T, find H x.1 = some (x.2.1, .cells l T) ∧ l[x.2.2.1]? = some x.2.2.2
theorem gather_has (P : Program) [Fast P] (ops : List Oper) (H : SH A) : ∀ (l : List Oper) (fr : List SV) (S : Held) (W : List (Nat × Nat × Nat)), (∀ x ∈ S, HasCell H x) → ∀ x ∈ (gather P ops H l fr S W).1, HasCell H x
  | [], fr, S, W, h => h
  | o :: rest, fr, S, W, h => by
    unfold gather
    split
    · split
      · exact gather_has P ops H rest _ S W h
      · split
        · split
          · rename_i nm b0 off hx
            split
            · rename_i b l T hf
              split
              · rename_i n _ _
                refine gather_has P ops H rest _ _ W fun x hx => ?_
                rcases List.mem_append.1 hx with hx | hx
                · obtain ⟨p, hp, rfl⟩ := List.mem_map.1 hx
                  refine ⟨l, T, hf, ?_⟩
                  obtain ⟨c, j⟩ := p
                  have hj := List.mem_zipIdx hp
                  simp only [Nat.zero_add] at hj
                  obtain ⟨_, h2, h3⟩ := hj
                  show l[off + j]? = some c
                  simp only [Nat.sub_zero] at h3
                  rw [h3, List.getElem_take, List.getElem_drop]
                  exact List.getElem?_eq_getElem _
                · exact h x hx
              · split
                · rename_i c hc
                  refine gather_has P ops H rest _ _ W fun x hx => ?_
                  rcases List.mem_cons.1 hx with rfl | hx
                  · exact ⟨l, T, hf, hc⟩
                  · exact h x hx
                · exact gather_has P ops H rest _ S W h
              · exact gather_has P ops H rest _ S W h
            · exact gather_has P ops H rest _ S W h
          · exact gather_has P ops H rest _ S W h
        · split
          · exact gather_has P ops H rest _ S _ h
          · exact gather_has P ops H rest _ S W h
        · exact gather_has P ops H rest _ S W h
    · exact gather_has P ops H rest _ S W h
end
section
variable {A : Type} [Abs A]
theorem gathered_held {P : Program} [Fast P] {ops : List Oper} {fr : List SV} {H : SH A} {w : World} {R : HProp} (hw : Holds w (hden H * R)) : heldS (gathered P ops fr H) w := by
  intro x hx
  have hx' : x ∈ (gather P ops H ops fr [] []).1 := (List.mem_filter.1 hx).1
  obtain ⟨l, T, hf, hl⟩ := gather_has P ops H ops fr [] [] (fun x hx => by cases hx) x hx'
  have hw1 : Holds w (pt x.2.1 (.cells (dens l) T (0, 0)) * (hden (del H x.1) * R)) := focus hf hw
  rw [hw1.cells]
  simp [dens, hl]
end
end Go.Proofs.Ytmmpnjcmaodkcaa.Ev
/- What is proved: the evaluator of functions over a heap that is described block by block. Conditions: the evaluator's own premises. -/
namespace Go.Proofs.Ytmmpnjcmaodkcaa.Ev
open Go Go.Proofs.Ytmmpnjcmaodkcaa.Sep
set_option linter.unusedVariables false
set_option linter.unusedSimpArgs false
section
variable {A : Type} [Abs A]
abbrev KontE (A : Type) := Exit → List SV → SH A → Nat → Tree A
abbrev Ctr (A : Type) := Nat → List SV → SH A → Nat → Kont A → Option (Tree A)
def loopE (body : List SV → SH A → Nat → KontE A → Tree A) : Nat → List SV → SH A → Nat → KontE A → Tree A
  | 0, _, _, _, _ => .fail
  | m + 1, fr, H, n, K => body fr H n fun e fr H n =>
    match e with
    | .normal => loopE body m fr H n K
    | e => K e fr H n
def resV (P : Program) [Fast P] (fr : List SV) (H : SH A) : List ResultVar → Option (List Prop × List SV)
  | [] => some ([], [])
  | .tmp t :: r =>
    match resV P fr H r with
    | some (ps, l) => some (ps, fr.getD t .un :: l)
    | none => none
  | .cell a t :: r =>
    match loadV P t H (fr.getD a .un), resV P fr H r with
    | some (qs, v), some (ps, l) => some (qs ++ ps, v :: l)
    | _, _ => none
def toSA : List SV → Option (List SA)
  | [] => some []
  | .a x :: r => (toSA r).map (x :: ·)
  | _ => none
def resOf : List SV → Option SV
  | [v] => some v
  | l => (toSA l).map .tup
def ends (P : Program) [Fast P] (fn : Func) (k : Kont A) : KontE A := fun e fr H n =>
  match e with
  | .normal | .ret =>
    match resV P fr H fn.results.toList with
    | some (ps, l) =>
      match resOf l with
      | some v => needs ps (k v H n)
      | none => .fail
    | none => .fail
  | _ => .fail
def callBy (P : Program) [Fast P] (Γ : Ctr A) (ev : Code → List SV → SH A → Nat → KontE A → Tree A) : Caller A := fun f args H n k =>
  match Γ f args H n k with
  | some t => t
  | none =>
    match Fast.func P f with
    | some fn =>
      match fn.body with
      | some c => ev c (args ++ List.replicate (fn.ntmps - args.length) .un) H n (ends P fn k)
      | none => .fail
    | none => .fail
def evCode (P : Program) [Fast P] (Γ : Ctr A) : Nat → Bool → Code → List SV → SH A → Nat → KontE A → Tree A
  | 0, _, _, _, _, _, _ => .fail
  | g + 1, s, c, fr, H, n, K =>
    match c with
    | .skip => K .normal fr H n
    | .label _ => K .normal fr H n
    | .ret => K .ret fr H n
    | .exit id => K (.exit id) fr H n
    | .goto l => K (.goto l) fr H n
    | .seq a b => evCode P Γ g s a fr H n fun e fr H n =>
      match e with
      | .normal => evCode P Γ g s b fr H n K
      | e => K e fr H n
    | .block id c => evCode P Γ g s c fr H n fun e fr H n =>
      match e with
      | .exit id' => bif Nat.beq id' id then K .normal fr H n else K (.exit id') fr H n
      | e => K e fr H n
    | .scope c => evCode P Γ g s c fr H n fun e fr H n =>
      match e with
      | .goto _ => .fail
      | e => K e fr H n
    | .cond x a b =>
      match opnd fr x with
      | .a (.one (.bool (.lit true))) => evCode P Γ g s a fr H n K
      | .a (.one (.bool (.lit false))) => evCode P Γ g s b fr H n K
      | .a (.one (.bool (.sym c))) => .ite c (evCode P Γ g s a fr H n K) (evCode P Γ g s b fr H n K)
      | _ => .fail
    | .loop c => bif s then .loop c fr H n K else loopE (evCode P Γ g s c) g fr H n K
    | .region _ ops draw =>
      bif draw then
        (bif Region.noSelect ops then
          evAny P (callBy P Γ (evCode P Γ g false)) ops.toList (gathered P ops.toList fr H) (4 * ops.toList.length + 8) ops.toList.length (Array.replicate ops.toList.length false) fr H n (K .normal)
        else .fail)
      else evList P (callBy P Γ (evCode P Γ g false)) ops.toList ops.toList fr H n (K .normal)
    | _ => .fail
/-- What a table of contracts says holds of the program. -/
def CtrOk (P : Program) (Γ : Ctr A) : Prop :=
  ∀ f args H n k t, Γ f args H n k = some t → ∀ (L : Leaf A → Prop), t.Leads P L → ∀ (w : World) (R : HProp), Holds w (hden H * R) → ∀ Q : Ending → World → Prop,
    (∀ v H' n' w', (k v H' n').Leads P L → Holds w' (hden H' * R) → Strm w w' → Q (.returned v.den) w') → Calls P f (args.map SV.den).toArray w Q
theorem resV_ok {P : Program} [Fast P] {fr : List SV} {H : SH A} {w : World} {R : HProp} (hw : Holds w (hden H * R)) : ∀ (l : List ResultVar) (ps : List Prop) (vs : List SV), resV P fr H l = some (ps, vs) → (∀ p ∈ ps, p) →
    (l.mapM fun
      | .tmp t => pure ((fden fr).getD t undef)
      | .cell a t => do loadVar t (← asAddr ((fden fr).getD a undef)) : Sem (List Value)).run P w = .ok (vs.map SV.den) w
  | [], ps, vs, h, hp => by simp [resV] at h; obtain ⟨rfl, rfl⟩ := h; rfl
  | .tmp t :: r, ps, vs, h, hp => by
    unfold resV at h
    split at h
    · rename_i ps' l hr
      simp only [Option.some.injEq, Prod.mk.injEq] at h
      obtain ⟨rfl, rfl⟩ := h
      have ih := resV_ok hw r ps' l hr hp
      have e : (fden fr).getD t undef = (fr.getD t .un).den := opnd_den fr [] (.tmp t)
      rw [List.mapM_cons]
      simp only [Sem.run_bind, Sem.run_pure, Result.andThen_ok, ih, e, List.map_cons]
    · simp at h
  | .cell a t :: r, ps, vs, h, hp => by
    unfold resV at h
    split at h
    · rename_i qs v ps' l hl hr
      simp at h
      obtain ⟨rfl, rfl⟩ := h
      have ih := resV_ok hw r ps' l hr (fun p hp' => hp p (by simp [hp']))
      have e : (fden fr).getD a undef = (fr.getD a .un).den := opnd_den fr [] (.tmp a)
      have hv := run_loadV (P := P) hl (fun p hp' => hp p (by simp [hp'])) hw
      have hv' : (do loadVar t (← asAddr ((fden fr).getD a undef)) : Sem Value).run P w = .ok v.den w := by
        unfold loadV at hl
        split at hl
        · rename_i nm b off hx
          rw [e, hx]
          rw [hx] at hv
          exact hv
        · simp at hl
      rw [List.mapM_cons]
      simp only [Sem.run_bind] at hv' ⊢
      simp only [hv', Sem.run_pure, Result.andThen_ok, ih, List.map_cons]
    · simp at h
theorem toSA_den : ∀ (l : List SV) (r : List SA), toSA l = some r → l.map SV.den = r.map SA.den
  | [], r, h => by simp [toSA] at h; subst h; rfl
  | .a x :: l, r, h => by
    simp only [toSA] at h
    cases hl : toSA l with
    | none => rw [hl] at h; simp at h
    | some r' =>
      rw [hl] at h
      simp at h
      subst h
      simp only [List.map_cons, toSA_den l r' hl]
      rfl
  | .tup _ :: l, r, h => by simp [toSA] at h
theorem results_ok {P : Program} [Fast P] {fn : Func} {fr : List SV} {H : SH A} {w : World} {R : HProp} (hw : Holds w (hden H * R)) {ps : List Prop} {l : List SV} {v : SV} (h : resV P fr H fn.results.toList = some (ps, l)) (hp : ∀ p ∈ ps, p) (hv : resOf l = some v) :
    (results fn (fden fr)).run P w = .ok v.den w := by
  have h1 := resV_ok hw _ ps l h hp
  suffices key : ∀ r, r = Result.ok (l.map SV.den) w → ((r.andThen fun a w' => Result.ok a.toArray w').andThen fun vs w' => (pure (if h : vs.size = 1 then vs[0] else .tuple vs) : Sem Value).run P w') = .ok v.den w by
    unfold results
    rw [Array.mapM_eq_mapM_toList, Sem.run_bind, Sem.run_map]
    exact key _ h1
  intro r hr
  subst hr
  simp only [Result.andThen_ok]
  unfold resOf at hv
  split at hv
  · rename_i v'
    simp at hv
    subst hv
    simp
  · rename_i hne
    cases ht : toSA l with
    | none => rw [ht] at hv; simp at hv
    | some r =>
      rw [ht] at hv
      simp at hv
      subst hv
      have e := toSA_den l r ht
      have hs : ¬ (l.map SV.den).toArray.size = 1 := by
        intro hh
        have hh' : l.length = 1 := by simpa using hh
        match l, hh' with
        | [v], _ => exact hne v rfl
      rw [dif_neg hs, Sem.run_pure, e]
      rfl
theorem loopE_ok {P : Program} {c : Code} {body : List SV → SH A → Nat → KontE A → Tree A} {L : Leaf A → Prop} {R : HProp} {Q : Exit → Act → World → Prop} {K : KontE A}
    (hb : ∀ fr H n K' w Q', (body fr H n K').Leads P L → Holds w (hden H * R) → (∀ e fr' H' n' w', (K' e fr' H' n').Leads P L → Holds w' (hden H' * R) → Strm w w' → Q' e ⟨fden fr', []⟩ w') → c.wp P Q' ⟨fden fr, []⟩ w) :
    ∀ (m : Nat) (fr : List SV) (H : SH A) (n : Nat) (w : World), (loopE body m fr H n K).Leads P L → Holds w (hden H * R) →
      (∀ e fr' H' n' w', (K e fr' H' n').Leads P L → Holds w' (hden H' * R) → Strm w w' → Q e ⟨fden fr', []⟩ w') → Code.rounds P c Q m ⟨fden fr, []⟩ w
  | 0, fr, H, n, w, hl, hw, hk => hl.elim
  | m + 1, fr, H, n, w, hl, hw, hk => by
    rw [rounds_succ]
    refine hb fr H n _ w _ hl hw fun e fr' H' n' w' h1 h2 h3 => ?_
    cases e with
    | normal => exact loopE_ok hb m fr' H' n' w' h1 h2 fun e fr'' H'' n'' w'' k1 k2 k3 => hk e fr'' H'' n'' w'' k1 k2 (h3.trans k3)
    | exit id => exact hk _ fr' H' n' w' h1 h2 h3
    | goto l => exact hk _ fr' H' n' w' h1 h2 h3
    | ret => exact hk _ fr' H' n' w' h1 h2 h3
    | panic ch => exact hk _ fr' H' n' w' h1 h2 h3
    | outgrown => exact hk _ fr' H' n' w' h1 h2 h3
def CodeOk (P : Program) (ev : Code → List SV → SH A → Nat → KontE A → Tree A) : Prop :=
  ∀ (c : Code) (fr : List SV) (H : SH A) (n : Nat) (K : KontE A) (L : Leaf A → Prop) (w : World) (R : HProp) (Q : Exit → Act → World → Prop), (ev c fr H n K).Leads P L → Holds w (hden H * R) →
    (∀ e fr' H' n' w', (K e fr' H' n').Leads P L → Holds w' (hden H' * R) → Strm w w' → Q e ⟨fden fr', []⟩ w') → c.wp P Q ⟨fden fr, []⟩ w
theorem callBy_ok {P : Program} [Fast P] {Γ : Ctr A} (hΓ : CtrOk P Γ) {ev : Code → List SV → SH A → Nat → KontE A → Tree A} (hev : CodeOk P ev) : CallerOk P (callBy P Γ ev) := by
  intro f args H n k L hl w R hw Q hk
  unfold callBy at hl
  split at hl
  · rename_i t ht
    exact hΓ f args H n k t ht L hl w R hw Q hk
  · split at hl
    · rename_i fn hf
      split at hl
      · rename_i c hc
        refine calls_of_wp (Fast.func_ok hf) hc ?_
        have e : (args.map SV.den).toArray ++ Array.replicate (fn.ntmps - (args.map SV.den).toArray.size) undef = fden (args ++ List.replicate (fn.ntmps - args.length) .un) := by
          unfold fden
          simp [un_den]
        rw [e]
        refine hev c _ H n _ L w R _ hl hw fun e fr' H' n' w' h1 h2 h3 => ?_
        unfold ends at h1
        cases e with
        | normal =>
          simp only at h1
          split at h1
          · rename_i ps l hr
            split at h1
            · rename_i v hv
              obtain ⟨g1, g2⟩ := needs_leads h1
              exact ⟨rfl, v.den, results_ok h2 hr g1 hv, hk v H' n' w' g2 h2 h3⟩
            · exact h1.elim
          · exact h1.elim
        | ret =>
          simp only at h1
          split at h1
          · rename_i ps l hr
            split at h1
            · rename_i v hv
              obtain ⟨g1, g2⟩ := needs_leads h1
              exact ⟨rfl, v.den, results_ok h2 hr g1 hv, hk v H' n' w' g2 h2 h3⟩
            · exact h1.elim
          · exact h1.elim
        | exit id => exact h1.elim
        | goto l => exact h1.elim
        | panic ch => exact h1.elim
        | outgrown => exact h1.elim
      · exact hl.elim
    · exact hl.elim
theorem evCode_ok {P : Program} [Fast P] (hn : NoGos P) (hm : P.follows .mixedOrders = true) {Γ : Ctr A} (hΓ : CtrOk P Γ) : ∀ g s, CodeOk P (evCode P Γ g s)
  | 0, s => fun c fr H n K L w R Q hl hw hk => hl.elim
  | g + 1, s => fun c fr H n K L w R Q hl hw hk => by
    have ih := evCode_ok hn hm hΓ g s
    have hcall := callBy_ok hΓ (evCode_ok hn hm hΓ g false)
    unfold evCode at hl
    cases c with
    | skip => exact wp_skip (hk _ fr H n w hl hw (Strm.refl w))
    | label l => exact wp_label (hk _ fr H n w hl hw (Strm.refl w))
    | ret => exact wp_ret (hk _ fr H n w hl hw (Strm.refl w))
    | exit id => exact wp_exit (hk _ fr H n w hl hw (Strm.refl w))
    | goto l => exact wp_goto (hk _ fr H n w hl hw (Strm.refl w))
    | seq a b =>
      refine wp_seq (ih a fr H n _ L w R _ hl hw fun e fr' H' n' w' h1 h2 h3 => ?_)
      cases e with
      | normal => exact ih b fr' H' n' K L w' R Q h1 h2 fun e fr'' H'' n'' w'' k1 k2 k3 => hk e fr'' H'' n'' w'' k1 k2 (h3.trans k3)
      | exit id => exact hk _ fr' H' n' w' h1 h2 h3
      | goto l => exact hk _ fr' H' n' w' h1 h2 h3
      | ret => exact hk _ fr' H' n' w' h1 h2 h3
      | panic ch => exact hk _ fr' H' n' w' h1 h2 h3
      | outgrown => exact hk _ fr' H' n' w' h1 h2 h3
    | block id c =>
      refine wp_block (ih c fr H n _ L w R _ hl hw fun e fr' H' n' w' h1 h2 h3 => ?_)
      cases e with
      | exit id' =>
        simp only at h1
        simp only [Exit.inBlock]
        cases hid : Nat.beq id' id with
        | true =>
          rw [hid] at h1
          rw [if_pos (Nat.eq_of_beq_eq_true hid)]
          exact hk _ fr' H' n' w' h1 h2 h3
        | false =>
          rw [hid] at h1
          rw [if_neg (fun h => by rw [h, Nat.beq_refl] at hid; cases hid)]
          exact hk _ fr' H' n' w' h1 h2 h3
      | normal => exact hk _ fr' H' n' w' h1 h2 h3
      | goto l => exact hk _ fr' H' n' w' h1 h2 h3
      | ret => exact hk _ fr' H' n' w' h1 h2 h3
      | panic ch => exact hk _ fr' H' n' w' h1 h2 h3
      | outgrown => exact hk _ fr' H' n' w' h1 h2 h3
    | scope c =>
      refine wp_scope_straight (ih c fr H n _ L w R _ hl hw fun e fr' H' n' w' h1 h2 h3 => ?_)
      cases e with
      | goto l => exact h1.elim
      | exit id => exact hk _ fr' H' n' w' h1 h2 h3
      | normal => exact hk _ fr' H' n' w' h1 h2 h3
      | ret => exact hk _ fr' H' n' w' h1 h2 h3
      | panic ch => exact hk _ fr' H' n' w' h1 h2 h3
      | outgrown => exact hk _ fr' H' n' w' h1 h2 h3
    | cond x a b =>
      simp only at hl
      split at hl
      · rename_i hx
        exact wp_cond_true (by rw [opnd_den, hx]; rfl) (ih a fr H n K L w R Q hl hw hk)
      · rename_i hx
        exact wp_cond_false (by rw [opnd_den, hx]; rfl) (ih b fr H n K L w R Q hl hw hk)
      · rename_i c hx
        obtain ⟨h1, h2⟩ := hl
        refine wp_cond_split (t := c) (by rw [opnd_den, hx]; rfl) (fun hc => ih a fr H n K L w R Q (h1 hc) hw hk) (fun hc => ih b fr H n K L w R Q (h2 hc) hw hk)
      · exact hl.elim
    | loop c =>
      cases s with
      | true => exact hl w R Q hw hk
      | false => exact wp_loop_rounds g (loopE_ok (fun fr H n K' w Q' h1 h2 h3 => ih c fr H n K' L w R Q' h1 h2 h3) g fr H n w hl hw hk)
    | region id ops draw =>
      cases draw with
      | true =>
        simp only [cond_true] at hl
        cases hns : Region.noSelect ops with
        | false => rw [hns] at hl; exact hl.elim
        | true =>
          rw [hns] at hl
          simp only [cond_true] at hl
          have hwd : Holds { w with drawn := w.drawn + 1 } (hden H * R) := hw
          refine wp_region_noPanic ?_
          refine wp_region_held (S := heldS (gathered P ops.toList fr H)) hm ?_
          have := evAny_ok hn hcall (ops := ops.toList) (S := gathered P ops.toList fr H) (by simpa using hns) (Q := NoPanic Q) (fun c a a' w h => h) _ _ _ fr H n _ hl hwd (gathered_held hwd)
            (fun fr' H' n' w' k1 k2 k3 => hk .normal fr' H' n' w' k1 k2 ⟨k3.os, k3.tape, k3.output, k3.size⟩)
          simpa using this
      | false =>
        simp only [cond_false] at hl
        refine wp_region_list ?_
        have := evList_ok hn hcall (ops := ops.toList) ops.toList fr H n w hl hw (Q := Q) (hk .normal)
        simpa using this
    | rangeFunc f p a b => exact hl.elim
    | refuse why => exact hl.elim
/-- Only what can be come to from the names at hand, in the order in which it is met. -/
def ptrsOf : List SC → List Nat
  | [] => []
  | .ptr nm _ _ :: r => nm :: ptrsOf r
  | .slice nm _ _ _ _ :: r => nm :: ptrsOf r
  | .func _ a c :: r => a.map (·.1) ++ (c.map (·.1) ++ ptrsOf r)
  | _ :: r => ptrsOf r
def gc : Nat → List Nat → SH A → SH A
  | 0, _, _ => []
  | _, [], _ => []
  | g + 1, nm :: r, H =>
    match find H nm with
    | some (b, o) => (nm, b, o) :: gc g (r ++ (match o with | .cells l _ => ptrsOf l | _ => [])) (del H nm)
    | none => gc g r H
theorem gc_holds {w : World} : ∀ (g : Nat) (l : List Nat) (H : SH A) (R : HProp), Holds w (hden H * R) → ∃ R', Holds w (hden (gc g l H) * (R' * R))
  | 0, l, H, R, h => ⟨hden H, h.cast (by unfold gc hden; rw [star_empl])⟩
  | g + 1, [], H, R, h => ⟨hden H, h.cast (by unfold gc hden; rw [star_empl])⟩
  | g + 1, nm :: r, H, R, h => by
    unfold gc
    split
    · rename_i b o hf
      obtain ⟨R', h'⟩ := gc_holds g _ (del H nm) (o.den b * R) ((focus hf h).cast (by ac_rfl))
      exact ⟨R', h'.cast (by show _ = (o.den b * hden (gc g _ (del H nm))) * (R' * R); ac_rfl)⟩
    · exact gc_holds g r H R h
def namesV : SV → List Nat
  | .a x => ptrsOf x.cells
  | .tup l => l.flatMap fun x => ptrsOf x.cells
def fin (roots : List Nat) : Kont A := fun v H n => .done (.val v (gc 1000 (roots ++ namesV v) H) n)
/-- **What the evaluator finds of a function holds of its calls.** -/
def evF (P : Program) [Fast P] (Γ : Ctr A) (g : Nat) (s : Bool) (f : Nat) (args : List SV) (H : SH A) (n : Nat) (roots : List Nat) : Tree A :=
  match Fast.func P f with
  | some fn =>
    match fn.body with
    | some c => evCode P Γ g s c (args ++ List.replicate (fn.ntmps - args.length) .un) H n (ends P fn (fin roots))
    | none => .fail
  | none => .fail
theorem evF_ok {P : Program} [Fast P] (hn : NoGos P) (hm : P.follows .mixedOrders = true) {Γ : Ctr A} (hΓ : CtrOk P Γ) {g f : Nat} {s : Bool} {args : List SV} {H : SH A} {n : Nat} {roots : List Nat} {t : Tree A} (ht : evF P Γ g s f args H n roots = t) {L : Leaf A → Prop} (hl : t.Leads P L)
    {w : World} {R : HProp} (hw : Holds w (hden H * R)) : Calls P f (args.map SV.den).toArray w fun e w' => ∃ v H' n', L (.val v H' n') ∧ e = .returned v.den ∧ Holds w' (hden H' * R) ∧ Strm w w' := by
  subst ht
  have hno : CtrOk P (fun _ _ _ _ _ => none : Ctr A) := fun f args H n k t h => by cases h
  refine callBy_ok (Γ := fun _ _ _ _ _ => none) hno (evCode_ok hn hm hΓ g s) f args H n (fin roots) L hl w R hw _ fun v H' n' w' h1 h2 h3 => ?_
  obtain ⟨R', h4⟩ := gc_holds 1000 (roots ++ namesV v) H' R h2
  exact ⟨v, _, n', h1, rfl, (h4.cast (by show _ = R' * (hden _ * R); ac_rfl)).drop, h3⟩
end
end Go.Proofs.Ytmmpnjcmaodkcaa.Ev
