/- What is proved: a small evaluator of the model's operations over a heap that is described block by block, and that each operation without memory does as it says. Conditions: stated with each lemma. -/
import Derived.Test.YtfapicccijbanaaSep
import Derived.Laws.StructEq
import Derived.Laws.Cells
import Derived.WalkSpells
import Derived.OrdersHeld
import Derived.Deep.RegionHeld3
namespace Go.Proofs.Ytfapicccijbanaa.Ev
open Go Go.Proofs.Ytfapicccijbanaa.Sep
set_option linter.unusedVariables false
set_option linter.unusedSimpArgs false

/-- A whole number that is known, or not. -/
inductive SI where
  | lit (n : Int)
  | sym (x : Int)
def SI.v : SI → Int
  | .lit n => n
  | .sym x => x
inductive SB where
  | lit (b : Bool)
  | sym (x : Bool)
def SB.v : SB → Bool
  | .lit b => b
  | .sym x => x
inductive SN where
  | lit (n : Nat)
  | sym (x : Nat)
def SN.v : SN → Nat
  | .lit n => n
  | .sym x => x
/-- What one cell holds; a pointer bears its block's name and its block. -/
inductive SC where
  | int (k : IntKind) (n : SI)
  | bool (b : SB)
  | ptr (nm b off : Nat)
  | nil
  | slice (nm b off : Nat) (len cap : SN)
  | snil
  | func (f : Nat) (first cap : List (Nat × Nat × Nat))
  | nilF
  | raw (v : Value)
abbrev sI (x : Int) : SC := .int .i64 (.sym x)
abbrev lI (x : Int) : SC := .int .i64 (.lit x)
abbrev sU (x : Int) : SC := .int .u64 (.sym x)
abbrev lU (x : Int) : SC := .int .u64 (.lit x)
abbrev sB (x : Bool) : SC := .bool (.sym x)
abbrev lB (x : Bool) : SC := .bool (.lit x)
def pden (p : Nat × Nat × Nat) : Value := .pointer (some ⟨p.2.1, p.2.2, none⟩)
def SC.den : SC → Value
  | .int k n => .int k n.v
  | .bool b => .bool b.v
  | .ptr _ b o => .pointer (some ⟨b, o, none⟩)
  | .nil => .pointer none
  | .slice _ b o l c => .slice (some ⟨b, o, none⟩) l.v c.v
  | .snil => .slice none 0 0
  | .func f a c => .func (.func f) (a.map pden).toArray (c.map pden).toArray
  | .nilF => .nilFunc
  | .raw v => v
def dens (l : List SC) : Array Value := (l.map SC.den).toArray
inductive SA where
  | one (c : SC)
  | agg (l : List SC)
def SA.den : SA → Value
  | .one c => c.den
  | .agg l => .agg (dens l)
inductive SV where
  | a (x : SA)
  | tup (l : List SA)
def SV.den : SV → Value
  | .a x => x.den
  | .tup l => .tuple (l.map SA.den).toArray
abbrev SV.c (c : SC) : SV := .a (.one c)
abbrev SV.un : SV := .tup []
theorem un_den : SV.un.den = undef := rfl
def fden (fr : List SV) : Array Value := (fr.map SV.den).toArray
def SC.of : Value → SC
  | .int k n => .int k (.lit n)
  | .bool b => .bool (.lit b)
  | .pointer none => .nil
  | .slice none 0 0 => .snil
  | .nilFunc => .nilF
  | v => .raw v
theorem SC.den_of (v : Value) : (SC.of v).den = v := by
  unfold SC.of
  split <;> rfl
def SV.of : Value → SV
  | .agg cs => .a (.agg (cs.toList.map SC.of))
  | .tuple cs => bif cs.size == 0 then .un else .c (.raw (.tuple cs))
  | v => .c (SC.of v)
theorem dens_of (cs : Array Value) : dens (cs.toList.map SC.of) = cs := by
  unfold dens
  rw [List.map_map, show SC.den ∘ SC.of = id from funext SC.den_of, List.map_id]
theorem SV.den_of (v : Value) : (SV.of v).den = v := by
  unfold SV.of
  split
  · simp [SV.den, SA.den, dens_of]
  · rename_i cs
    by_cases h : cs.size = 0
    · have : cs = #[] := by simpa using h
      subst this; rfl
    · have : (cs.size == 0) = false := by simpa using h
      rw [this]; rfl
  · exact SC.den_of v
/-- An operand's value. -/
def opnd (fr : List SV) : Operand → SV
  | .tmp t => fr.getD t .un
  | .const v => SV.of v
  | .global g => .c (.raw (.pointer (some ⟨g, 0, none⟩)))
  | .func f => .c (.func f [] [])
theorem opnd_den (fr : List SV) (d : List Deferred) (x : Operand) : (⟨fden fr, d⟩ : Act).eval x = (opnd fr x).den := by
  cases x with
  | tmp t =>
    simp only [Act.eval, opnd, fden]
    rw [Array.getD_eq_getD_getElem?, List.getD_eq_getElem?_getD]
    simp only [List.getElem?_toArray, List.getElem?_map]
    cases fr[t]? <;> rfl
  | const v => exact (SV.den_of v).symm
  | global g => rfl
  | func f => rfl
def fput (fr : List SV) (d : Option Tmp) (v : SV) : List SV :=
  match d with
  | some d => fr.set d v
  | none => fr
theorem fput_den (fr : List SV) (ds : List Deferred) (d : Option Tmp) (v : SV) : (⟨fden fr, ds⟩ : Act).put d v.den = ⟨fden (fput fr d v), ds⟩ := by
  cases d with
  | none => rfl
  | some d => simp [Act.put, fput, fden, List.map_set]

/-! ### types, functions: a program's tables, quick to look into -/
class Fast (P : Program) where
  und : Nat → Option TypeDesc
  size : Nat → Option Nat
  zero : Nat → Option Value
  func : Nat → Option Func
  plain : Nat → Bool
  guard : Nat → Bool
  und_ok : ∀ {t d}, und t = some d → P.underlying t = some d
  size_ok : ∀ {t n}, size t = some n → ∃ i, P.info? t = some i ∧ i.size = n
  zero_ok : ∀ {t v}, zero t = some v → ∃ i, P.info? t = some i ∧ i.zero = some v
  func_ok : ∀ {f fn}, func f = some fn → P.funcs[f]? = some fn
  plain_ok : ∀ {t}, plain t = true → P.stoodInHeld t = false
  guard_ok : ∀ {t}, guard t = true → P.eqGuardType P.depth t = false
def tyAgg (P : Program) [Fast P] (t : TypeId) : Option Bool :=
  match Fast.und P t with
  | some (.struct _) => some true
  | some (.array _ _) => some true
  | some _ => some false
  | none => none
def tySize (P : Program) [Fast P] (t : TypeId) : Option Nat := Fast.size P t
theorem run_underlying' {P : Program} [Fast P] {t : TypeId} {d : TypeDesc} (h : Fast.und P t = some d) (w : World) : (underlying t).run P w = .ok d w := by
  unfold underlying
  simp [Fast.und_ok h]
theorem run_isAgg' {P : Program} [Fast P] {t : TypeId} {b : Bool} (h : tyAgg P t = some b) (w : World) : (isAgg t).run P w = .ok b w := by
  unfold tyAgg at h
  unfold isAgg
  cases hu : Fast.und P t with
  | none => rw [hu] at h; simp at h
  | some d =>
    rw [hu] at h
    simp only [Sem.run_bind, run_underlying' hu, Result.andThen_ok]
    cases d <;> simp at h <;> subst h <;> rfl
theorem run_sizeOf' {P : Program} [Fast P] {t : TypeId} {n : Nat} (h : tySize P t = some n) (w : World) : (sizeOf t).run P w = .ok n w := by
  obtain ⟨i, hi, hn⟩ := Fast.size_ok (P := P) h
  unfold sizeOf typeInfo
  simp only [Sem.run_bind, run_program, Result.andThen_ok]
  rw [hi]
  simp [hn]
theorem run_zeroValue' {P : Program} [Fast P] {t : TypeId} {v : Value} (h : Fast.zero P t = some v) (w : World) : (zeroValue t).run P w = .ok v w := by
  obtain ⟨i, hi, hv⟩ := Fast.zero_ok (P := P) h
  unfold zeroValue typeInfo
  simp [hi, hv]
def tyPart (P : Program) [Fast P] (t : TypeId) (l : List SC) (off : Nat) : Option SA :=
  match tyAgg P t, tySize P t with
  | some true, some n => some (.agg ((l.drop off).take n))
  | some false, _ => (l[off]?).map .one
  | _, _ => none
theorem run_part' {P : Program} [Fast P] {t : TypeId} {l : List SC} {off : Nat} {x : SA} (h : tyPart P t l off = some x) (w : World) : (part t (dens l) off).run P w = .ok x.den w := by
  unfold tyPart at h
  unfold part
  split at h
  · rename_i n ha hs
    simp only [Option.some.injEq] at h
    subst h
    simp only [Sem.run_bind, run_isAgg' ha, Result.andThen_ok, if_true, run_sizeOf' hs, Sem.run_pure, SA.den]
    congr 1
    simp [dens, List.extract_eq_take_drop, List.map_take, List.map_drop]
  · rename_i ha
    simp only [Sem.run_bind, run_isAgg' ha, Result.andThen_ok, Bool.false_eq_true, if_false]
    cases hl : l[off]? with
    | none => rw [hl] at h; simp at h
    | some c =>
      rw [hl] at h
      simp at h
      subst h
      have : (dens l)[off]? = some c.den := by simp [dens, hl]
      simp [this, SA.den]
  · simp at h

/-! ### whole numbers -/
def inR (k : IntKind) (n : Int) : Prop := k.min ≤ n ∧ n ≤ k.max
theorem wrap_in {k : IntKind} {n : Int} (h : inR k n) : k.wrap n = n := by
  unfold inR at h
  cases k <;> simp [IntKind.min, IntKind.max, IntKind.signed, IntKind.bits] at h <;> simp [IntKind.wrap, IntKind.signed, IntKind.bits] <;> omega
def bitsV (op : BinOp) (k : IntKind) (x y : Int) : Int :=
  match op with
  | .and => k.wrap (BitVec.ofInt k.bits x &&& BitVec.ofInt k.bits y).toNat
  | .or => k.wrap (BitVec.ofInt k.bits x ||| BitVec.ofInt k.bits y).toNat
  | .xor => k.wrap (BitVec.ofInt k.bits x ^^^ BitVec.ofInt k.bits y).toNat
  | _ => k.wrap (BitVec.ofInt k.bits x &&& ~~~ BitVec.ofInt k.bits y).toNat
/-- A sum, difference, product: of a kind with a sign it has to stay in the kind's range. -/
def arith (k : IntKind) (f : Int → Int → Int) (x y : SI) : List Prop × SC :=
  match x, y with
  | .lit a, .lit b => ([], .int k (.lit (k.wrap (f a b))))
  | x, y => bif k.signed then ([inR k (f x.v y.v)], .int k (.sym (f x.v y.v))) else ([], .int k (.sym (k.wrap (f x.v y.v))))
theorem arith_den (k : IntKind) (f : Int → Int → Int) (x y : SI) (h : ∀ p ∈ (arith k f x y).1, p) : (arith k f x y).2.den = .int k (k.wrap (f x.v y.v)) := by
  unfold arith at *
  split
  · rfl
  · rename_i x y hne
    cases hs : k.signed with
    | true =>
      rw [hs] at h
      simp only [cond_true] at h
      have h1 := h _ (List.mem_singleton.2 rfl)
      simp only [cond_true]
      rw [wrap_in h1]
      rfl
    | false => simp [hs]; rfl
def cmpB (f : Int → Int → Bool) (x y : SI) : SC :=
  match x, y with
  | .lit a, .lit b => .bool (.lit (f a b))
  | x, y => .bool (.sym (f x.v y.v))
theorem cmpB_den (f : Int → Int → Bool) (x y : SI) : (cmpB f x y).den = .bool (f x.v y.v) := by
  unfold cmpB; split <;> rfl
def intI (k : IntKind) (f : Int → Int → Int) (x y : SI) : SC :=
  match x, y with
  | .lit a, .lit b => .int k (.lit (f a b))
  | x, y => .int k (.sym (f x.v y.v))
theorem intI_den (k : IntKind) (f : Int → Int → Int) (x y : SI) : (intI k f x y).den = .int k (f x.v y.v) := by
  unfold intI; split <;> rfl
def nonZero : SI → List Prop
  | .lit n => bif n == 0 then [False] else []
  | .sym x => [x ≠ 0]
theorem nonZero_spec {y : SI} (h : ∀ p ∈ nonZero y, p) : y.v ≠ 0 := by
  cases y with
  | lit n =>
    intro h0
    have : n = 0 := h0
    subst this
    exact h False (by simp [nonZero])
  | sym x => have h1 : x ≠ 0 := h _ (List.mem_singleton.2 rfl); exact h1
def nonNeg : SI → List Prop
  | .lit n => bif decide (n < 0) then [False] else []
  | .sym x => [0 ≤ x]
theorem nonNeg_spec {y : SI} (h : ∀ p ∈ nonNeg y, p) : ¬ y.v < 0 := by
  cases y with
  | lit n =>
    intro h0
    have h0' : n < 0 := h0
    exact h False (by simp [nonNeg, h0'])
  | sym x => have h1 : 0 ≤ x := h _ (List.mem_singleton.2 rfl); show ¬ x < 0; omega
def sameK (j k : IntKind) : Bool :=
  match j, k with
  | .i8, .i8 | .i16, .i16 | .i32, .i32 | .i64, .i64 | .u8, .u8 | .u16, .u16 | .u32, .u32 | .u64, .u64 => true
  | _, _ => false
theorem sameK_spec {j k : IntKind} (h : sameK j k = true) : j = k := by cases j <;> cases k <;> first | rfl | cases h
def shlV (k : IntKind) (x y : Int) : Int := k.wrap (x * 2 ^ (min y.toNat k.bits))
def shrV (k : IntKind) (x y : Int) : Int := x.fdiv (2 ^ (min y.toNat k.bits))
def binInt (op : BinOp) (k : IntKind) (x : SI) (k' : IntKind) (y : SI) : Option (List Prop × SC) :=
  match op with
  | .shl => some (nonNeg y, intI k (shlV k) x y)
  | .shr => some (nonNeg y, intI k (shrV k) x y)
  | op =>
    bif !sameK k k' then none else
    match op with
    | .add => some (arith k (· + ·) x y)
    | .sub => some (arith k (· - ·) x y)
    | .mul => some (arith k (· * ·) x y)
    | .quo => some (nonZero y, intI k (fun a b => k.wrap (a.tdiv b)) x y)
    | .rem => some (nonZero y, intI k Int.tmod x y)
    | .and => some ([], intI k (bitsV .and k) x y)
    | .or => some ([], intI k (bitsV .or k) x y)
    | .xor => some ([], intI k (bitsV .xor k) x y)
    | .andNot => some ([], intI k (bitsV .andNot k) x y)
    | .eql => some ([], cmpB (fun a b => a == b) x y)
    | .neq => some ([], cmpB (fun a b => a != b) x y)
    | .lss => some ([], cmpB (fun a b => decide (a < b)) x y)
    | .leq => some ([], cmpB (fun a b => decide (a ≤ b)) x y)
    | .gtr => some ([], cmpB (fun a b => decide (a > b)) x y)
    | .geq => some ([], cmpB (fun a b => decide (a ≥ b)) x y)
    | _ => none
theorem run_binInt {P : Program} {op : BinOp} {k k' : IntKind} {x y : SI} {ps : List Prop} {c : SC} (t : TypeId) (h : binInt op k x k' y = some (ps, c)) (hp : ∀ p ∈ ps, p) (w : World) :
    (binOp op t (.int k x.v) (.int k' y.v)).run P w = .ok c.den w := by
  by_cases hk : k = k'
  · subst hk
    have hs : sameK k k = true := by cases k <;> rfl
    have key : ∀ {op : BinOp} {f : Int → Int → Int}, some (arith k f x y) = some (ps, c) → c.den = .int k (k.wrap (f x.v y.v)) := by
      intro op f h
      simp only [Option.some.injEq] at h
      have := arith_den k f x y (by rw [h]; exact hp)
      rw [h] at this; exact this
    cases op <;> simp [binInt, hs] at h
    case add => rw [show c.den = _ from key (op := .add) (by rw [h])]; simp [binOp, Op.intArith]
    case sub => rw [show c.den = _ from key (op := .sub) (by rw [h])]; simp [binOp, Op.intArith]
    case mul => rw [show c.den = _ from key (op := .mul) (by rw [h])]; simp [binOp, Op.intArith]
    case quo =>
      obtain ⟨rfl, rfl⟩ := h
      have := nonZero_spec hp
      simp [binOp, Op.intDiv, this, intI_den]
    case rem =>
      obtain ⟨rfl, rfl⟩ := h
      have := nonZero_spec hp
      simp [binOp, Op.intDiv, this, intI_den]
    case shl =>
      obtain ⟨rfl, rfl⟩ := h
      have := nonNeg_spec hp
      simp [binOp, Op.shift, this, intI_den, shlV, shrV]
    case shr =>
      obtain ⟨rfl, rfl⟩ := h
      have := nonNeg_spec hp
      simp [binOp, Op.shift, this, intI_den, shlV, shrV]
    all_goals
      obtain ⟨rfl, rfl⟩ := h
      first
        | (rw [intI_den]; simp [binOp, Op.intBits, bitsV]; done)
        | (rw [cmpB_den]; simp [binOp, Op.intCmp]; done)
  · have hs : sameK k k' = false := by
      cases hh : sameK k k' with
      | false => rfl
      | true => exact absurd (sameK_spec hh) hk
    cases op <;> simp [binInt, hs] at h
    case shl =>
      obtain ⟨rfl, rfl⟩ := h
      have := nonNeg_spec hp
      simp [binOp, Op.shift, this, intI_den, shlV, shrV]
    case shr =>
      obtain ⟨rfl, rfl⟩ := h
      have := nonNeg_spec hp
      simp [binOp, Op.shift, this, intI_den, shlV, shrV]
end Go.Proofs.Ytfapicccijbanaa.Ev
