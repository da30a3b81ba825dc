/- What is proved: terms of a second evaluator (deep ones: known to the evaluator as such), what they denote, when a truth among them is known. Conditions: stated with each lemma. -/
import Derived.Test.YtfapicccijbanaaSep
import Derived.Laws.StructEq
import Derived.Laws.Cells
import Derived.WalkSpells
import Derived.OrdersHeld
import Derived.Deep.RegionHeld3
namespace Go.Proofs.Ytfapicccijbanaa.Ef
open Go Go.Proofs.Ytfapicccijbanaa.Sep
set_option linter.unusedVariables false
set_option linter.unusedSimpArgs false
set_option linter.unusedSectionVars false

inductive U (Ω : Type) where
  | i (n : Int)
  | b (x : Bool)
  | p (x y : U Ω)
  | o (x : Ω)
section
variable {Ω : Type}
def U.int : U Ω → Int
  | .i n => n
  | _ => 0
def U.bool : U Ω → Bool
  | .b x => x
  | _ => false
def U.fst : U Ω → U Ω
  | .p x _ => x
  | x => x
def U.snd : U Ω → U Ω
  | .p _ y => y
  | x => x
end
/-- What the symbols mean, and what an object of a kind holds: kind, state, inner blocks, block. -/
class Interp where
  Ω : Type
  f1 : Nat → U Ω → U Ω
  f2 : Nat → U Ω → U Ω → U Ω
  ob : Nat → U Ω → List Nat → Nat → HProp
/-- What the variables have: numbers, truths, states; values of cells. -/
class Vars [Interp] where
  ρ : Nat → U Interp.Ω
  ω : Nat → Value
  ad : Int → Option Addr
inductive F1 where
  | not | fst | snd
  | wrap (k : IntKind)
  | usr (n : Nat)
inductive F2 where
  | add | sub | mul | rem | eq | lt | beq | and | pair
  | quo (k : IntKind) | shl (k : IntKind) | shr (k : IntKind) | band (k : IntKind) | bor (k : IntKind) | bxor (k : IntKind) | bclr (k : IntKind)
  | sel
  | usr (n : Nat)
inductive Tm where
  | lit (n : Int)
  | bl (b : Bool)
  | var (i : Nat)
  | a1 (f : F1) (x : Tm)
  | a2 (f : F2) (x y : Tm)
def bitsV (op : BinOp) (k : IntKind) (x y : Int) : Int :=
  match op with
  | .and => k.wrap (BitVec.ofInt k.bits x &&& BitVec.ofInt k.bits y).toNat
  | .or => k.wrap (BitVec.ofInt k.bits x ||| BitVec.ofInt k.bits y).toNat
  | .xor => k.wrap (BitVec.ofInt k.bits x ^^^ BitVec.ofInt k.bits y).toNat
  | _ => k.wrap (BitVec.ofInt k.bits x &&& ~~~ BitVec.ofInt k.bits y).toNat
def shlV (k : IntKind) (x y : Int) : Int := k.wrap (x * 2 ^ (min y.toNat k.bits))
def shrV (k : IntKind) (x y : Int) : Int := x.fdiv (2 ^ (min y.toNat k.bits))
section
variable [Interp] [Vars]
def F1.den (f : F1) (x : U Interp.Ω) : U Interp.Ω :=
  match f with
  | .not => .b (!x.bool)
  | .fst => x.fst
  | .snd => x.snd
  | .wrap k => .i (k.wrap x.int)
  | .usr n => Interp.f1 n x
def F2.den (f : F2) (x y : U Interp.Ω) : U Interp.Ω :=
  match f with
  | .add => .i (x.int + y.int)
  | .sub => .i (x.int - y.int)
  | .mul => .i (x.int * y.int)
  | .rem => .i (x.int.tmod y.int)
  | .eq => .b (x.int == y.int)
  | .lt => .b (decide (x.int < y.int))
  | .beq => .b (x.bool == y.bool)
  | .and => .b (x.bool && y.bool)
  | .pair => .p x y
  | .quo k => .i (k.wrap (x.int.tdiv y.int))
  | .shl k => .i (shlV k x.int y.int)
  | .shr k => .i (shrV k x.int y.int)
  | .band k => .i (bitsV .and k x.int y.int)
  | .bor k => .i (bitsV .or k x.int y.int)
  | .bxor k => .i (bitsV .xor k x.int y.int)
  | .bclr k => .i (bitsV .andNot k x.int y.int)
  | .sel => bif x.bool then y.fst else y.snd
  | .usr n => Interp.f2 n x y
def Tm.den : Tm → U Interp.Ω
  | .lit n => .i n
  | .bl b => .b b
  | .var i => Vars.ρ i
  | .a1 f x => f.den x.den
  | .a2 f x y => f.den x.den y.den
def Tm.v (t : Tm) : Int := t.den.int
def Tm.tv (t : Tm) : Bool := t.den.bool
theorem lt_tv (x y : Tm) : (Tm.a2 .lt x y).tv = decide (x.v < y.v) := rfl
theorem eq_tv (x y : Tm) : (Tm.a2 .eq x y).tv = (x.v == y.v) := rfl
theorem lit_v (n : Int) : (Tm.lit n).v = n := rfl
end

/-! ### when two terms are one -/
def kCode : IntKind → Nat
  | .i8 => 0 | .i16 => 1 | .i32 => 2 | .i64 => 3 | .u8 => 4 | .u16 => 5 | .u32 => 6 | .u64 => 7
theorem kCode_inj {j k : IntKind} (h : Nat.beq (kCode j) (kCode k) = true) : j = k := by cases j <;> cases k <;> first | rfl | cases h
def F1.code : F1 → Nat
  | .not => 0 | .fst => 1 | .snd => 2
  | .wrap k => 3 + kCode k
  | .usr n => 20 + n
def F2.code : F2 → Nat
  | .add => 0 | .sub => 1 | .mul => 2 | .rem => 3 | .eq => 4 | .lt => 5 | .beq => 6 | .and => 7 | .pair => 8 | .sel => 9
  | .quo k => 10 + kCode k | .shl k => 20 + kCode k | .shr k => 30 + kCode k | .band k => 40 + kCode k | .bor k => 50 + kCode k | .bxor k => 60 + kCode k | .bclr k => 70 + kCode k
  | .usr n => 100 + n
theorem kCode_lt (k : IntKind) : kCode k < 8 := by cases k <;> decide
theorem F1.code_inj {f g : F1} (h0 : Nat.beq f.code g.code = true) : f = g := by
  have h := Nat.eq_of_beq_eq_true h0
  clear h0
  cases f <;> cases g <;> simp only [F1.code] at h <;> first
    | rfl
    | (exfalso; omega)
    | (rename_i k j; have := kCode_lt k; have := kCode_lt j; have : j = k := kCode_inj (by rw [Nat.beq_eq]; omega); subst this; rfl)
    | (rename_i k j; have : j = k := by omega
       subst this; rfl)
    | (rename_i k; have := kCode_lt k; exfalso; omega)
    | (rename_i k j; have := kCode_lt k; exfalso; omega)
    | (rename_i k j; have := kCode_lt j; exfalso; omega)
theorem F2.code_inj {f g : F2} (h0 : Nat.beq f.code g.code = true) : f = g := by
  have h := Nat.eq_of_beq_eq_true h0
  clear h0
  cases f <;> cases g <;> simp only [F2.code] at h <;> first
    | rfl
    | (exfalso; omega)
    | (rename_i k j; have := kCode_lt k; have := kCode_lt j; have : j = k := kCode_inj (by rw [Nat.beq_eq]; omega); subst this; rfl)
    | (rename_i k j; have : j = k := by omega
       subst this; rfl)
    | (rename_i k j; have := kCode_lt k; have := kCode_lt j; exfalso; omega)
    | (rename_i k; have := kCode_lt k; exfalso; omega)
    | (rename_i k j; have := kCode_lt k; exfalso; omega)
    | (rename_i k j; have := kCode_lt j; exfalso; omega)
def intBeq : Int → Int → Bool
  | .ofNat a, .ofNat b => Nat.beq a b
  | .negSucc a, .negSucc b => Nat.beq a b
  | _, _ => false
theorem intBeq_eq {a b : Int} (h : intBeq a b = true) : a = b := by
  cases a <;> cases b <;> simp only [intBeq] at h <;> first | (rw [Nat.eq_of_beq_eq_true h]) | cases h
theorem intBeq_iff (a b : Int) : intBeq a b = (a == b) := by
  cases a <;> cases b <;> simp only [intBeq] <;> rw [Bool.eq_iff_iff] <;> simp [Nat.beq_eq] <;> omega
def boolBeq : Bool → Bool → Bool
  | true, true => true
  | false, false => true
  | _, _ => false
theorem boolBeq_eq {a b : Bool} (h : boolBeq a b = true) : a = b := by cases a <;> cases b <;> first | rfl | cases h
def Tm.beq : Tm → Tm → Bool
  | .lit a, .lit b => intBeq a b
  | .bl a, .bl b => boolBeq a b
  | .var i, .var j => Nat.beq i j
  | .a1 f x, .a1 g y => bif Nat.beq f.code g.code then Tm.beq x y else false
  | .a2 f x x', .a2 g y y' => bif Nat.beq f.code g.code then (bif Tm.beq x y then Tm.beq x' y' else false) else false
  | _, _ => false
theorem Tm.beq_eq : ∀ {s t : Tm}, Tm.beq s t = true → s = t
  | .lit a, t, h => by
    cases t <;> simp only [Tm.beq] at h <;> first | (rw [intBeq_eq h]) | cases h
  | .bl a, t, h => by
    cases t <;> simp only [Tm.beq] at h <;> first | (rw [boolBeq_eq h]) | cases h
  | .var a, t, h => by
    cases t <;> simp only [Tm.beq] at h <;> first | (rw [Nat.eq_of_beq_eq_true h]) | cases h
  | .a1 f x, t, h => by
    cases t <;> simp only [Tm.beq] at h <;> try cases h
    rename_i g y
    cases hc : Nat.beq f.code g.code with
    | false => rw [hc] at h; cases h
    | true =>
      rw [hc] at h
      rw [F1.code_inj hc, Tm.beq_eq h]
  | .a2 f x x', t, h => by
    cases t <;> simp only [Tm.beq] at h <;> try cases h
    rename_i g y y'
    cases hc : Nat.beq f.code g.code with
    | false => rw [hc] at h; cases h
    | true =>
      rw [hc] at h
      simp only [cond_true] at h
      cases hx : Tm.beq x y with
      | false => rw [hx] at h; cases h
      | true =>
        rw [hx] at h
        rw [F2.code_inj hc, Tm.beq_eq hx, Tm.beq_eq h]

/-! ### terms that are known fold -/
def mkAdd : Tm → Tm → Tm
  | .lit a, .lit b => .lit (a + b)
  | .a2 .add x (.lit a), .lit b => .a2 .add x (.lit (a + b))
  | x, .lit b => bif intBeq b 0 then x else .a2 .add x (.lit b)
  | .lit a, y => bif intBeq a 0 then y else .a2 .add y (.lit a)
  | .a2 .add x (.lit a), y => .a2 .add (.a2 .add x y) (.lit a)
  | x, y => .a2 .add x y
def mkSub : Tm → Tm → Tm
  | .lit a, .lit b => .lit (a - b)
  | .a2 .add x (.lit a), .lit b => bif intBeq a b then x else .a2 .add x (.lit (a - b))
  | x, .lit b => bif intBeq b 0 then x else .a2 .add x (.lit (-b))
  | x, y => .a2 .sub x y
def mkMul : Tm → Tm → Tm
  | .lit a, .lit b => .lit (a * b)
  | .a2 .add x (.lit a), .lit b => .a2 .add (.a2 .mul x (.lit b)) (.lit (a * b))
  | x, .lit b => bif intBeq b 1 then x else .a2 .mul x (.lit b)
  | .lit a, y => bif intBeq a 1 then y else .a2 .mul y (.lit a)
  | x, y => .a2 .mul x y
def mkNot : Tm → Tm
  | .bl b => .bl (!b)
  | .a1 .not (.a2 .eq x y) => .a2 .eq x y
  | .a1 .not (.a2 .lt x y) => .a2 .lt x y
  | .a1 .not (.a2 .and x y) => .a2 .and x y
  | x => .a1 .not x
def mkEq : Tm → Tm → Tm
  | .lit a, .lit b => .bl (intBeq a b)
  | .a2 .add x (.lit a), .lit b => .a2 .eq x (.lit (b - a))
  | .lit a, y => .a2 .eq y (.lit a)
  | x, y => bif Tm.beq x y then .bl true else .a2 .eq x y
def mkLt : Tm → Tm → Tm
  | .lit a, .lit b => .bl (decide (a < b))
  | .a2 .add x (.lit a), .lit b => .a2 .lt x (.lit (b - a))
  | .lit b, .a2 .add x (.lit a) => .a2 .lt (.lit (b - a)) x
  | .a2 .add x (.lit a), .a2 .add y (.lit b) => bif Tm.beq x y then .bl (decide (a < b)) else .a2 .lt (.a2 .add x (.lit a)) (.a2 .add y (.lit b))
  | .a2 .add x (.lit a), y => bif Tm.beq x y then .bl (decide (a < 0)) else .a2 .lt (.a2 .add x (.lit a)) y
  | x, .a2 .add y (.lit b) => bif Tm.beq x y then .bl (decide (0 < b)) else .a2 .lt x (.a2 .add y (.lit b))
  | x, y => bif Tm.beq x y then .bl false else .a2 .lt x y
def mkBeq : Tm → Tm → Tm
  | .bl a, .bl b => .bl (boolBeq a b)
  | x, .bl true => x
  | .bl true, y => y
  | x, .bl false => mkNot x
  | .bl false, y => mkNot y
  | x, y => bif Tm.beq x y then .bl true else .a2 .beq x y
def mkAnd : Tm → Tm → Tm
  | .bl true, y => y
  | .bl false, _ => .bl false
  | x, .bl true => x
  | x, .bl false => .bl false
  | x, y => .a2 .and x y
section
variable [Interp] [Vars]
theorem mkAdd_v (x y : Tm) : (mkAdd x y).v = x.v + y.v := by
  unfold mkAdd
  split <;> first
    | rfl
    | (simp only [Tm.v, Tm.den, F2.den, U.int]; omega)
    | (rw [Bool.cond_eq_ite]; split
       · rename_i h; have h1 := intBeq_eq h; subst h1; simp [Tm.v, Tm.den, U.int]
       · simp only [Tm.v, Tm.den, F2.den, U.int]; first | done | omega)
theorem mkSub_v (x y : Tm) : (mkSub x y).v = x.v - y.v := by
  unfold mkSub
  split <;> first
    | rfl
    | (simp only [Tm.v, Tm.den, F2.den, U.int]; omega)
    | (rw [Bool.cond_eq_ite]; split
       · rename_i h; have h1 := intBeq_eq h; subst h1; simp only [Tm.v, Tm.den, F2.den, U.int]; omega
       · simp only [Tm.v, Tm.den, F2.den, U.int]; first | done | omega)
theorem mkMul_v (x y : Tm) : (mkMul x y).v = x.v * y.v := by
  unfold mkMul
  split <;> first
    | rfl
    | exact (Int.add_mul _ _ _).symm
    | (rw [Bool.cond_eq_ite]; split
       · rename_i h; have h1 := intBeq_eq h; subst h1; simp [Tm.v, Tm.den, U.int]
       · simp only [Tm.v, Tm.den, F2.den, U.int]; first | done | rfl | rw [Int.mul_comm])
theorem mkNot_tv (x : Tm) : (mkNot x).tv = !x.tv := by
  unfold mkNot
  split
  · rfl
  · simp [Tm.tv, Tm.den, F1.den, F2.den, U.bool]
  · simp [Tm.tv, Tm.den, F1.den, F2.den, U.bool]
  · simp [Tm.tv, Tm.den, F1.den, F2.den, U.bool]
  · rfl
theorem mkEq_tv (x y : Tm) : (mkEq x y).tv = (x.v == y.v) := by
  unfold mkEq
  split <;> first
    | exact intBeq_iff _ _
    | (simp only [Tm.tv, Tm.den, F2.den, U.bool, U.int, Tm.v]
       rw [Bool.eq_iff_iff]; simp; omega)
    | (rw [Bool.cond_eq_ite]; split
       · rename_i h; have h1 := Tm.beq_eq h; subst h1; simp [Tm.tv, Tm.den, U.bool]
       · rfl)
theorem lt_sub1 (p q r : Int) : decide (p < r - q) = decide (p + q < r) := by rw [decide_eq_decide]; omega
theorem lt_sub2 (p q r : Int) : decide (r - q < p) = decide (r < p + q) := by rw [decide_eq_decide]; omega
theorem lt_sub3 (p q r : Int) : decide (q < r) = decide (p + q < p + r) := by rw [decide_eq_decide]; omega
theorem lt_sub4 (p q : Int) : decide (q < 0) = decide (p + q < p) := by rw [decide_eq_decide]; omega
theorem lt_sub5 (p q : Int) : decide (0 < q) = decide (p < p + q) := by rw [decide_eq_decide]; omega
theorem mkLt_tv (x y : Tm) : (mkLt x y).tv = decide (x.v < y.v) := by
  unfold mkLt
  split <;> first
    | rfl
    | exact lt_sub1 _ _ _
    | exact lt_sub2 _ _ _
    | (rw [Bool.cond_eq_ite]; split
       · rename_i h; have h1 := Tm.beq_eq h; subst h1
         first
           | exact lt_sub3 _ _ _
           | exact lt_sub4 _ _
           | exact lt_sub5 _ _
           | simp [Tm.tv, Tm.den, U.bool]
       · rfl)
theorem mkBeq_tv (x y : Tm) : (mkBeq x y).tv = (x.tv == y.tv) := by
  unfold mkBeq
  split <;> first
    | (rename_i a b; cases a <;> cases b <;> rfl)
    | (rw [mkNot_tv]; simp [Tm.tv, Tm.den, U.bool]; done)
    | (simp [Tm.tv, Tm.den, U.bool]; done)
    | (rw [Bool.cond_eq_ite]; split
       · rename_i h; have h1 := Tm.beq_eq h; subst h1; simp [Tm.tv, Tm.den, U.bool]
       · rfl)
theorem mkAnd_tv (x y : Tm) : (mkAnd x y).tv = (x.tv && y.tv) := by
  unfold mkAnd
  split <;> simp [Tm.tv, Tm.den, F2.den, U.bool]
end
end Go.Proofs.Ytfapicccijbanaa.Ef
