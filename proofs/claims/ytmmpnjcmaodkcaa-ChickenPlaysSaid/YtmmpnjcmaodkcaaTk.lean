/- What is proved: what the second evaluator's symbols mean, what its closed objects hold; contracts of the functions on words and on memories. Conditions: stated with each contract. -/
import Derived.Test.YtmmpnjcmaodkcaaM2
import Derived.Test.YtmmpnjcmaodkcaaEvNum
import Derived.Test.YtmmpnjcmaodkcaaRefB
import Derived.Test.YtmmpnjcmaodkcaaFrz
import Derived.Test.YtmmpnjcmaodkcaaClone
namespace Go.Proofs.Ytmmpnjcmaodkcaa.Ef
open Go Go.RowKit Go.Proofs.Ytmmpnjcmaodkcaa.Sep Go.Proofs.Ytmmpnjcmaodkcaa.Num Go.Proofs.Ytmmpnjcmaodkcaa.Mem
open Go.Proofs.Ytmmpnjcmaodkcaa.Ev (Fast topAt topVer topNext topNext_rng)
set_option maxRecDepth 100000
set_option linter.unusedVariables false
set_option linter.unusedSimpArgs false
set_option linter.unusedSectionVars false
/-- A memory; what lay in memory ahead of the call, below a block; a row of numbers. -/
inductive Om where
  | mem (M : MS)
  | old (w : World) (B : Nat)
  | row (l : List Int)
abbrev UM := U Om
def memOf : UM → MS
  | .o (.mem M) => M
  | _ => ⟨[], 0, 0, 0⟩
/-- Symbols of what becomes of a memory by a step of a machine. -/
def isC (n : Nat) : Bool := bif Nat.blt 299 n then Nat.blt n 400 else false
theorem isC_ok {n : Nat} (h : isC n = true) : 300 ≤ n ∧ n < 400 := by
  unfold isC at h
  rw [Bool.cond_eq_ite] at h
  split at h
  · rename_i h1
    exact ⟨Nat.le_of_ble_eq_true h1, Nat.le_of_ble_eq_true h⟩
  · cases h
/-- What a statement's own text adds: symbols from 100 on, objects from 10 on. -/
class Ext where
  e1 : Nat → UM → UM
  e2 : Nat → UM → UM → UM
  eo : Nat → UM → List Nat → Nat → HProp
  g1 : Nat → Rg
  g2 : Nat → Rg
  g1_ok : ∀ n u, (g1 n).has (e1 n u).int
  g2_ok : ∀ n u v, (g2 n).has (e2 n u v).int
  c_mem : ∀ n u v, isC n = true → e2 n u v = .o (.mem (memOf (e2 n u v)))
  c_len : ∀ n u v, isC n = true → (memOf (e2 n u v)).ws.length = (memOf u).ws.length
  c_ws : ∀ n u u' v, isC n = true → (memOf u).ws = (memOf u').ws → (memOf (e2 n u v)).ws = (memOf (e2 n u' v)).ws
def listOf : UM → List Int
  | .o (.row l) => l
  | _ => []
def ci64 (x : Int) : Int := (x + 9223372036854775808) % 18446744073709551616 - 9223372036854775808
theorem ci64_in {x : Int} (h : -9223372036854775808 ≤ x ∧ x ≤ 9223372036854775807) : ci64 x = x := by unfold ci64; omega
/-- A word laid into a memory, without an access. -/
def _root_.Go.Proofs.Ytmmpnjcmaodkcaa.Mem.MS.poke (M : MS) (a x : Int) : MS := if (M.load a) % 18446744073709551616 = x then M else M.put a x
/-- A memory of n words. -/
def _root_.Go.Proofs.Ytmmpnjcmaodkcaa.Mem.MS.sized (M : MS) (n : Nat) : MS := { M with ws := (M.ws ++ zeros n).take n }
def cl64 (x : Int) : Int := x % 18446744073709551616
theorem cl64_in {x : Int} (h : 0 ≤ x ∧ x < 18446744073709551616) : cl64 x = x := by unfold cl64; omega
def hvOf (x : UM) : HV := ⟨x.fst.int, x.snd.fst.int, x.snd.snd.fst.int, x.snd.snd.snd.fst.int, x.snd.snd.snd.snd.fst.int, x.snd.snd.snd.snd.snd.fst.int, x.snd.snd.snd.snd.snd.snd.int⟩
def b1 [Ext] (n : Nat) (x : UM) : UM :=
  if n = 1 then .i (vK x.int) else if n = 2 then .i (vN (cl64 x.int)) else if n = 3 then .i (HV.of x.int).st else if n = 4 then .i (HV.of x.int).cl else
  if n = 5 then .i (HV.of x.int).ct else if n = 6 then .i (HV.of x.int).mr else if n = 7 then .i (HV.of x.int).gr else if n = 8 then .i (HV.of x.int).tg else
  if n = 9 then .i (HV.of x.int).lk else if n = 10 then .i (topAt x.int) else if n = 11 then .i (topVer x.int) else if n = 12 then .i (hvOf x).w else
  if n = 13 then .o (.mem (MS.new x.int.toNat)) else if n = 14 then .i ((memOf x).ws.length : Int) else if n = 15 then .i ((memOf x).tr : Int) else if n = 16 then .i ((memOf x).cnt : Int) else if n = 31 then .i (ci64 x.int) else if n = 32 then .i (if x.int < 0 then 0 else x.int) else if n = 33 then .i (frz (cl64 x.int)) else if n = 34 then .i (thw (cl64 x.int)) else if n = 35 then .i (fzB (cl64 x.int)) else if 1000 < n then .i (kindOf x.int (n - 1000 : Nat)) else Ext.e1 n x
def b2 [Ext] (n : Nat) (x y : UM) : UM :=
  if n = 1 then .i (sW x.int y.int) else if n = 2 then .i (hMoved x.int y.int) else if n = 3 then .i (topNext x.int y.int) else
  if n = 20 then .i (cl64 ((memOf x).load y.int)) else if n = 21 then .o (.mem ((memOf x).loaded y.int)) else if n = 22 then .o (.mem ((memOf x).store y.fst.int y.snd.int)) else
  if n = 23 then .b ((memOf x).casOk y.fst.int y.snd.int) else if n = 24 then .o (.mem ((memOf x).cas y.fst.int y.snd.fst.int y.snd.snd.int)) else
  if n = 26 then .o (.mem ((memOf x).poke y.fst.int y.snd.int)) else if n = 27 then .o (.mem ((memOf x).sized y.int.toNat)) else if n = 28 then .o (.mem { memOf x with tr := y.int.toNat }) else if n = 29 then .o (.mem { memOf x with cnt := y.int.toNat }) else if n = 30 then .i (ci64 ((listOf x).getD y.int.toNat 0)) else if n = 25 then .o (.mem { memOf x with ws := (memOf y).ws }) else Ext.e2 n x y
/-- A memory of so many accesses at most. -/
def MemO (T : Nat) (u : UM) (b : Nat) : HProp := andP ((memOf u.fst).ok ∧ ((memOf u.fst).n : Int) ≤ u.snd.int ∧ ((memOf u.fst).cnt : Int) ≤ u.snd.int ∧ ((memOf u.fst).tr : Int) ≤ u.snd.int) (MemP T b (memOf u.fst))
/-- A memory's clone, of so many accesses at most. -/
def CloneO (u : UM) (b : Nat) : HProp := andP ((memOf u.fst).ok ∧ ((memOf u.fst).n : Int) ≤ u.snd.int ∧ ((memOf u.fst).cnt : Int) ≤ u.snd.int ∧ ((memOf u.fst).tr : Int) ≤ u.snd.int) (CloneP b (memOf u.fst))
/-- The same, with the words' block told. -/
def MemQ (T mb wb : Nat) (M : MS) : HProp := exP fun tv => exP fun xs => (pt mb (.cells #[.slice (some ⟨wb, 0, none⟩) M.ws.length M.ws.length, .int .i64 (M.cnt : Int), .int .i64 (M.tr : Int), tv] T (0, 0)) * (pt wb (.cells (W M.ws) 38 (0, 0)) * Row 128 3 tv M.n xs))
def MemOQ (T : Nat) (u : UM) (wb b : Nat) : HProp := andP ((memOf u.fst).ok ∧ ((memOf u.fst).n : Int) ≤ u.snd.int ∧ ((memOf u.fst).cnt : Int) ≤ u.snd.int ∧ ((memOf u.fst).tr : Int) ≤ u.snd.int) (MemQ T b wb (memOf u.fst))
def MemX (T : Nat) (u : UM) (ns : List Nat) (b : Nat) : HProp :=
  match ns with
  | [wb] => MemOQ T u wb b
  | _ => MemO T u b
/-- A row of whole numbers in what lay there before: row, offset, how many elements, cells an element. -/
structure RowOk (w : World) (B : Nat) (l : List Int) (off len st : Int) (b : Nat) : Prop where
  o : 0 ≤ off
  n : (l.length : Int) = len * st
  lo : b < B ∨ len = 0
  c : ∀ j, j < l.length → w.cell? ⟨b, off.toNat + j, none⟩ = some (.int .i64 (l.getD j 0))
  r : ∀ x ∈ l, -9223372036854775808 ≤ x ∧ x ≤ 9223372036854775807
def rowsOk (w : World) (B : Nat) : UM → List Nat → Prop
  | _, [] => True
  | u, b :: r => RowOk w B (listOf u.fst.fst) u.fst.snd.fst.int u.fst.snd.snd.fst.int u.fst.snd.snd.snd.int b ∧ rowsOk w B u.snd r
def oldOf : UM → Option (World × Nat)
  | .o (.old w B) => some (w, B)
  | _ => none
def OldO (u : UM) (ns : List Nat) : HProp := exP fun q : World × Nat => andP (oldOf u.fst = some q ∧ rowsOk q.1 q.2 u.snd ns) (old q.2 q.1)
/-- Symbols of what becomes of a machine. -/
def isX (n : Nat) : Bool := bif Nat.blt 199 n then Nat.blt n 1000 else false
/-- What closed pairs of machines add: symbols, objects from 100 on. -/
class Xtra where
  x1 : Nat → UM → UM
  x2 : Nat → UM → UM → UM
  xo : Nat → UM → Nat → HProp
  c_mem : ∀ n u v, isC n = true → x2 n u v = .o (.mem (memOf (x2 n u v)))
  c_len : ∀ n u v, isC n = true → (memOf (x2 n u v)).ws.length = (memOf u).ws.length
  c_ws : ∀ n u u' v, isC n = true → (memOf u).ws = (memOf u').ws → (memOf (x2 n u v)).ws = (memOf (x2 n u' v)).ws
@[reducible] def xtraId : Xtra := ⟨fun _ x => x, fun _ x _ => .o (.mem (memOf x)), fun _ _ _ => Sep.emp, fun _ _ _ _ => rfl, fun _ _ _ _ => rfl, fun _ _ _ _ _ h => h⟩
@[reducible] def withX (E : Ext) (X : Xtra) : Ext where
  e1 n u := bif isX n then X.x1 n u else E.e1 n u
  e2 n u v := bif isC n then X.x2 n u v else E.e2 n u v
  eo k u ns b := bif Nat.blt 99 k then X.xo k u b else E.eo k u ns b
  g1 n := bif isX n then .top else E.g1 n
  g2 n := bif isC n then .top else E.g2 n
  g1_ok n u := by
    cases h : isX n
    · exact E.g1_ok n u
    · exact Rg.top_has _
  g2_ok n u v := by
    cases h : isC n
    · exact E.g2_ok n u v
    · exact Rg.top_has _
  c_mem n u v h := by rw [h]; exact X.c_mem n u v h
  c_len n u v h := by rw [h]; exact X.c_len n u v h
  c_ws n u u' v h := by rw [h]; exact X.c_ws n u u' v h
instance instInterpOfExt [Ext] : Interp where
  Ω := Om
  f1 := b1
  f2 := b2
  ob k u ns b := if k = 1 then MemX 101 u ns b else if k = 2 then MemX 50 u ns b else if k = 9 then OldO u ns else if k = 3 then CloneO u b else Ext.eo k u ns b
theorem b2_C [Ext] {n : Nat} (h : isC n = true) (u v : UM) : b2 n u v = Ext.e2 n u v := by
  obtain ⟨h1, h2⟩ := isC_ok h
  unfold b2
  rw [if_neg (by omega), if_neg (by omega), if_neg (by omega), if_neg (by omega), if_neg (by omega), if_neg (by omega), if_neg (by omega), if_neg (by omega), if_neg (by omega), if_neg (by omega), if_neg (by omega), if_neg (by omega), if_neg (by omega), if_neg (by omega)]
def rg (a b : Int) : Rg := ⟨some a, some b⟩
theorem rg_has {a b n : Int} (h : a ≤ n ∧ n ≤ b) : (rg a b).has n := ⟨fun x hx => by simp [rg] at hx; omega, fun x hx => by simp [rg] at hx; omega⟩
def br1 [Ext] (n : Nat) : Rg :=
  bif Nat.blt 1000 n then rg 0 ((n : Int) - 1001) else bif Nat.blt 100 n then Ext.g1 n else
  match n with
  | 1 => rg 0 3 | 2 => rg 0 2305843009213693951 | 3 => rg 0 3 | 4 => rg 0 3 | 5 => rg 0 7 | 6 => rg 0 1 | 7 => rg 0 1 | 8 => rg 0 7 | 9 => rg 0 4095 | 10 => rg 0 4095 | 11 => rg 0 1099511627775 | 12 => rg 0 16777215
  | 13 => .top | 14 => ⟨some 0, none⟩ | 15 => ⟨some 0, none⟩ | 16 => ⟨some 0, none⟩ | 31 => rg (-9223372036854775808) 9223372036854775807 | 32 => ⟨some 0, none⟩ | 33 => rg 0 18446744073709551615 | 34 => rg 0 18446744073709551615 | 35 => rg 0 1
  | n => Ext.g1 n
def br2 [Ext] (n : Nat) : Rg :=
  match n with
  | 1 => rg 0 18446744073709551615 | 2 => .top | 3 => rg 0 18446744073709551615 | 20 => rg 0 18446744073709551615 | 21 => .top | 22 => .top | 23 => .top | 24 => .top | 25 => .top | 26 => .top | 27 => .top | 28 => .top | 29 => .top | 30 => rg (-9223372036854775808) 9223372036854775807
  | n => Ext.g2 n
theorem b1_rg [Ext] (n : Nat) (u : UM) : (br1 n).has (b1 n u).int := by
  unfold br1
  rw [blt_iff, Bool.cond_eq_ite]
  by_cases h : 1000 < n
  · rw [if_pos (by simpa using h)]
    unfold b1
    rw [if_neg (by omega), if_neg (by omega), if_neg (by omega), if_neg (by omega), if_neg (by omega), if_neg (by omega), if_neg (by omega), if_neg (by omega), if_neg (by omega), if_neg (by omega), if_neg (by omega), if_neg (by omega), if_neg (by omega), if_neg (by omega), if_neg (by omega), if_neg (by omega), if_neg (by omega), if_neg (by omega), if_neg (by omega), if_neg (by omega), if_neg (by omega), if_pos h]
    refine rg_has ?_
    have h1 := kindOf_lo u.int ((n - 1000 : Nat) : Int) (by omega)
    have h2 := kindOf_hi u.int ((n - 1000 : Nat) : Int) (by omega)
    simp only [U.int] at h1 h2 ⊢
    omega
  · rw [if_neg (by simpa using h)]
    rw [blt_iff, Bool.cond_eq_ite]
    by_cases h' : 100 < n
    · rw [if_pos (by simpa using h')]
      unfold b1
      rw [if_neg (by omega), if_neg (by omega), if_neg (by omega), if_neg (by omega), if_neg (by omega), if_neg (by omega), if_neg (by omega), if_neg (by omega), if_neg (by omega), if_neg (by omega), if_neg (by omega), if_neg (by omega), if_neg (by omega), if_neg (by omega), if_neg (by omega), if_neg (by omega), if_neg (by omega), if_neg (by omega), if_neg (by omega), if_neg (by omega), if_neg (by omega), if_neg h]
      exact Ext.g1_ok _ _
    rw [if_neg (by simpa using h')]
    have f := HV.of_fits u.int
    obtain ⟨f1, f2, f3, f4, f5, f6, f7⟩ := f
    split
    · refine rg_has ?_; show 0 ≤ vK _ ∧ vK _ ≤ 3; unfold vK; omega
    · refine rg_has ?_; show 0 ≤ vN (cl64 _) ∧ vN (cl64 _) ≤ _; unfold vN cl64; omega
    · refine rg_has ?_; show 0 ≤ (HV.of u.int).st ∧ (HV.of u.int).st ≤ 3; omega
    · refine rg_has ?_; show 0 ≤ (HV.of u.int).cl ∧ (HV.of u.int).cl ≤ 3; omega
    · refine rg_has ?_; show 0 ≤ (HV.of u.int).ct ∧ (HV.of u.int).ct ≤ 7; omega
    · refine rg_has ?_; show 0 ≤ (HV.of u.int).mr ∧ (HV.of u.int).mr ≤ 1; omega
    · refine rg_has ?_; show 0 ≤ (HV.of u.int).gr ∧ (HV.of u.int).gr ≤ 1; omega
    · refine rg_has ?_; show 0 ≤ (HV.of u.int).tg ∧ (HV.of u.int).tg ≤ 7; omega
    · refine rg_has ?_; show 0 ≤ (HV.of u.int).lk ∧ (HV.of u.int).lk ≤ 4095; omega
    · refine rg_has ?_; show 0 ≤ topAt _ ∧ topAt _ ≤ 4095; unfold topAt; omega
    · refine rg_has ?_; show 0 ≤ topVer _ ∧ topVer _ ≤ _; unfold topVer; omega
    · refine rg_has ?_; show 0 ≤ (hvOf u).w ∧ (hvOf u).w ≤ _; have a := HV.w_lo (hvOf u); have b := HV.w_hi (hvOf u); omega
    · exact Rg.top_has _
    · exact ⟨fun a ha => by simp at ha; subst ha; show (0 : Int) ≤ (((memOf u).ws.length : Nat) : Int); omega, fun a ha => by cases ha⟩
    · exact ⟨fun a ha => by simp at ha; subst ha; show (0 : Int) ≤ (((memOf u).tr : Nat) : Int); omega, fun a ha => by cases ha⟩
    · exact ⟨fun a ha => by simp at ha; subst ha; show (0 : Int) ≤ (((memOf u).cnt : Nat) : Int); omega, fun a ha => by cases ha⟩
    · refine rg_has ?_; show -9223372036854775808 ≤ ci64 _ ∧ ci64 _ ≤ _; unfold ci64; omega
    · refine ⟨fun a ha => ?_, fun a ha => by cases ha⟩
      simp at ha; subst ha
      show (0 : Int) ≤ (if u.int < 0 then 0 else u.int)
      split <;> omega
    · refine rg_has ?_; have a := frz_rng (x := cl64 u.int) (by unfold cl64; omega); show 0 ≤ frz _ ∧ frz _ ≤ _; omega
    · refine rg_has ?_; have a := thw_rng (x := cl64 u.int) (by unfold cl64; omega); show 0 ≤ thw _ ∧ thw _ ≤ _; omega
    · refine rg_has ?_; exact fzB_rng _
    · rename_i n h1 h2 h3 h4 h5 h6 h7 h8 h9 h10 h11 h12 h13 h14 h15 h16 h31 h32 h33 h34 h35
      unfold b1
      simp only [if_neg h31, if_neg h32, if_neg h33, if_neg h34, if_neg h35, if_neg h1, if_neg h2, if_neg h3, if_neg h4, if_neg h5, if_neg h6, if_neg h7, if_neg h8, if_neg h9, if_neg h10, if_neg h11, if_neg h12, if_neg h13, if_neg h14, if_neg h15, if_neg h16, if_neg h]
      exact Ext.g1_ok _ _
theorem b2_rg [Ext] (n : Nat) (u v : UM) : (br2 n).has (b2 n u v).int := by
  unfold br2
  split
  · refine rg_has ?_; show 0 ≤ sW _ _ ∧ sW _ _ ≤ _; have a := sW_lo u.int v.int; have b := sW_hi u.int v.int; omega
  · exact Rg.top_has _
  · refine rg_has ?_; show 0 ≤ topNext _ _ ∧ topNext _ _ ≤ _; have a := topNext_rng u.int v.int; omega
  · refine rg_has ?_; show 0 ≤ cl64 _ ∧ cl64 _ ≤ _; unfold cl64; omega
  · exact Rg.top_has _
  · exact Rg.top_has _
  · exact Rg.top_has _
  · exact Rg.top_has _
  · exact Rg.top_has _
  · exact Rg.top_has _
  · exact Rg.top_has _
  · exact Rg.top_has _
  · exact Rg.top_has _
  · refine rg_has ?_; show _ ≤ ci64 _ ∧ ci64 _ ≤ _; unfold ci64; omega
  · rename_i n h1 h2 h3 h4 h5 h6 h7 h8 h9 h10 h11 h12 h29 h25
    unfold b2
    simp only [if_neg h1, if_neg h2, if_neg h3, if_neg h4, if_neg h5, if_neg h6, if_neg h7, if_neg h8, if_neg h9, if_neg h10, if_neg h11, if_neg h12, if_neg h29, if_neg h25]
    exact Ext.g2_ok _ _ _
/-! ### terms of these symbols, folded -/
abbrev i1 (n : Nat) (x : Tm) : Tm := .a1 (.usr n) x
abbrev i2 (n : Nat) (x y : Tm) : Tm := .a2 (.usr n) x y
/-- Symbols that have a definition by others. -/
class Exp [Ext] where
  ex : Tm → Option Tm
  ex_ok : ∀ [Vars] x y, ex x = some y → y.den = x.den
  eqx : (Tm → Rg) → Tm → Tm → Option Tm
  eqx_ok : ∀ [Vars] (r : Tm → Rg) x y t, (∀ u, (r u).has u.v) → eqx r x y = some t → t.tv = (x.v == y.v)
@[reducible] def exp0 [Ext] : Exp := ⟨fun _ => none, fun _ _ h => (by cases h), fun _ _ _ => none, fun _ _ _ _ _ h => (by cases h)⟩
def mkFst : Tm → Tm
  | .a2 .pair x _ => x
  | t => .a1 .fst t
def mkSnd : Tm → Tm
  | .a2 .pair _ y => y
  | t => .a1 .snd t
/-- A function of one number: of a known one at once. -/
def m1 (n : Nat) (f : Int → Int) : Tm → Tm
  | .lit a => .lit (f a)
  | x => i1 n x
def m2 (n : Nat) (f : Int → Int → Int) (x y : Tm) : Tm :=
  match x, y with
  | .lit a, .lit b => .lit (f a b)
  | x, y => i2 n x y
def mlen : Tm → Option Int
  | .a1 (.usr 13) (.lit n) => some n
  | .a2 (.usr 21) M _ => mlen M
  | .a2 (.usr 22) M _ => mlen M
  | .a2 (.usr 24) M _ => mlen M
  | .a2 (.usr 26) M _ => mlen M
  | .a2 (.usr 27) _ (.lit n) => some n
  | .a2 (.usr 28) M _ => mlen M
  | .a2 (.usr 29) M _ => mlen M
  | .a2 (.usr 25) _ X => mlen X
  | .a2 (.usr n) M _ => bif isC n then mlen M else none
  | _ => none
def inLen (M : Tm) (a : Int) : Bool :=
  match mlen M with
  | some n => intLe 0 a && intLe (a + 1) n
  | none => false
/-- How many traps a memory has had. -/
def trT : Tm → Option Int
  | .a1 (.usr 13) _ => some 0
  | .a2 (.usr 21) M (.lit a) => bif inLen M a then trT M else none
  | .a2 (.usr 22) M (.a2 .pair (.lit a) _) => bif inLen M a then trT M else none
  | .a2 (.usr 26) M _ => trT M
  | .a2 (.usr 27) M _ => trT M
  | .a2 (.usr 28) _ (.lit n) => bif intLe 0 n then some n else none
  | .a2 (.usr 29) M _ => trT M
  | .a2 (.usr 25) M _ => trT M
  | _ => none
/-- How many accesses it has had. -/
def cntT : Tm → Option Int
  | .a1 (.usr 13) _ => some 0
  | .a2 (.usr 21) M _ => match cntT M with
    | some n => some (n + 1)
    | none => none
  | .a2 (.usr 22) M _ => match cntT M with
    | some n => some (n + 1)
    | none => none
  | .a2 (.usr 26) M _ => cntT M
  | .a2 (.usr 29) _ (.lit n) => bif intLe 0 n then some n else none
  | .a2 (.usr 25) M _ => cntT M
  | _ => none
def mkFrz : Tm → Tm
  | .lit a => .lit (frz (cl64 a))
  | .a1 (.usr 33) w => i1 33 w
  | .a1 (.usr 34) w => i1 33 w
  | x => i1 33 x
def mkThw : Tm → Tm
  | .lit a => .lit (thw (cl64 a))
  | .a1 (.usr 33) (.a2 (.usr 1) k n) => i2 1 k n
  | .a1 (.usr 33) w => i1 34 w
  | .a1 (.usr 34) w => i1 34 w
  | .a2 (.usr 1) k n => i2 1 k n
  | x => i1 34 x
def mkFzB : Tm → Tm
  | .lit a => .lit (fzB (cl64 a))
  | .a1 (.usr 33) _ => .lit 1
  | .a1 (.usr 34) _ => .lit 0
  | .a2 (.usr 1) _ _ => .lit 0
  | x => i1 35 x
/-- A known function of known numbers. -/
def bk1 (n : Nat) (x : Tm) : Tm :=
  match x with
  | .lit a =>
    bif Nat.blt 1000 n then .lit (kindOf a (n - 1000 : Nat)) else
    match n with
    | 1 => .lit (vK a) | 2 => .lit (vN (cl64 a)) | 3 => .lit (HV.of a).st | 4 => .lit (HV.of a).cl | 5 => .lit (HV.of a).ct | 6 => .lit (HV.of a).mr | 7 => .lit (HV.of a).gr | 8 => .lit (HV.of a).tg | 9 => .lit (HV.of a).lk
    | 10 => .lit (topAt a) | 11 => .lit (topVer a)
    | 33 => .lit (frz (cl64 a)) | 34 => .lit (thw (cl64 a)) | 35 => .lit (fzB (cl64 a))
    | n => i1 n (.lit a)
  | .a2 .pair (.lit a) (.a2 .pair (.lit b) (.a2 .pair (.lit c) (.a2 .pair (.lit d) (.a2 .pair (.lit e) (.a2 .pair (.lit f) (.lit g)))))) =>
    match n with
    | 12 => .lit (HV.mk a b c d e f g).w
    | n => i1 n x
  | x =>
    match n with
    | 33 => mkFrz x | 34 => mkThw x | 35 => mkFzB x
    | n => i1 n x
def isLit64 : Tm → Bool
  | .lit a => intLe 0 a && intLe a 18446744073709551615
  | .a2 (.usr 1) _ _ => true
  | .a2 (.usr 3) _ _ => true
  | .a2 (.usr 20) _ _ => true
  | .a1 (.usr 12) _ => true
  | .a1 (.usr 33) _ => true
  | .a1 (.usr 34) _ => true
  | _ => false
def loadX (a : Tm) : Tm → Tm
  | .a2 (.usr 21) M _ => loadX a M
  | .a2 (.usr 29) M _ => loadX a M
  | .a2 (.usr 22) M (.a2 .pair (.lit b) x) =>
    match a with
    | .lit c => bif intBeq b c then (bif inLen M c && isLit64 x then x else i2 20 (i2 22 M (.a2 .pair (.lit b) x)) a) else loadX a M
    | a => i2 20 (i2 22 M (.a2 .pair (.lit b) x)) a
  | .a2 (.usr 26) M (.a2 .pair (.lit b) x) =>
    match a with
    | .lit c => bif intBeq b c then (bif inLen M c && isLit64 x then x else i2 20 (i2 26 M (.a2 .pair (.lit b) x)) a) else loadX a M
    | a => i2 20 (i2 26 M (.a2 .pair (.lit b) x)) a
  | .a1 (.usr 13) n => .lit 0
  | .a2 (.usr 25) _ X => loadX a X
  | M => i2 20 M a
/-- Surely a memory. -/
def isM : Tm → Bool
  | .a1 (.usr 13) _ => true
  | .a2 (.usr 21) _ _ => true
  | .a2 (.usr 22) _ _ => true
  | .a2 (.usr 24) _ _ => true
  | .a2 (.usr 26) _ _ => true
  | .a2 (.usr 27) _ _ => true
  | .a2 (.usr 28) _ _ => true
  | .a2 (.usr 29) _ _ => true
  | .a2 (.usr 25) _ _ => true
  | .a2 (.usr n) _ _ => isC n
  | _ => false
/-! whether two memories have the same words -/
def nfw : Tm → Tm
  | .a2 (.usr 21) M _ => nfw M
  | .a2 (.usr 22) M p => .a2 (.usr 22) (nfw M) p
  | .a2 (.usr 24) M p => .a2 (.usr 24) (nfw M) p
  | .a2 (.usr 26) M p => .a2 (.usr 26) (nfw M) p
  | .a2 (.usr 27) M n => .a2 (.usr 27) (nfw M) n
  | .a2 (.usr 28) M _ => nfw M
  | .a2 (.usr 29) M _ => nfw M
  | .a2 (.usr 25) _ X => nfw X
  | .a2 (.usr n) M x => bif isC n then .a2 (.usr n) (nfw M) x else .a2 (.usr n) M x
  | M => M
def is64 : Tm → Bool
  | .a2 .sel _ (.a2 .pair x y) => bif is64 x then is64 y else false
  | x => isLit64 x
/-- All its words are words. -/
def okM : Tm → Bool
  | .a1 (.usr 13) _ => true
  | .a2 (.usr 21) M _ => okM M
  | .a2 (.usr 22) M (.a2 .pair _ x) => bif is64 x then okM M else false
  | .a2 (.usr 28) M _ => okM M
  | .a2 (.usr 29) M _ => okM M
  | .a2 (.usr 25) _ X => okM X
  | _ => false
def wsAll (x y : Tm) : Nat → Bool
  | 0 => true
  | n + 1 => bif Tm.beq (loadX (.lit n) x) (loadX (.lit n) y) then wsAll x y n else false
def wsSame (x y : Tm) : Bool :=
  bif Tm.beq (nfw x) (nfw y) then true else
  bif okM x && okM y then
    match mlen x, mlen y with
    | some n, some m => bif intBeq n m && intLe 0 n then wsAll x y n.toNat else false
    | _, _ => false
  else false
def bk2 (n : Nat) (x y : Tm) : Tm :=
  match n with
  | 1 => m2 1 sW x y
  | 2 => m2 2 hMoved x y
  | 3 => m2 3 topNext x y
  | 20 => loadX y x
  | 26 => match y with
    | .a2 .pair (.lit a) v => bif isM x && isLit64 v && Tm.beq v (loadX (.lit a) x) then x else i2 26 x (.a2 .pair (.lit a) v)
    | y => i2 26 x y
  | 27 => match y with
    | .lit n => match mlen x with
      | some m => bif intBeq m n && (intLe 0 n && isM x) then x else i2 27 x y
      | none => i2 27 x y
    | y => i2 27 x y
  | 28 => match y with
    | .lit n => match trT x with
      | some m => bif intBeq m n && isM x then x else i2 28 x y
      | none => i2 28 x y
    | y => i2 28 x y
  | 25 => bif isM x && wsSame x y then x else i2 25 x y
  | n => i2 n x y
section
variable [Ext]
variable [Vars]
theorem fst_den (x : Tm) : (mkFst x).den = x.den.fst := by unfold mkFst; split <;> rfl
theorem snd_den (x : Tm) : (mkSnd x).den = x.den.snd := by unfold mkSnd; split <;> rfl
theorem snd_v (x : Tm) : (mkSnd x).v = x.den.snd.int := by unfold Tm.v; rw [snd_den]
theorem m1_v {n : Nat} {f : Int → Int} (h : ∀ x : UM, (b1 n x).int = f x.int) (x : Tm) : (m1 n f x).v = f x.v := by
  unfold m1; split
  · rfl
  · exact h _
theorem m2_v {n : Nat} {f : Int → Int → Int} (h : ∀ x y : UM, (b2 n x y).int = f x.int y.int) (x y : Tm) : (m2 n f x y).v = f x.v y.v := by
  unfold m2; split
  · rfl
  · exact h _ _
theorem load_v (M a : Tm) : (i2 20 M a).v = cl64 ((memOf M.den).load a.v) := rfl
theorem put_len (M : MS) (a x : Int) : (M.put a x).ws.length = M.ws.length := by
  unfold MS.put; split <;> simp
theorem poke_len (M : MS) (a x : Int) : (M.poke a x).ws.length = M.ws.length := by
  unfold MS.poke; split
  · rfl
  · exact put_len _ _ _
theorem poke_same {M : MS} {a x : Int} (h : M.load a % 18446744073709551616 = x) : M.poke a x = M := by unfold MS.poke; rw [if_pos h]
theorem sized_same {M : MS} {n : Nat} (h : M.ws.length = n) : M.sized n = M := by
  unfold MS.sized; subst h; simp
theorem mlen_ok : ∀ {M : Tm} {n : Int}, mlen M = some n → 0 ≤ n → ((memOf M.den).ws.length : Int) = n
  | .lit _, _, h, _ => by cases h
  | .bl _, _, h, _ => by cases h
  | .var _, _, h, _ => by cases h
  | .a1 f x, n, h, h0 => by
    unfold mlen at h
    split at h
    · rename_i k e
      cases e
      simp only [Option.some.injEq] at h
      subst h
      show (((MS.new k.toNat).ws.length : Nat) : Int) = k
      simp [MS.new, zeros]
      omega
    · rename_i e; cases e
    · rename_i e; cases e
    · rename_i e; cases e
    · rename_i e; cases e
    · rename_i e; cases e
    · rename_i e; cases e
    · rename_i e; cases e
    · rename_i e; cases e
    · rename_i e; cases e
    · cases h
  | .a2 f x y, n, h, h0 => by
    unfold mlen at h
    split at h
    · rename_i e; cases e
    · rename_i M a e
      cases e
      exact mlen_ok (M := x) h h0
    · rename_i M a e
      cases e
      have := mlen_ok (M := x) h h0
      rw [← this]
      show (((memOf x.den).store y.den.fst.int y.den.snd.int).ws.length : Int) = _
      unfold MS.store MS.put MS.acc
      split <;> simp
    · rename_i M a e
      cases e
      have := mlen_ok (M := x) h h0
      rw [← this]
      show (((memOf x.den).cas y.den.fst.int y.den.snd.fst.int y.den.snd.snd.int).ws.length : Int) = _
      unfold MS.cas MS.acc
      split <;> simp
    · rename_i M a e
      cases e
      have := mlen_ok (M := x) h h0
      rw [← this]
      show (((memOf x.den).poke y.den.fst.int y.den.snd.int).ws.length : Int) = _
      rw [poke_len]
    · rename_i M k e
      cases e
      simp only [Option.some.injEq] at h
      subst h
      show ((((memOf x.den).sized k.toNat).ws.length : Nat) : Int) = k
      simp [MS.sized, zeros]
      omega
    · rename_i M k e
      cases e
      exact mlen_ok (M := x) h h0
    · rename_i M k e
      cases e
      exact mlen_ok (M := x) h h0
    · rename_i M k e
      cases e
      exact mlen_ok (M := y) h h0
    · rename_i k M z h1 h2 h3 h4 h5 h6 h7 h8 e
      cases e
      rw [Bool.cond_eq_ite] at h
      split at h
      · rename_i hc
        have := mlen_ok (M := x) h h0
        rw [← this]
        show (((memOf (b2 k x.den y.den)).ws.length : Nat) : Int) = _
        rw [b2_C hc, Ext.c_len _ _ _ hc]
      · cases h
    · cases h
theorem load_loaded (M : MS) (a b : Int) : (M.loaded b).load a = M.load a := rfl
theorem load_store_ne (M : MS) {a b : Int} (x : Int) (h : a ≠ b) : (M.store b x).load a = M.load a := by
  have e : ((M.store b x).ws.length) = M.ws.length := by unfold MS.store MS.put MS.acc; split <;> simp
  unfold MS.load MS.there
  rw [e]
  split
  · rename_i h1
    simp at h1
    unfold MS.store MS.put MS.acc MS.get
    split
    · rename_i h2
      simp [MS.there] at h2
      simp only [List.getD_eq_getElem?_getD]
      rw [List.getElem?_set_ne (by omega)]
    · rfl
  · rfl
theorem load_store_eq (M : MS) {a : Int} (x : Int) (h0 : 0 ≤ a) (h1 : a < M.ws.length) : (M.store a x).load a = x := by
  have e : ((M.store a x).ws.length) = M.ws.length := by unfold MS.store MS.put MS.acc; split <;> simp
  have ht : M.there a = true := by simp [MS.there]; omega
  unfold MS.load MS.there
  rw [e, if_pos (by simp; omega)]
  unfold MS.store MS.put MS.acc MS.get
  rw [if_pos ht]
  simp only [List.getD_eq_getElem?_getD]
  rw [List.getElem?_set_self (by omega)]
  rfl
theorem load_put_ne (M : MS) {a b : Int} (x : Int) (h : a ≠ b) : (M.put b x).load a = M.load a := by
  have e := put_len M b x
  unfold MS.load MS.there
  rw [e]
  split
  · rename_i h1
    simp at h1
    unfold MS.put MS.get
    split
    · rename_i h2
      simp [MS.there] at h2
      simp only [List.getD_eq_getElem?_getD]
      rw [List.getElem?_set_ne (by omega)]
    · rfl
  · rfl
theorem load_put_eq (M : MS) {a : Int} (x : Int) (h0 : 0 ≤ a) (h1 : a < M.ws.length) : (M.put a x).load a = x := by
  have e := put_len M a x
  have ht : M.there a = true := by simp [MS.there]; omega
  unfold MS.load MS.there
  rw [e, if_pos (by simp; omega)]
  unfold MS.put MS.get
  rw [if_pos ht]
  simp only [List.getD_eq_getElem?_getD]
  rw [List.getElem?_set_self (by omega)]
  rfl
theorem load_poke_ne (M : MS) {a b : Int} (x : Int) (h : a ≠ b) : (M.poke b x).load a = M.load a := by
  unfold MS.poke; split
  · rfl
  · exact load_put_ne M x h
theorem load_poke_eq (M : MS) {a : Int} {x : Int} (hx : cl64 x = x) (h0 : 0 ≤ a) (h1 : a < M.ws.length) : cl64 ((M.poke a x).load a) = x := by
  unfold MS.poke; split
  · rename_i h; exact h
  · rw [load_put_eq _ _ h0 h1]; exact hx
theorem load_new (n : Nat) (a : Int) : (MS.new n).load a = 0 := by
  unfold MS.load MS.get
  split
  · simp only [MS.new, zeros, List.getD_eq_getElem?_getD]
    cases h : (List.replicate n (0 : Int))[a.toNat]? with
    | none => rfl
    | some v => have := List.mem_of_getElem? h; simp at this; exact this.2
  · rfl
end
section
variable [Ext] [Vars]
theorem cl64_rng (x : Int) : 0 ≤ cl64 x ∧ cl64 x < 18446744073709551616 := by unfold cl64; omega
theorem mkFrz_den (x : Tm) : (mkFrz x).den = .i (frz (cl64 x.v)) := by
  unfold mkFrz
  split
  · rfl
  · rename_i w
    show U.i (frz (cl64 w.v)) = .i (frz (cl64 (frz (cl64 w.v))))
    rw [cl64_in (frz_rng (cl64_rng _)), frz_frz]
  · rename_i w
    show U.i (frz (cl64 w.v)) = .i (frz (cl64 (thw (cl64 w.v))))
    rw [cl64_in (thw_rng (cl64_rng _)), frz_thw]
  · rfl
theorem mkThw_den (x : Tm) : (mkThw x).den = .i (thw (cl64 x.v)) := by
  unfold mkThw
  split
  · rfl
  · rename_i k n
    show U.i (sW k.v n.v) = .i (thw (cl64 (frz (cl64 (sW k.v n.v)))))
    rw [cl64_in (frz_rng (cl64_rng _)), thw_frz, cl64_in ⟨sW_lo _ _, sW_hi _ _⟩, thw_sW]
  · rename_i w _
    show U.i (thw (cl64 w.v)) = .i (thw (cl64 (frz (cl64 w.v))))
    rw [cl64_in (frz_rng (cl64_rng _)), thw_frz]
  · rename_i w
    show U.i (thw (cl64 w.v)) = .i (thw (cl64 (thw (cl64 w.v))))
    rw [cl64_in (thw_rng (cl64_rng _)), thw_thw]
  · rename_i k n
    show U.i (sW k.v n.v) = .i (thw (cl64 (sW k.v n.v)))
    rw [cl64_in ⟨sW_lo _ _, sW_hi _ _⟩, thw_sW]
  · rfl
theorem mkFzB_den (x : Tm) : (mkFzB x).den = .i (fzB (cl64 x.v)) := by
  unfold mkFzB
  split
  · rfl
  · rename_i w
    show U.i 1 = .i (fzB (cl64 (frz (cl64 w.v))))
    rw [cl64_in (frz_rng (cl64_rng _)), fzB_frz]
  · rename_i w
    show U.i 0 = .i (fzB (cl64 (thw (cl64 w.v))))
    rw [cl64_in (thw_rng (cl64_rng _)), fzB_thw]
  · rename_i k n
    show U.i 0 = .i (fzB (cl64 (sW k.v n.v)))
    rw [cl64_in ⟨sW_lo _ _, sW_hi _ _⟩, fzB_sW]
  · rfl
theorem bk1_ok (n : Nat) (x : Tm) : (bk1 n x).den = b1 n x.den := by
  unfold bk1
  split
  · rename_i a
    rw [blt_iff, Bool.cond_eq_ite]
    split
    · rename_i h
      have h : 1000 < n := by simpa using h
      obtain ⟨m, rfl⟩ : ∃ m, n = 1000 + m := ⟨n - 1000, by omega⟩
      show U.i _ = b1 (1000 + m) (.i a)
      unfold b1
      rw [if_neg (by omega), if_neg (by omega), if_neg (by omega), if_neg (by omega), if_neg (by omega), if_neg (by omega), if_neg (by omega), if_neg (by omega), if_neg (by omega), if_neg (by omega), if_neg (by omega), if_neg (by omega), if_neg (by omega), if_neg (by omega), if_neg (by omega), if_neg (by omega), if_neg (by omega), if_neg (by omega), if_neg (by omega), if_neg (by omega), if_neg (by omega), if_pos (by omega)]
      rfl
    · split <;> rfl
  · split <;> rfl
  · split
    · exact mkFrz_den _
    · exact mkThw_den _
    · exact mkFzB_den _
    · rfl
theorem lit64_ok {z : Tm} (hz : isLit64 z = true) : z.den = .i (cl64 z.v) := by
  unfold isLit64 at hz
  split at hz
  · rename_i n
    rw [Bool.and_eq_true] at hz
    have h1 : 0 ≤ n := of_decide_eq_true hz.1
    have h2 : n ≤ 18446744073709551615 := of_decide_eq_true hz.2
    show U.i n = .i (cl64 n)
    rw [cl64_in ⟨h1, by omega⟩]
  · rename_i p q
    show U.i (sW p.v q.v) = .i (cl64 (sW p.v q.v))
    rw [cl64_in ⟨sW_lo _ _, sW_hi _ _⟩]
  · rename_i p q
    show U.i (topNext p.v q.v) = .i (cl64 (topNext p.v q.v))
    rw [cl64_in (topNext_rng _ _)]
  · rename_i p q
    show U.i (cl64 ((memOf p.den).load q.v)) = .i (cl64 (cl64 ((memOf p.den).load q.v)))
    rw [cl64_in (x := cl64 _) (by unfold cl64; omega)]
  · rename_i p
    show U.i ((hvOf p.den).w) = .i (cl64 ((hvOf p.den).w))
    rw [cl64_in ⟨HV.w_lo _, by have := HV.w_hi (hvOf p.den); omega⟩]
  · rename_i p
    show U.i (frz (cl64 p.v)) = .i (cl64 (frz (cl64 p.v)))
    rw [cl64_in (frz_rng (cl64_rng _))]
  · rename_i p
    show U.i (thw (cl64 p.v)) = .i (cl64 (thw (cl64 p.v)))
    rw [cl64_in (thw_rng (cl64_rng _))]
  · cases hz
theorem inLen_ok {M : Tm} {a : Int} (h : inLen M a = true) : 0 ≤ a ∧ a < ((memOf M.den).ws.length : Int) := by
  unfold inLen at h
  split at h
  · rename_i n hn
    rw [Bool.and_eq_true] at h
    have g0 : 0 ≤ a := of_decide_eq_true h.1
    have g1 : a + 1 ≤ n := of_decide_eq_true h.2
    have hl := mlen_ok hn (by omega)
    omega
  · cases h
theorem loadX_ok (a : Tm) : ∀ M : Tm, (loadX a M).den = .i (cl64 ((memOf M.den).load a.v))
  | .lit _ => rfl
  | .bl _ => rfl
  | .var _ => rfl
  | .a1 f x => by
    unfold loadX
    split
    · rename_i e; cases e
    · rename_i e; cases e
    · rename_i e; cases e
    · rename_i e; cases e
    · rename_i k e
      cases e
      show U.i (0 : Int) = .i (cl64 ((MS.new _).load a.v))
      rw [load_new]; rfl
    · rename_i e; cases e
    · rfl
  | .a2 f x y => by
    unfold loadX
    split
    · rename_i M b e
      cases e
      exact loadX_ok a x
    · rename_i M b e
      cases e
      exact loadX_ok a x
    · rename_i M b z e
      cases e
      split
      · rename_i c
        rw [Bool.cond_eq_ite]
        split
        · rename_i hb
          have hb := intBeq_eq hb
          subst hb
          rw [Bool.cond_eq_ite]
          split
          · rename_i hc
            rw [Bool.and_eq_true] at hc
            obtain ⟨g0, g1⟩ := inLen_ok hc.1
            show z.den = .i (cl64 (((memOf x.den).store b z.v).load b))
            rw [load_store_eq _ _ g0 g1, lit64_ok hc.2]
          · rfl
        · rename_i hb
          have hne : c ≠ b := fun e => hb (by subst e; cases c <;> simp [intBeq_is, intBeq0])
          show (loadX (.lit c) x).den = .i (cl64 (((memOf x.den).store b z.v).load c))
          rw [load_store_ne _ _ hne]
          exact loadX_ok (.lit c) x
      · rfl
    · rename_i M b z e
      cases e
      split
      · rename_i c
        rw [Bool.cond_eq_ite]
        split
        · rename_i hb
          have hb := intBeq_eq hb
          subst hb
          rw [Bool.cond_eq_ite]
          split
          · rename_i hc
            rw [Bool.and_eq_true] at hc
            obtain ⟨g0, g1⟩ := inLen_ok hc.1
            show z.den = .i (cl64 (((memOf x.den).poke b z.v).load b))
            have hz := lit64_ok hc.2
            have hv : cl64 z.v = z.v := by
              have := congrArg U.int hz
              exact this.symm
            rw [load_poke_eq _ hv g0 g1, hz]
            show _ = U.i z.v
            rw [hv]
          · rfl
        · rename_i hb
          have hne : c ≠ b := fun e => hb (by subst e; cases c <;> simp [intBeq_is, intBeq0])
          show (loadX (.lit c) x).den = .i (cl64 (((memOf x.den).poke b z.v).load c))
          rw [load_poke_ne _ _ hne]
          exact loadX_ok (.lit c) x
      · rfl
    · rename_i e; cases e
    · rename_i M k e
      cases e
      exact loadX_ok a y
    · rfl
theorem isM_ok {M : Tm} (h : isM M = true) : M.den = .o (.mem (memOf M.den)) := by
  unfold isM at h
  split at h
  · rfl
  · rfl
  · rfl
  · rfl
  · rfl
  · rfl
  · rfl
  · rfl
  · rfl
  · rename_i n x y _ _ _ _ _ _ _ _
    show b2 n x.den y.den = .o (.mem (memOf (b2 n x.den y.den)))
    rw [b2_C h]
    exact Ext.c_mem _ _ _ h
  · cases h
theorem trT_ok : ∀ {M : Tm} {n : Int}, trT M = some n → ((memOf M.den).tr : Int) = n
  | .lit _, _, h => by cases h
  | .bl _, _, h => by cases h
  | .var _, _, h => by cases h
  | .a1 f x, n, h => by
    unfold trT at h
    split at h
    · rename_i k e
      cases e
      cases h
      rfl
    · rename_i e; cases e
    · rename_i e; cases e
    · rename_i e; cases e
    · rename_i e; cases e
    · rename_i e; cases e
    · rename_i e; cases e
    · rename_i e; cases e
    · cases h
  | .a2 f x y, n, h => by
    unfold trT at h
    split at h
    · rename_i e; cases e
    · rename_i M a e
      cases e
      rw [Bool.cond_eq_ite] at h
      split at h
      · rename_i hl
        obtain ⟨g0, g1⟩ := inLen_ok hl
        rw [← trT_ok h]
        show ((((memOf x.den).loaded a).tr : Nat) : Int) = _
        unfold MS.loaded MS.acc
        rw [if_pos (by unfold MS.there; simp [g0, g1])]
      · cases h
    · rename_i M a v e
      cases e
      rw [Bool.cond_eq_ite] at h
      split at h
      · rename_i hl
        obtain ⟨g0, g1⟩ := inLen_ok hl
        rw [← trT_ok h]
        show ((((memOf x.den).store a v.v).tr : Nat) : Int) = _
        unfold MS.store MS.acc MS.put
        rw [if_pos (by unfold MS.there; simp [g0, g1]), if_pos (by unfold MS.there; simp [g0, g1])]
      · cases h
    · rename_i M a e
      cases e
      rw [← trT_ok h]
      show ((((memOf x.den).poke y.den.fst.int y.den.snd.int).tr : Nat) : Int) = _
      unfold MS.poke MS.put
      split
      · rfl
      · split <;> rfl
    · rename_i M a e
      cases e
      rw [← trT_ok h]
      rfl
    · rename_i M k e
      cases e
      rw [Bool.cond_eq_ite] at h
      split at h
      · rename_i hk
        cases h
        have hk : 0 ≤ n := of_decide_eq_true hk
        show ((n.toNat : Nat) : Int) = n
        omega
      · cases h
    · rename_i M a e
      cases e
      rw [← trT_ok h]
      rfl
    · rename_i M a e
      cases e
      rw [← trT_ok h]
      rfl
    · cases h
theorem cntT_ok : ∀ {M : Tm} {n : Int}, cntT M = some n → ((memOf M.den).cnt : Int) = n
  | .lit _, _, h => by cases h
  | .bl _, _, h => by cases h
  | .var _, _, h => by cases h
  | .a1 f x, n, h => by
    unfold cntT at h
    split at h
    · rename_i k e
      cases e
      cases h
      rfl
    · rename_i e; cases e
    · rename_i e; cases e
    · rename_i e; cases e
    · rename_i e; cases e
    · rename_i e; cases e
    · cases h
  | .a2 f x y, n, h => by
    unfold cntT at h
    split at h
    · rename_i e; cases e
    · rename_i M a e
      cases e
      split at h
      · rename_i m hm
        cases h
        have := cntT_ok hm
        show ((((memOf x.den).loaded y.den.int).cnt : Nat) : Int) = m + 1
        rw [← this]
        rfl
      · cases h
    · rename_i M a e
      cases e
      split at h
      · rename_i m hm
        cases h
        have := cntT_ok hm
        show ((((memOf x.den).store y.den.fst.int y.den.snd.int).cnt : Nat) : Int) = m + 1
        rw [← this]
        unfold MS.store MS.acc MS.put
        split <;> rfl
      · cases h
    · rename_i M a e
      cases e
      rw [← cntT_ok h]
      show ((((memOf x.den).poke y.den.fst.int y.den.snd.int).cnt : Nat) : Int) = _
      unfold MS.poke MS.put
      split
      · rfl
      · split <;> rfl
    · rename_i M k e
      cases e
      rw [Bool.cond_eq_ite] at h
      split at h
      · rename_i hk
        cases h
        have hk : 0 ≤ n := of_decide_eq_true hk
        show ((n.toNat : Nat) : Int) = n
        omega
      · cases h
    · rename_i M a e
      cases e
      rw [← cntT_ok h]
      rfl
    · cases h
theorem store_ws {M N : MS} (h : M.ws = N.ws) (a x : Int) : (M.store a x).ws = (N.store a x).ws := by
  unfold MS.store MS.put MS.acc MS.there
  rw [h]
  split <;> simp [h]
theorem cas_ws {M N : MS} (h : M.ws = N.ws) (a o x : Int) : (M.cas a o x).ws = (N.cas a o x).ws := by
  unfold MS.cas MS.casOk MS.acc MS.there MS.get
  rw [h]
  split <;> simp [h]
theorem poke_ws {M N : MS} (h : M.ws = N.ws) (a x : Int) : (M.poke a x).ws = (N.poke a x).ws := by
  unfold MS.poke MS.load MS.put MS.there MS.get
  rw [h]
  split <;> split <;> first | exact h | rfl | (split <;> first | exact h | rfl)
theorem nfw_ws : ∀ M : Tm, (memOf (nfw M).den).ws = (memOf M.den).ws
  | .lit _ => rfl
  | .bl _ => rfl
  | .var _ => rfl
  | .a1 f x => rfl
  | .a2 f x y => by
    unfold nfw
    split
    · rename_i e; cases e; exact nfw_ws x
    · rename_i e; cases e; exact store_ws (nfw_ws x) _ _
    · rename_i e; cases e; exact cas_ws (nfw_ws x) _ _ _
    · rename_i e; cases e; exact poke_ws (nfw_ws x) _ _
    · rename_i M k e
      cases e
      show ((memOf (nfw x).den).ws ++ zeros y.den.int.toNat).take y.den.int.toNat = ((memOf x.den).ws ++ zeros y.den.int.toNat).take y.den.int.toNat
      rw [nfw_ws x]
    · rename_i e; cases e; exact nfw_ws x
    · rename_i e; cases e; exact nfw_ws x
    · rename_i e; cases e; exact nfw_ws y
    · rename_i n M z h1 h2 h3 h4 h5 h6 h7 h8 e
      cases e
      rw [Bool.cond_eq_ite]
      split
      · rename_i hc
        show (memOf (b2 n (nfw x).den y.den)).ws = (memOf (b2 n x.den y.den)).ws
        rw [b2_C hc, b2_C hc]
        exact Ext.c_ws _ _ _ _ hc (nfw_ws x)
      · rfl
    · rfl
theorem is64_ok : ∀ {x : Tm}, is64 x = true → 0 ≤ x.v ∧ x.v < 18446744073709551616
  | .lit n, h => by
    have := congrArg U.int (lit64_ok (z := .lit n) h)
    have e : (Tm.lit n).v = cl64 (Tm.lit n).v := this
    rw [e]; exact cl64_rng _
  | .bl _, h => by cases h
  | .var _, h => by cases h
  | .a1 f x, h => by
    have e : (Tm.a1 f x).v = cl64 (Tm.a1 f x).v := congrArg U.int (lit64_ok (z := .a1 f x) h)
    rw [e]; exact cl64_rng _
  | .a2 f c z, h => by
    unfold is64 at h
    split at h
    · rename_i c' x y e
      cases e
      rw [Bool.cond_eq_ite] at h
      split at h
      · rename_i hx
        have a := is64_ok hx
        have b := is64_ok h
        show 0 ≤ (bif c.tv then x.den else y.den).int ∧ (bif c.tv then x.den else y.den).int < _
        cases c.tv
        · exact b
        · exact a
      · cases h
    · have e : (Tm.a2 f c z).v = cl64 (Tm.a2 f c z).v := congrArg U.int (lit64_ok (z := .a2 f c z) h)
      rw [e]; exact cl64_rng _
theorem okM_ok : ∀ {M : Tm}, okM M = true → Wd (memOf M.den).ws
  | .lit _, h => by cases h
  | .bl _, h => by cases h
  | .var _, h => by cases h
  | .a1 f x, h => by
    unfold okM at h
    split at h
    · rename_i e
      cases e
      intro z hz
      have : z = 0 := by
        have hz : z ∈ zeros x.den.int.toNat := hz
        unfold zeros at hz
        exact (List.mem_replicate.1 hz).2
      subst this
      omega
    all_goals first | (rename_i e; cases e; done) | cases h
  | .a2 f x y, h => by
    unfold okM at h
    split at h
    · rename_i e; cases e
    · rename_i e; cases e; exact okM_ok (M := x) h
    · rename_i M b z e
      cases e
      rw [Bool.cond_eq_ite] at h
      split at h
      · rename_i hz
        have h1 := okM_ok (M := x) h
        have h2 := is64_ok hz
        intro u hu
        have hu : u ∈ ((memOf x.den).store b.v z.v).ws := hu
        unfold MS.store MS.put MS.acc at hu
        split at hu
        · rcases List.mem_or_eq_of_mem_set hu with hu | hu
          · exact h1 u hu
          · subst hu; exact h2
        · exact h1 u hu
      · cases h
    · rename_i e; cases e; exact okM_ok (M := x) h
    · rename_i e; cases e; exact okM_ok (M := x) h
    · rename_i e; cases e; exact okM_ok (M := y) h
    · cases h
theorem wsAll_ok {x y : Tm} : ∀ {n : Nat}, wsAll x y n = true → ∀ i, i < n → cl64 ((memOf x.den).load i) = cl64 ((memOf y.den).load i)
  | 0, _, i, hi => absurd hi (Nat.not_lt_zero _)
  | n + 1, h, i, hi => by
    unfold wsAll at h
    rw [Bool.cond_eq_ite] at h
    split at h
    · rename_i hb
      by_cases e : i = n
      · subst e
        have hb := Tm.beq_eq hb
        have h1 := loadX_ok (.lit (i : Int)) x
        have h2 := loadX_ok (.lit (i : Int)) y
        rw [hb, h2] at h1
        exact (congrArg U.int h1).symm
      · exact wsAll_ok h i (by omega)
    · cases h
theorem wd_ext {l m : List Int} (hl : Wd l) (hm : Wd m) (hn : l.length = m.length) (h : ∀ i, i < l.length → cl64 (l.getD i 0) = cl64 (m.getD i 0)) : l = m := by
  refine List.ext_getElem hn fun i h1 h2 => ?_
  have := h i h1
  rw [List.getD_eq_getElem?_getD, List.getD_eq_getElem?_getD, List.getElem?_eq_getElem h1, List.getElem?_eq_getElem h2] at this
  simp only [Option.getD_some] at this
  rwa [cl64_in (hl _ (List.getElem_mem h1)), cl64_in (hm _ (List.getElem_mem h2))] at this
theorem wsSame_ok {x y : Tm} (h : wsSame x y = true) : (memOf x.den).ws = (memOf y.den).ws := by
  unfold wsSame at h
  rw [Bool.cond_eq_ite] at h
  split at h
  · rename_i hb
    have hb := Tm.beq_eq hb
    rw [← nfw_ws x, ← nfw_ws y, hb]
  · rw [Bool.cond_eq_ite] at h
    split at h
    · rename_i hok
      rw [Bool.and_eq_true] at hok
      split at h
      · rename_i n m hn hm
        rw [Bool.cond_eq_ite] at h
        split at h
        · rename_i hc
          rw [Bool.and_eq_true] at hc
          have e := intBeq_eq hc.1
          subst e
          have h0 : 0 ≤ n := of_decide_eq_true hc.2
          have l1 := mlen_ok hn h0
          have l2 := mlen_ok hm h0
          refine wd_ext (okM_ok hok.1) (okM_ok hok.2) (by omega) fun i hi => ?_
          have := wsAll_ok h i (by omega)
          have t1 : (memOf x.den).load (i : Int) = (memOf x.den).ws.getD i 0 := by
            unfold MS.load MS.there MS.get
            rw [if_pos (by simp; omega)]
            simp
          have t2 : (memOf y.den).load (i : Int) = (memOf y.den).ws.getD i 0 := by
            unfold MS.load MS.there MS.get
            rw [if_pos (by simp; omega)]
            simp
          rw [t1, t2] at this
          exact this
        · cases h
      · cases h
    · cases h
theorem bk2_ok (n : Nat) (x y : Tm) : (bk2 n x y).den = b2 n x.den y.den := by
  unfold bk2
  split
  · unfold m2; split <;> rfl
  · unfold m2; split <;> rfl
  · unfold m2; split <;> rfl
  · rw [loadX_ok]; rfl
  · split
    · rename_i a v
      rw [Bool.cond_eq_ite]
      split
      · rename_i hc
        simp only [Bool.and_eq_true] at hc
        obtain ⟨⟨hM, hv⟩, he⟩ := hc
        have hz := Tm.beq_eq he
        have h1 := loadX_ok (.lit a) x
        rw [← hz] at h1
        show x.den = .o (.mem ((memOf x.den).poke a v.v))
        have h2 : v.v = cl64 ((memOf x.den).load a) := congrArg U.int h1
        rw [poke_same (by rw [h2]; rfl)]
        exact isM_ok hM
      · rfl
    · rfl
  · split
    · rename_i n
      split
      · rename_i m hm
        rw [Bool.cond_eq_ite]
        split
        · rename_i hc
          simp only [Bool.and_eq_true] at hc
          obtain ⟨h1, h2, h3⟩ := hc
          have h1 := intBeq_eq h1
          have h2 : 0 ≤ n := of_decide_eq_true h2
          have hl := mlen_ok hm (by omega)
          show x.den = .o (.mem ((memOf x.den).sized n.toNat))
          rw [sized_same (by omega)]
          exact isM_ok h3
        · rfl
      · rfl
    · rfl
  · split
    · rename_i n
      split
      · rename_i m hm
        rw [Bool.cond_eq_ite]
        split
        · rename_i hc
          rw [Bool.and_eq_true] at hc
          have h1 := intBeq_eq hc.1
          have h2 := trT_ok hm
          subst h1
          show x.den = .o (.mem { memOf x.den with tr := m.toNat })
          have e : ({ memOf x.den with tr := m.toNat } : MS) = memOf x.den := by
            rw [← h2, Int.toNat_natCast]
          rw [e]
          exact isM_ok hc.2
        · rfl
      · rfl
    · rfl
  · rw [Bool.cond_eq_ite]
    split
    · rename_i hc
      rw [Bool.and_eq_true] at hc
      show x.den = .o (.mem { memOf x.den with ws := (memOf y.den).ws })
      rw [← wsSame_ok hc.2]
      exact isM_ok hc.1
    · rfl
  · rfl
end
instance [Ext] [Exp] : Rules := ⟨br1, br2, b1_rg, b2_rg, bk1, bk2, bk1_ok, bk2_ok, Exp.ex, Exp.ex_ok, Exp.eqx, Exp.eqx_ok⟩
section
variable [Ext] [Exp]
def mkLoad (π : Pi) (a : Tm) : Tm → Tm
  | .a2 (.usr 21) M _ => mkLoad π a M
  | .a2 (.usr 29) M _ => mkLoad π a M
  | .a2 (.usr 22) M (.a2 .pair (.lit b) x) =>
    match a with
    | .lit c => bif intBeq b c then (bif inLen M c && (selRg π x).inside 0 18446744073709551615 then x else i2 20 (i2 22 M (.a2 .pair (.lit b) x)) a) else mkLoad π a M
    | a => i2 20 (i2 22 M (.a2 .pair (.lit b) x)) a
  | .a2 (.usr 26) M (.a2 .pair (.lit b) x) =>
    match a with
    | .lit c => bif intBeq b c then (bif inLen M c && (selRg π x).inside 0 18446744073709551615 then x else i2 20 (i2 26 M (.a2 .pair (.lit b) x)) a) else mkLoad π a M
    | a => i2 20 (i2 26 M (.a2 .pair (.lit b) x)) a
  | .a1 (.usr 13) n => .lit 0
  | .a2 (.usr 25) _ X => mkLoad π a X
  | M => i2 20 M a
variable [Vars]
theorem mkLoad_v {π : Pi} (hπ : facts π) (a : Tm) : ∀ M : Tm, (mkLoad π a M).v = cl64 ((memOf M.den).load a.v)
  | .lit _ => rfl
  | .bl _ => rfl
  | .var _ => rfl
  | .a1 f x => by
    unfold mkLoad
    split
    · rename_i e; cases e
    · rename_i e; cases e
    · rename_i e; cases e
    · rename_i e; cases e
    · rename_i k e
      cases e
      show (0 : Int) = cl64 ((MS.new _).load a.v)
      rw [load_new]; rfl
    · rename_i e; cases e
    · rfl
  | .a2 f x y => by
    unfold mkLoad
    split
    · rename_i M b e
      cases e
      exact mkLoad_v hπ a x
    · rename_i M b e
      cases e
      exact mkLoad_v hπ a x
    · rename_i M b z e
      cases e
      split
      · rename_i c
        rw [Bool.cond_eq_ite]
        split
        · rename_i hb
          have hb := intBeq_eq hb
          subst hb
          rw [Bool.cond_eq_ite]
          split
          · rename_i hc
            rw [Bool.and_eq_true] at hc
            have hr := Rg.inside_ok (selRg_ok hπ z) hc.2
            obtain ⟨g0, g1⟩ := inLen_ok hc.1
            show z.v = cl64 (((memOf x.den).store b z.v).load b)
            rw [load_store_eq _ _ g0 g1]
            unfold cl64; omega
          · rfl
        · rename_i hb
          have hne : c ≠ b := fun e => hb (by subst e; cases c <;> simp [intBeq_is, intBeq0])
          show (mkLoad π (.lit c) x).v = cl64 (((memOf x.den).store b z.v).load c)
          rw [load_store_ne _ _ hne]
          exact mkLoad_v hπ (.lit c) x
      · rfl
    · rename_i M b z e
      cases e
      split
      · rename_i c
        rw [Bool.cond_eq_ite]
        split
        · rename_i hb
          have hb := intBeq_eq hb
          subst hb
          rw [Bool.cond_eq_ite]
          split
          · rename_i hc
            rw [Bool.and_eq_true] at hc
            have hr := Rg.inside_ok (selRg_ok hπ z) hc.2
            obtain ⟨g0, g1⟩ := inLen_ok hc.1
            show z.v = cl64 (((memOf x.den).poke b z.v).load b)
            rw [load_poke_eq _ (cl64_in (by omega)) g0 g1]
          · rfl
        · rename_i hb
          have hne : c ≠ b := fun e => hb (by subst e; cases c <;> simp [intBeq_is, intBeq0])
          show (mkLoad π (.lit c) x).v = cl64 (((memOf x.den).poke b z.v).load c)
          rw [load_poke_ne _ _ hne]
          exact mkLoad_v hπ (.lit c) x
      · rfl
    · rename_i e; cases e
    · rename_i M k e
      cases e
      exact mkLoad_v hπ a y
    · rfl
end
/-! ### contracts -/
section
variable [Ext] [Exp] [Vars]
abbrev CtrAt := List SV → St → Option Rt
def CAtOk (P : Program) (f : Nat) (c : CtrAt) : Prop :=
  ∀ args s t, c args s = some t → ∀ (L : Bl → SV × St → Prop) β, t.Leads L β → (∀ x ∈ args, x.wf s.n) → (∀ x ∈ args, x.isTop = false) → ∀ (w : World) (R : HProp), At β s w R → ∀ Q : Ending → World → Prop,
    (∀ β' v s' w', L β' (v, s') → v.wf s'.n → v.isTop = false → Out β s w R β' s' w' → Q (.returned (v.den β')) w') → Calls P f (args.map (SV.den β)).toArray w Q
end
def ctrNone : Ctr := fun _ _ _ => none
def ctrCons (f : Nat) (c : CtrAt) (r : Ctr) : Ctr := fun g args s => bif Nat.beq g f then c args s else r g args s
section
variable [Ext] [Exp] [Vars]
theorem ctrNone_ok (P : Program) : CtrOk P ctrNone := fun _ _ _ _ h => by cases h
theorem ctrCons_ok {P : Program} {f : Nat} {c : CtrAt} {r : Ctr} (hc : CAtOk P f c) (hr : CtrOk P r) : CtrOk P (ctrCons f c r) := by
  intro g args s t h
  unfold ctrCons at h
  cases hg : Nat.beq g f with
  | true =>
    rw [hg] at h
    rw [Nat.eq_of_beq_eq_true hg]
    exact hc args s t h
  | false =>
    rw [hg] at h
    exact hr g args s t h
/-- A function that only computes. -/
theorem at_pure {P : Program} {f : Nat} {β : Bl} {s : St} {w : World} {R : HProp} (hw : At β s w R) {args : Array Value} {V : Value} (hc : Calls P f args w (Ret w V)) {Q : Ending → World → Prop}
    (hk : ∀ w', Out β s w R β s w' → Q (.returned V) w') : Calls P f args w Q :=
  hc.mono fun e w' ⟨he, hb⟩ => by subst he; exact hk w' ⟨Ag.refl _ _, Nat.le_refl _, ⟨hw.pi, hw.wf, hw.hold.kept hb⟩, Strm.below hb⟩
/-- A function that turns one object. -/
theorem at_obj {P : Program} {f : Nat} {β : Bl} {s : St} {w : World} {R : HProp} (hw : At β s w R) {nm : Nat} {o o1 : SO} (hf : find s.H nm = some o) (ho : o1.wf s.n) {args : Array Value} {V : Value}
    (hc : ∀ R' : HProp, Holds w (o.den β (β nm) * R') → Calls P f args w fun e w' => e = .returned V ∧ Holds w' (o1.den β (β nm) * R') ∧ Strm w w') {Q : Ending → World → Prop}
    (hk : ∀ w', Out β s w R β ⟨s.pi, put s.H nm o1, s.n⟩ w' → Q (.returned V) w') : Calls P f args w Q :=
  (hc _ (focus hf hw.hold)).mono fun e w' ⟨he, h1, h2⟩ => by subst he; exact hk w' ⟨Ag.refl _ _, Nat.le_refl _, ⟨hw.pi, put_wf hw.wf ho, unfocus hf h1⟩, h2⟩
def isU64 (x : Tm) : List Tm := [mkNot (mkLt x (.lit 0)), mkLt x (.lit 18446744073709551616)]
theorem isU64_ok {x : Tm} (h : ∀ p ∈ isU64 x, p.tv = true) : 0 ≤ x.v ∧ x.v < 18446744073709551616 := by
  have h1 := h _ (List.mem_cons_self ..)
  have h2 := h _ (List.mem_cons_of_mem _ (List.mem_singleton.2 rfl))
  rw [mkNot_tv, mkLt_tv, lit_v] at h1
  rw [mkLt_tv, lit_v] at h2
  simp at h1 h2
  omega
end
def aggI (l : List Tm) : SV := .a (.agg (l.map fun x => .int .i64 x))
theorem aggI_wf (l : List Tm) (n : Nat) : (aggI l).wf n := by
  intro c hc
  obtain ⟨x, _, rfl⟩ := List.mem_map.1 hc
  trivial
section
variable [Ext] [Exp]
/-- One word in, numbers out. -/
def cU1 (f : Pi → Tm → SV) : CtrAt := fun args s =>
  match args with
  | [.a (.one (.int .u64 x))] => some (needs s.pi (isU64 x) (frcV (f s.pi x) fun v => .done (v, s)))
  | _ => none
/-- Not parted by a truth. -/
def noSel : Tm → Bool
  | .a2 .sel _ _ => false
  | _ => true
def vkT (π : Pi) (x : Tm) : Tm :=
  match x with
  | .a2 (.usr 1) k n => bif noSel k && (selRg π k).inside 0 3 then k else i1 1 (i2 1 k n)
  | .a1 (.usr 33) (.a2 (.usr 1) k n) => bif noSel k && (selRg π k).inside 0 3 then k else i1 1 (i2 1 k n)
  | x => m1 1 vK x
def vnT (π : Pi) (x : Tm) : Tm :=
  match x with
  | .a2 (.usr 1) k n => bif noSel n && (selRg π n).inside 0 2305843009213693951 then n else i1 2 (i2 1 k n)
  | .a1 (.usr 33) (.a2 (.usr 1) k n) => bif noSel n && (selRg π n).inside 0 2305843009213693951 then n else i1 2 (i2 1 k n)
  | x => m1 2 (fun w => vN (cl64 w)) x
def valA (π : Pi) (x : Tm) : SV := aggI [vkT π x, vnT π x]
def hdL (x : Tm) : List Tm := [m1 3 (fun w => (HV.of w).st) x, m1 4 (fun w => (HV.of w).cl) x, m1 5 (fun w => (HV.of w).ct) x, m1 6 (fun w => (HV.of w).mr) x, m1 7 (fun w => (HV.of w).gr) x, m1 8 (fun w => (HV.of w).tg) x, m1 9 (fun w => (HV.of w).lk) x]
def hdT (π : Pi) (x : Tm) : List Tm :=
  match x with
  | .a1 (.usr 12) (.a2 .pair a (.a2 .pair b (.a2 .pair c (.a2 .pair d (.a2 .pair e (.a2 .pair f g)))))) =>
    bif (selRg π a).inside 0 3 && ((selRg π b).inside 0 3 && ((selRg π c).inside 0 7 && ((selRg π d).inside 0 1 && ((selRg π e).inside 0 1 && ((selRg π f).inside 0 7 && (selRg π g).inside 0 4095))))) then [a, b, c, d, e, f, g]
    else hdL (i1 12 (.a2 .pair a (.a2 .pair b (.a2 .pair c (.a2 .pair d (.a2 .pair e (.a2 .pair f g)))))))
  | x => hdL x
def headA (π : Pi) (x : Tm) : SV := aggI (hdT π x)
def topA (π : Pi) (x : Tm) : SV := aggI [m1 10 topAt x, m1 11 topVer x]
def cW2 (n : Nat) (f : Int → Int → Int) (k : IntKind) : CtrAt := fun args s =>
  match args with
  | [.a (.one (.int .u64 x)), .a (.one (.int .i64 a))] => some (needs s.pi (isU64 x) (frcT (m2 n f x a) fun t => .done (.c (.int k t), s)))
  | _ => none
/-- Where an object is, by a known header. -/
def movT (x a : Tm) : Tm :=
  match x with
  | .lit w => bif intBeq (HV.of w).st 1 && intBeq (HV.of w).tg 2 then .lit (HV.of w).lk else a
  | x => i2 2 x a
def cMoved : CtrAt := fun args s =>
  match args with
  | [.a (.one (.int .u64 x)), .a (.one (.int .i64 a))] => some (needs s.pi (isU64 x) (frcT (movT x a) fun t => .done (.c (.int .i64 t), s)))
  | _ => none
def cWord : CtrAt := fun args s =>
  match args with
  | [.a (.agg [.int .i64 a, .int .i64 b])] => some (frcT (m2 1 sW a b) fun t => .done (.c (.int .u64 t), s))
  | _ => none
def prs (a b c d e f g : Tm) : Tm := .a2 .pair a (.a2 .pair b (.a2 .pair c (.a2 .pair d (.a2 .pair e (.a2 .pair f g)))))
def mkHead (a b c d e f g : Tm) : Tm :=
  match a, b, c, d, e, f, g with
  | .lit a, .lit b, .lit c, .lit d, .lit e, .lit f, .lit g => .lit (HV.mk a b c d e f g).w
  | a, b, c, d, e, f, g => i1 12 (prs a b c d e f g)
def cHeadWord : CtrAt := fun args s =>
  match args with
  | [.a (.agg [.int .i64 a, .int .i64 b, .int .i64 c, .int .i64 d, .int .i64 e, .int .i64 f, .int .i64 g])] => some (frcT (mkHead a b c d e f g) fun t => .done (.c (.int .u64 t), s))
  | _ => none
/-- Which of n kinds. -/
def cKind : CtrAt := fun args s =>
  match args with
  | [.a (.one (.int .i64 c)), .a (.one (.int .i64 (.lit n)))] =>
    bif intLe 1 n && intLe n 100000 then some (needs s.pi [mkNot (mkLt c (.lit (-9223372036854775808))), mkLt c (.lit 9223372036854775808)]
      (frcT (m1 (1000 + n.toNat) (fun c => kindOf c n) c) fun t => .done (.c (.int .i64 t), s))) else none
  | _ => none
/-- The same, parted into its numbers if they are few. -/
def cKindF (N : Int) : CtrAt := fun args s =>
  match args with
  | [.a (.one (.int .i64 c)), .a (.one (.int .i64 (.lit n)))] =>
    bif intLe 1 n && intLe n N && intLe n 100000 then some (needs s.pi [mkNot (mkLt c (.lit (-9223372036854775808))), mkLt c (.lit 9223372036854775808)]
      (frcT (m1 (1000 + n.toNat) (fun c => kindOf c n) c) fun t => forkI t (fun π j => .done (.c (.int .i64 (.lit (j : Int))), ⟨π, s.H, s.n⟩)) 40 0 s.pi)) else cKind args s
  | _ => none
/-- The same, but of some numbers not parted. -/
def cKindS (N : Int) (skip : Tm → Bool) : CtrAt := fun args s =>
  match args with
  | .a (.one (.int k c)) :: r => bif skip c then cKind args s else cKindF N args s
  | _ => cKind args s
def room (c : Tm) : List Tm := [mkLt c (.lit 1099511627775)]
def cLoad (k : Nat) : CtrAt := fun args s =>
  match args with
  | [.a (.one (.ptr nm 0)), .a (.one (.int .i64 a))] =>
    match s with
    | ⟨π, H, n⟩ =>
      match find H nm with
      | some (.abs j x ns) => bif Nat.beq j k then
          frcT (mkFst x) fun M => frcT (mkSnd x) fun c => frcT (mkLoad π a M) fun t => frcT (mkAdd c (.lit 1)) fun c1 =>
            frcH (put H nm (.abs k (.a2 .pair (i2 21 M a) c1) [])) fun H => some (needs π (room c) (.done (.c (.int .u64 t), ⟨π, H, n⟩))) else none
      | _ => none
  | _ => none
def cStore (k : Nat) : CtrAt := fun args s =>
  match args with
  | [.a (.one (.ptr nm 0)), .a (.one (.int .i64 a)), .a (.one (.int .u64 v))] =>
    match s with
    | ⟨π, H, n⟩ =>
      match find H nm with
      | some (.abs j x ns) => bif Nat.beq j k then
          frcT (mkFst x) fun M => frcT (mkSnd x) fun c => frcT (mkAdd c (.lit 1)) fun c1 =>
            frcH (put H nm (.abs k (.a2 .pair (i2 22 M (.a2 .pair a v)) c1) [])) fun H => some (needs π (room c ++ isU64 v) (.done (.un, ⟨π, H, n⟩))) else none
      | _ => none
  | _ => none
/-- Whether two words are the same: if one is made of a kind and a number, these are held against the other's first. -/
def brW (x o : Tm) (π : Pi) (k : Pi → Bool → Rt) : Rt :=
  match x with
  | .a2 (.usr 1) p q => bif !(Tm.beq (i2 1 p q) o) && (noSel p && noSel q) && (selRg π p).inside 0 3 && (selRg π q).inside 0 2305843009213693951 && (selRg π o).inside 0 18446744073709551615 then
      br (mkAnd (mkEq p (vkT π o)) (mkEq q (vnT π o))) π fun π b => bif b then br (mkEq (i2 1 p q) o) π k else k π false
    else br (mkEq (i2 1 p q) o) π k
  | x => br (mkEq x o) π k
/-- Whether a word is frozen, if it tells. -/
def fzOf : Tm → Option Int
  | .lit a => bif intLe 0 a && intLe a 18446744073709551615 then some (fzB a) else none
  | .a1 (.usr 33) _ => some 1
  | .a1 (.usr 34) _ => some 0
  | .a2 (.usr 1) _ _ => some 0
  | _ => none
def brZ (x o : Tm) (π : Pi) (k : Pi → Bool → Rt) : Rt :=
  match fzOf x, fzOf o with
  | some a, some b => bif intBeq a b then (bif intBeq a 0 then brW x o π k else frcT (mkThw x) fun x => frcT (mkThw o) fun o => brW x o π k) else k π false
  | _, _ => brW x o π k
def known (M a : Tm) : Bool :=
  match a with
  | .lit a => inLen M a
  | _ => false
/-- The memory that has the words. -/
def cw : Tm → Tm
  | .a2 (.usr 25) _ X => X
  | M => M
def cCas (k : Nat) : CtrAt := fun args s =>
  match args with
  | [.a (.one (.ptr nm 0)), .a (.one (.int .i64 a)), .a (.one (.int .u64 o)), .a (.one (.int .u64 v))] =>
    match s with
    | ⟨π, H, n⟩ =>
      match find H nm with
      | some (.abs j x ns) => bif Nat.beq j k then
          frcT (mkFst x) fun M => frcT (mkSnd x) fun c => frcT (mkAdd c (.lit 1)) fun c1 =>
            bif known M a then
              some (needs π (room c ++ isU64 v) (brZ (mkLoad π a M) o π fun π t =>
                bif t then frcH (put H nm (.abs k (.a2 .pair (i2 22 M (.a2 .pair a v)) c1) [])) fun H => .done (.c (.bool (.bl true)), ⟨π, H, n⟩)
                else frcH (put H nm (.abs k (.a2 .pair (i2 21 M a) c1) [])) fun H => .done (.c (.bool (.bl false)), ⟨π, H, n⟩)))
            else frcH (put H nm (.abs k (.a2 .pair (i2 24 M (.a2 .pair a (.a2 .pair o v))) c1) [])) fun H =>
              some (needs π (room c ++ isU64 v) (.done (.c (.bool (i2 23 (cw M) (.a2 .pair a o))), ⟨π, H, n⟩))) else none
      | _ => none
  | _ => none
variable [Vars]
theorem cU1_ok {P : Program} {g : Nat} {f : Pi → Tm → SV} (hwf : ∀ π x n, (f π x).wf n ∧ (f π x).isTop = false) (h : ∀ (π : Pi) (x : Tm) (β : Bl) (w : World), facts π → 0 ≤ x.v → x.v < 18446744073709551616 → Calls P g #[.int .u64 x.v] w (Ret w ((f π x).den β))) : CAtOk P g (cU1 f) := by
  intro args s t ht L β hl ha htp w R hw Q hk
  unfold cU1 at ht
  split at ht
  · rename_i x
    simp only [Option.some.injEq] at ht
    subst ht
    obtain ⟨h1, h2⟩ := needs_leads hw.pi hl
    rw [frcV_eq] at h2
    have hx := isU64_ok h1
    exact at_pure hw (h s.pi x β w hw.pi hx.1 hx.2) fun w' ho => hk β (f s.pi x) s w' h2 (hwf s.pi x _).1 (hwf s.pi x 0).2 ho
  · cases ht
theorem cW2_ok {P : Program} {g n : Nat} {f : Int → Int → Int} {k : IntKind} (hn : ∀ x y : UM, (b2 n x y).int = f x.int y.int) (h : ∀ (x a : Int) (w : World), 0 ≤ x → x < 18446744073709551616 → Calls P g #[.int .u64 x, .int .i64 a] w (Ret w (.int k (f x a)))) : CAtOk P g (cW2 n f k) := by
  intro args s t ht L β hl ha htp w R hw Q hk
  unfold cW2 at ht
  split at ht
  · rename_i x a
    simp only [Option.some.injEq] at ht
    subst ht
    obtain ⟨h1, h2⟩ := needs_leads hw.pi hl
    rw [frcT_eq] at h2
    have hx := isU64_ok h1
    refine at_pure hw (h x.v a.v w hx.1 hx.2) fun w' ho => ?_
    have := hk β (.c (.int k (m2 n f x a))) s w' h2 trivial rfl ho
    rw [show (SV.c (.int k (m2 n f x a))).den β = .int k (m2 n f x a).v from rfl, m2_v hn] at this
    exact this
  · cases ht
theorem movT_v (x a : Tm) : (movT x a).v = hMoved x.v a.v := by
  unfold movT
  split
  · rename_i w
    rw [Bool.cond_eq_ite]
    show _ = hMoved w a.v
    unfold hMoved
    split
    · rename_i h
      rw [Bool.and_eq_true] at h
      rw [if_pos ⟨intBeq_eq h.1, intBeq_eq h.2⟩]
      rfl
    · rename_i h
      rw [if_neg]
      rintro ⟨h1, h2⟩
      apply h
      rw [h1, h2]
      rfl
  · rfl
theorem cMoved_ok {P : Program} {g : Nat} (h : ∀ (x a : Int) (w : World), 0 ≤ x → x < 18446744073709551616 → Calls P g #[.int .u64 x, .int .i64 a] w (Ret w (.int .i64 (hMoved x a)))) : CAtOk P g cMoved := by
  intro args s t ht L β hl ha htp w R hw Q hk
  unfold cMoved at ht
  split at ht
  · rename_i x a
    simp only [Option.some.injEq] at ht
    subst ht
    obtain ⟨h1, h2⟩ := needs_leads hw.pi hl
    rw [frcT_eq] at h2
    have hx := isU64_ok h1
    refine at_pure hw (h x.v a.v w hx.1 hx.2) fun w' ho => ?_
    have := hk β (.c (.int .i64 (movT x a))) s w' h2 trivial rfl ho
    rw [show (SV.c (.int .i64 (movT x a))).den β = .int .i64 (movT x a).v from rfl, movT_v] at this
    exact this
  · cases ht
theorem cWord_ok {P : Program} {g : Nat} (h : ∀ (a b : Int) (w : World), Calls P g #[.agg #[.int .i64 a, .int .i64 b]] w (Ret w (.int .u64 (sW a b)))) : CAtOk P g cWord := by
  intro args s t ht L β hl ha htp w R hw Q hk
  unfold cWord at ht
  split at ht
  · rename_i a b
    simp only [Option.some.injEq] at ht
    subst ht
    rw [frcT_eq] at hl
    refine at_pure hw (h a.v b.v w) fun w' ho => ?_
    have := hk β (.c (.int .u64 (m2 1 sW a b))) s w' hl trivial rfl ho
    rw [show (SV.c (.int .u64 (m2 1 sW a b))).den β = .int .u64 (m2 1 sW a b).v from rfl, m2_v (fun _ _ => rfl)] at this
    exact this
  · cases ht
theorem mkHead_v (a b c d e f g : Tm) : (mkHead a b c d e f g).v = (HV.mk a.v b.v c.v d.v e.v f.v g.v).w := by
  unfold mkHead
  split <;> rfl
theorem cHeadWord_ok {P : Program} {g : Nat} (h : ∀ (v : HV) (w : World), Calls P g #[v.agg] w (Ret w (.int .u64 v.w))) : CAtOk P g cHeadWord := by
  intro args s t ht L β hl ha htp w R hw Q hk
  unfold cHeadWord at ht
  split at ht
  · rename_i a b c d e f g
    simp only [Option.some.injEq] at ht
    subst ht
    rw [frcT_eq] at hl
    refine at_pure hw (h (HV.mk a.v b.v c.v d.v e.v f.v g.v) w) fun w' ho => ?_
    have := hk β (.c (.int .u64 (mkHead a b c d e f g))) s w' hl trivial rfl ho
    rw [show (SV.c (.int .u64 (mkHead a b c d e f g))).den β = .int .u64 (mkHead a b c d e f g).v from rfl, mkHead_v] at this
    exact this
  · cases ht
theorem kind_int (n : Nat) (h : 0 < n) (x : UM) : (b1 (1000 + n) x).int = kindOf x.int (n : Int) := by
  unfold b1
  rw [if_neg (by omega), if_neg (by omega), if_neg (by omega), if_neg (by omega), if_neg (by omega), if_neg (by omega), if_neg (by omega), if_neg (by omega), if_neg (by omega), if_neg (by omega), if_neg (by omega), if_neg (by omega), if_neg (by omega), if_neg (by omega), if_neg (by omega), if_neg (by omega), if_neg (by omega), if_neg (by omega), if_neg (by omega), if_neg (by omega), if_neg (by omega), if_pos (by omega)]
  show kindOf x.int ((1000 + n - 1000 : Nat) : Int) = _
  rw [show 1000 + n - 1000 = n by omega]
theorem cKind_ok {P : Program} {g : Nat} (h : ∀ (c n : Int) (w : World), -9223372036854775808 ≤ c → c ≤ 9223372036854775807 → 0 < n → n ≤ 100000 → Calls P g #[.int .i64 c, .int .i64 n] w (fun e w' => e = .returned (.int .i64 (kindOf c n)) ∧ w' = w)) : CAtOk P g cKind := by
  intro args s t ht L β hl ha htp w R hw Q hk
  unfold cKind at ht
  split at ht
  · rename_i c n
    rw [Bool.cond_eq_ite] at ht
    split at ht
    · rename_i hn
      rw [Bool.and_eq_true] at hn
      have n1 : 1 ≤ n := of_decide_eq_true hn.1
      have n2 : n ≤ 100000 := of_decide_eq_true hn.2
      simp only [Option.some.injEq] at ht
      subst ht
      obtain ⟨h1, h2⟩ := needs_leads hw.pi hl
      rw [frcT_eq] at h2
      have a1 := h1 _ (List.mem_cons_self ..)
      have a2 := h1 _ (List.mem_cons_of_mem _ (List.mem_singleton.2 rfl))
      rw [mkNot_tv, mkLt_tv, lit_v] at a1
      rw [mkLt_tv, lit_v] at a2
      simp at a1 a2
      refine at_pure hw ((h c.v n w (by omega) (by omega) (by omega) n2).mono fun e w' ⟨he, hw'⟩ => ⟨he, by rw [hw']; exact Below.refl _ _⟩) fun w' ho => ?_
      have := hk β (.c (.int .i64 (m1 (1000 + n.toNat) (fun c => kindOf c n) c))) s w' h2 trivial rfl ho
      rw [show (SV.c (.int .i64 (m1 (1000 + n.toNat) (fun c => kindOf c n) c))).den β = .int .i64 (m1 (1000 + n.toNat) (fun c => kindOf c n) c).v from rfl, m1_v (fun x => by rw [kind_int _ (by omega), show ((n.toNat : Nat) : Int) = n by omega])] at this
      exact this
    · cases ht
  · cases ht
theorem cKindF_ok {P : Program} {g : Nat} (N : Int) (h : ∀ (c n : Int) (w : World), -9223372036854775808 ≤ c → c ≤ 9223372036854775807 → 0 < n → n ≤ 100000 → Calls P g #[.int .i64 c, .int .i64 n] w (fun e w' => e = .returned (.int .i64 (kindOf c n)) ∧ w' = w)) : CAtOk P g (cKindF N) := by
  intro args s t ht L β hl ha htp w R hw Q hk
  unfold cKindF at ht
  split at ht
  · rename_i c n
    rw [Bool.cond_eq_ite] at ht
    split at ht
    · rename_i hn
      simp only [Bool.and_eq_true] at hn
      obtain ⟨⟨n1, _⟩, n2⟩ := hn
      have n1 : 1 ≤ n := of_decide_eq_true n1
      have n2 : n ≤ 100000 := of_decide_eq_true n2
      simp only [Option.some.injEq] at ht
      subst ht
      obtain ⟨h1, h2⟩ := needs_leads hw.pi hl
      rw [frcT_eq] at h2
      have a1 := h1 _ (List.mem_cons_self ..)
      have a2 := h1 _ (List.mem_cons_of_mem _ (List.mem_singleton.2 rfl))
      rw [mkNot_tv, mkLt_tv, lit_v] at a1
      rw [mkLt_tv, lit_v] at a2
      simp at a1 a2
      obtain ⟨π', m, hp, hm, h3⟩ := forkI_leads h2 hw.pi
      rw [m1_v (fun x => by rw [kind_int _ (by omega), show ((n.toNat : Nat) : Int) = n by omega])] at hm
      refine at_pure hw ((h c.v n w (by omega) (by omega) (by omega) n2).mono fun e w' ⟨he, hw'⟩ => ⟨he, by rw [hw']; exact Below.refl _ _⟩) fun w' ho => ?_
      have := hk β (.c (.int .i64 (.lit (m : Int)))) ⟨π', s.H, s.n⟩ w' h3 trivial rfl ⟨ho.ag, ho.n, ⟨hp, ho.at_.wf, ho.at_.hold⟩, ho.st⟩
      rw [show (SV.c (.int .i64 (.lit (m : Int)))).den β = .int .i64 (m : Int) from rfl, ← hm] at this
      exact this
    · exact cKind_ok h _ s t ht L β hl ha htp w R hw Q hk
  · cases ht
theorem cKindS_ok {P : Program} {g : Nat} (N : Int) (skip : Tm → Bool) (h : ∀ (c n : Int) (w : World), -9223372036854775808 ≤ c → c ≤ 9223372036854775807 → 0 < n → n ≤ 100000 → Calls P g #[.int .i64 c, .int .i64 n] w (fun e w' => e = .returned (.int .i64 (kindOf c n)) ∧ w' = w)) : CAtOk P g (cKindS N skip) := by
  intro args s t ht
  unfold cKindS at ht
  split at ht
  · rw [Bool.cond_eq_ite] at ht
    split at ht
    · exact cKind_ok h _ _ _ ht
    · exact cKindF_ok N h _ _ _ ht
  · exact cKind_ok h _ _ _ ht
theorem room_ok {c : Tm} (h : ∀ p ∈ room c, p.tv = true) : c.v < 1099511627775 := by
  have h1 := h _ (List.mem_singleton.2 rfl)
  rw [mkLt_tv, lit_v] at h1
  simpa using h1
/-- What a memory's object holds. -/
theorem memO_open {T : Nat} {u : UM} {b : Nat} {w : World} {R : HProp} (H : Holds w (MemO T u b * R)) : ((memOf u.fst).ok ∧ ((memOf u.fst).n : Int) ≤ u.snd.int ∧ ((memOf u.fst).cnt : Int) ≤ u.snd.int ∧ ((memOf u.fst).tr : Int) ≤ u.snd.int) ∧ Holds w (MemP T b (memOf u.fst) * R) := holds_and H
theorem ok_acc {M : MS} {c : Int} (h : M.ok) (h1 : (M.n : Int) ≤ c) (h2 : (M.cnt : Int) ≤ c) (h3 : (M.tr : Int) ≤ c) (hc : c < 1099511627775) (b : Bool) : (M.acc b).ok ∧ ((M.acc b).n : Int) ≤ c + 1 ∧ ((M.acc b).cnt : Int) ≤ c + 1 ∧ ((M.acc b).tr : Int) ≤ c + 1 := by
  obtain ⟨g1, g2, g3, g4, g5⟩ := h
  refine ⟨⟨g1, g2, ?_, ?_, ?_⟩, ?_, ?_, ?_⟩ <;> cases b <;> simp only [MS.acc, if_true, Bool.false_eq_true, if_false] <;> omega
theorem ok_set {M : MS} (h : M.ok) (i : Nat) {x : Int} (hx : 0 ≤ x ∧ x < 18446744073709551616) : ({ M with ws := M.ws.set i x } : MS).ok := by
  obtain ⟨g1, g2, g3, g4, g5⟩ := h
  refine ⟨by simpa using g1, fun y hy => ?_, g3, g4, g5⟩
  rcases List.mem_or_eq_of_mem_set hy with hy | rfl
  · exact g2 y hy
  · exact hx
theorem ok_store {M : MS} {c : Int} (h : M.ok) (h1 : (M.n : Int) ≤ c) (h2 : (M.cnt : Int) ≤ c) (h3 : (M.tr : Int) ≤ c) (hc : c < 1099511627775) (a : Int) {x : Int} (hx : 0 ≤ x ∧ x < 18446744073709551616) : (M.store a x).ok ∧ ((M.store a x).n : Int) ≤ c + 1 ∧ ((M.store a x).cnt : Int) ≤ c + 1 ∧ ((M.store a x).tr : Int) ≤ c + 1 := by
  unfold MS.store MS.put
  split
  · exact ok_acc (ok_set h _ hx) h1 h2 h3 hc _
  · exact ok_acc h h1 h2 h3 hc _
theorem ok_cas {M : MS} {c : Int} (h : M.ok) (h1 : (M.n : Int) ≤ c) (h2 : (M.cnt : Int) ≤ c) (h3 : (M.tr : Int) ≤ c) (hc : c < 1099511627775) (a o : Int) {x : Int} (hx : 0 ≤ x ∧ x < 18446744073709551616) : (M.cas a o x).ok ∧ ((M.cas a o x).n : Int) ≤ c + 1 ∧ ((M.cas a o x).cnt : Int) ≤ c + 1 ∧ ((M.cas a o x).tr : Int) ≤ c + 1 := by
  unfold MS.cas
  split
  · exact ok_acc (ok_set h _ hx) h1 h2 h3 hc _
  · exact ok_acc h h1 h2 h3 hc _
theorem load_in {M : MS} (h : M.ok) (a : Int) : 0 ≤ M.load a ∧ M.load a < 18446744073709551616 := by
  unfold MS.load
  split
  · unfold MS.get
    cases hh : M.ws[a.toNat]? with
    | none => simp [hh]
    | some v =>
      simp only [List.getD_eq_getElem?_getD, hh, Option.getD_some]
      exact h.wd v (List.mem_of_getElem? hh)
  · omega
theorem memO_of {T : Nat} {u : UM} {ns : List Nat} {b : Nat} {h : Hp} (H : MemX T u ns b h) : MemO T u b h := by
  unfold MemX at H
  split at H
  · obtain ⟨h1, h2⟩ := H
    exact ⟨h1, _, h2⟩
  · exact H
theorem ob_of {k T : Nat} (hk : k = 1 ∧ T = 101 ∨ k = 2 ∧ T = 50) (u : UM) (b : Nat) : Interp.ob k u [] b = MemO T u b := by
  rcases hk with ⟨rfl, rfl⟩ | ⟨rfl, rfl⟩ <;> rfl
theorem ob_get {k T : Nat} (hk : k = 1 ∧ T = 101 ∨ k = 2 ∧ T = 50) {u : UM} {ns : List Nat} {b : Nat} {w : World} {R : HProp} (H : Holds w (Interp.ob k u ns b * R)) : Holds w (MemO T u b * R) := by
  rcases hk with ⟨rfl, rfl⟩ | ⟨rfl, rfl⟩
  · exact H.mono (star_mono (fun _ p => memO_of p) (fun _ r => r))
  · exact H.mono (star_mono (fun _ p => memO_of p) (fun _ r => r))
theorem cLoad_ok {P : Program} {g k T : Nat} (hk0 : k = 1 ∧ T = 101 ∨ k = 2 ∧ T = 50)
    (h : ∀ (w : World) (R : HProp) (mb : Nat) (M : MS) (a : Int), Holds w (MemP T mb M * R) → M.ok → Calls P g #[.pointer (some ⟨mb, 0, none⟩), .int .i64 a] w fun e w' => e = .returned (.int .u64 (M.load a)) ∧ Holds w' (MemP T mb (M.loaded a) * R) ∧ Strm w w') : CAtOk P g (cLoad k) := by
  intro args s t ht L β hl ha htp w R hw Q hk
  unfold cLoad at ht
  split at ht
  · rename_i nm a
    obtain ⟨π, H, n⟩ := s
    dsimp only at ht
    split at ht
    · rename_i j x ns hf
      rw [Bool.cond_eq_ite] at ht
      split at ht
      · rename_i hj
        have hj := Nat.eq_of_beq_eq_true hj
        subst hj
        simp only [frcT_eq, frcH_eq, Option.some.injEq] at ht
        subst ht
        obtain ⟨h1, h2⟩ := needs_leads hw.pi hl
        have hc := room_ok h1
        rw [snd_v] at hc
        have hx : x.den.fst = (mkFst x).den := (fst_den x).symm
        have hns : ∀ m ∈ ns, m < n := (hw.wf _ (find_mem hf)).2
        have hf' : find (⟨π, H, n⟩ : St).H nm = some (.abs j x ns) := hf
        have hob := focus hf hw.hold
        have hob2 : Holds w (MemO T x.den (β nm) * (hden β (del H nm) * R)) := ob_get hk0 hob
        obtain ⟨⟨ok, b1', b2', b3'⟩, _⟩ := memO_open hob2
        have hcall := h w
        refine at_obj (o := .abs j x ns) (o1 := .abs j (.a2 .pair (i2 21 (mkFst x) a) (mkAdd (mkSnd x) (.lit 1))) []) hw hf' (fun _ h => nomatch h) (V := .int .u64 ((memOf x.den.fst).load a.v)) (fun R' hR => ?_) fun w' ho => ?_
        · have hR2 : Holds w (MemO T x.den (β nm) * R') := ob_get hk0 hR
          refine (h w R' (β nm) _ a.v (memO_open hR2).2 ok).mono ?_
          rintro e w' ⟨rfl, g1, g2⟩
          refine ⟨rfl, ?_, g2⟩
          show Holds w' (Interp.ob j _ [] _ * R')
          rw [ob_of hk0]
          refine holds_and_mk ?_ ?_
          · show ((memOf (mkFst x).den).loaded a.v).ok ∧ (((memOf (mkFst x).den).loaded a.v).n : Int) ≤ (mkAdd (mkSnd x) (.lit 1)).v ∧ (((memOf (mkFst x).den).loaded a.v).cnt : Int) ≤ (mkAdd (mkSnd x) (.lit 1)).v ∧ (((memOf (mkFst x).den).loaded a.v).tr : Int) ≤ (mkAdd (mkSnd x) (.lit 1)).v
            rw [mkAdd_v, lit_v, ← hx, snd_v]
            exact ok_acc ok b1' b2' b3' hc _
          · show Holds w' (MemP T (β nm) ((memOf (mkFst x).den).loaded a.v) * R')
            rw [← hx]; exact g1
        · have := hk β (.c (.int .u64 (mkLoad π a (mkFst x)))) _ w' h2 trivial rfl ho
          rw [show (SV.c (.int .u64 (mkLoad π a (mkFst x)))).den β = .int .u64 (mkLoad π a (mkFst x)).v from rfl, mkLoad_v hw.pi, ← hx, cl64_in (load_in ok _)] at this
          exact this
      · cases ht
    · cases ht
  · cases ht
theorem cStore_ok {P : Program} {g k T : Nat} (hk0 : k = 1 ∧ T = 101 ∨ k = 2 ∧ T = 50)
    (h : ∀ (w : World) (R : HProp) (mb : Nat) (M : MS) (a x : Int), Holds w (MemP T mb M * R) → M.ok → Calls P g #[.pointer (some ⟨mb, 0, none⟩), .int .i64 a, .int .u64 x] w fun e w' => e = .returned (.tuple #[]) ∧ Holds w' (MemP T mb (M.store a x) * R) ∧ Strm w w') : CAtOk P g (cStore k) := by
  intro args s t ht L β hl ha htp w R hw Q hk
  unfold cStore at ht
  split at ht
  · rename_i nm a v
    obtain ⟨π, H, n⟩ := s
    dsimp only at ht
    split at ht
    · rename_i j x ns hf
      rw [Bool.cond_eq_ite] at ht
      split at ht
      · rename_i hj
        have hj := Nat.eq_of_beq_eq_true hj
        subst hj
        simp only [frcT_eq, frcH_eq, Option.some.injEq] at ht
        subst ht
        obtain ⟨h1, h2⟩ := needs_leads hw.pi hl
        have hc := room_ok (c := mkSnd x) (fun p hp => h1 p (List.mem_append_left _ hp))
        have hv := isU64_ok (x := v) (fun p hp => h1 p (List.mem_append_right _ hp))
        rw [snd_v] at hc
        have hx : x.den.fst = (mkFst x).den := (fst_den x).symm
        have hns : ∀ m ∈ ns, m < n := (hw.wf _ (find_mem hf)).2
        have hf' : find (⟨π, H, n⟩ : St).H nm = some (.abs j x ns) := hf
        have hob := focus hf hw.hold
        have hob2 : Holds w (MemO T x.den (β nm) * (hden β (del H nm) * R)) := ob_get hk0 hob
        obtain ⟨⟨ok, b1', b2', b3'⟩, _⟩ := memO_open hob2
        refine at_obj (o := .abs j x ns) (o1 := .abs j (.a2 .pair (i2 22 (mkFst x) (.a2 .pair a v)) (mkAdd (mkSnd x) (.lit 1))) []) hw hf' (fun _ h => nomatch h) (V := .tuple #[]) (fun R' hR => ?_) fun w' ho => ?_
        · have hR2 : Holds w (MemO T x.den (β nm) * R') := ob_get hk0 hR
          refine (h w R' (β nm) _ a.v v.v (memO_open hR2).2 ok).mono ?_
          rintro e w' ⟨rfl, g1, g2⟩
          refine ⟨rfl, ?_, g2⟩
          show Holds w' (Interp.ob j _ [] _ * R')
          rw [ob_of hk0]
          refine holds_and_mk ?_ ?_
          · show ((memOf (mkFst x).den).store a.v v.v).ok ∧ (((memOf (mkFst x).den).store a.v v.v).n : Int) ≤ (mkAdd (mkSnd x) (.lit 1)).v ∧ (((memOf (mkFst x).den).store a.v v.v).cnt : Int) ≤ (mkAdd (mkSnd x) (.lit 1)).v ∧ (((memOf (mkFst x).den).store a.v v.v).tr : Int) ≤ (mkAdd (mkSnd x) (.lit 1)).v
            rw [mkAdd_v, lit_v, ← hx, snd_v]
            exact ok_store ok b1' b2' b3' hc _ hv
          · show Holds w' (MemP T (β nm) ((memOf (mkFst x).den).store a.v v.v) * R')
            rw [← hx]; exact g1
        · exact hk β .un _ w' h2 (un_wf _) rfl ho
      · cases ht
    · cases ht
  · cases ht
theorem cas_yes {M : MS} {a o x : Int} (h0 : 0 ≤ a) (h1 : a < M.ws.length) (he : M.load a = o) : M.casOk a o = true ∧ M.cas a o x = M.store a x := by
  have ht : M.there a = true := by simp [MS.there]; omega
  have hg : M.get a = o := by rw [← he]; unfold MS.load; rw [if_pos ht]
  have hc : M.casOk a o = true := by simp [MS.casOk, ht, hg]
  refine ⟨hc, ?_⟩
  unfold MS.cas MS.store MS.put
  rw [if_pos hc, if_pos ht]
theorem cas_no {M : MS} {a o x : Int} (h0 : 0 ≤ a) (h1 : a < M.ws.length) (he : M.load a ≠ o) : M.casOk a o = false ∧ M.cas a o x = M.loaded a := by
  have ht : M.there a = true := by simp [MS.there]; omega
  have hg : M.get a ≠ o := fun e => he (by rw [← e]; unfold MS.load; rw [if_pos ht])
  have hc : M.casOk a o = false := by simp [MS.casOk, ht, hg]
  refine ⟨hc, ?_⟩
  unfold MS.cas MS.loaded
  rw [if_neg (by rw [hc]; simp)]
theorem vkT_v {π : Pi} (hπ : facts π) (x : Tm) : (vkT π x).v = vK x.v := by
  unfold vkT
  split
  · rename_i k n
    rw [Bool.cond_eq_ite]
    split
    · rename_i h
      rw [Bool.and_eq_true] at h
      have hr := Rg.inside_ok (selRg_ok hπ k) h.2
      show k.v = vK (sW k.v n.v)
      rw [vK_sW _ _ (by omega) (by omega)]
    · rfl
  · rename_i k n
    rw [Bool.cond_eq_ite]
    split
    · rename_i h
      rw [Bool.and_eq_true] at h
      have hr := Rg.inside_ok (selRg_ok hπ k) h.2
      show k.v = vK (frz (cl64 (sW k.v n.v)))
      rw [vK_frz, cl64_in ⟨sW_lo _ _, sW_hi _ _⟩, vK_sW _ _ (by omega) (by omega)]
    · show vK (sW k.v n.v) = vK (frz (cl64 (sW k.v n.v)))
      rw [vK_frz, cl64_in ⟨sW_lo _ _, sW_hi _ _⟩]
  · exact m1_v (fun _ => rfl) _
theorem vnT_v {π : Pi} (hπ : facts π) (x : Tm) : (vnT π x).v = vN (cl64 x.v) := by
  unfold vnT
  split
  · rename_i k n
    rw [Bool.cond_eq_ite]
    split
    · rename_i h
      rw [Bool.and_eq_true] at h
      have hr := Rg.inside_ok (selRg_ok hπ n) h.2
      show n.v = vN (cl64 (sW k.v n.v))
      rw [cl64_in ⟨sW_lo _ _, sW_hi _ _⟩, vN_sW _ _ (by omega) (by omega)]
    · rfl
  · rename_i k n
    rw [Bool.cond_eq_ite]
    split
    · rename_i h
      rw [Bool.and_eq_true] at h
      have hr := Rg.inside_ok (selRg_ok hπ n) h.2
      show n.v = vN (cl64 (frz (cl64 (sW k.v n.v))))
      rw [cl64_in (frz_rng (cl64_rng _)), vN_frz, cl64_in ⟨sW_lo _ _, sW_hi _ _⟩, vN_sW _ _ (by omega) (by omega)]
    · show vN (cl64 (sW k.v n.v)) = vN (cl64 (frz (cl64 (sW k.v n.v))))
      rw [cl64_in (frz_rng (cl64_rng _)), vN_frz]
  · exact m1_v (fun _ => rfl) _
theorem brW_leads {x o : Tm} {π : Pi} {k : Pi → Bool → Rt} {L : Bl → SV × St → Prop} {β : Bl} (h : (brW x o π k).Leads L β) (hπ : facts π) : ∃ π', facts π' ∧ (k π' (mkEq x o).tv).Leads L β := by
  unfold brW at h
  split at h
  · rename_i p q
    rw [Bool.cond_eq_ite] at h
    split at h
    · rename_i hc
      simp only [Bool.and_eq_true] at hc
      obtain ⟨⟨⟨_, h1⟩, h2⟩, h3⟩ := hc
      have r1 := Rg.inside_ok (selRg_ok hπ p) h1
      have r2 := Rg.inside_ok (selRg_ok hπ q) h2
      have r3 := Rg.inside_ok (selRg_ok hπ o) h3
      obtain ⟨π', hp, h4⟩ := br_leads h hπ
      cases hb : (mkAnd (mkEq p (vkT π o)) (mkEq q (vnT π o))).tv with
      | true =>
        rw [hb] at h4
        exact br_leads h4 hp
      | false =>
        rw [hb] at h4
        refine ⟨π', hp, ?_⟩
        have e : (mkEq (i2 1 p q) o).tv = false := by
          rw [mkEq_tv]
          refine decide_eq_false fun he => ?_
          have he : sW p.v q.v = o.v := he
          rw [mkAnd_tv, mkEq_tv, mkEq_tv, vkT_v hπ, vnT_v hπ, ← he, cl64_in ⟨sW_lo _ _, sW_hi _ _⟩, vK_sW _ _ (by omega) (by omega), vN_sW _ _ (by omega) (by omega)] at hb
          simp at hb
        rw [e]
        exact h4
    · exact br_leads h hπ
  · exact br_leads h hπ
theorem fzOf_ok {x : Tm} {n : Int} (h : fzOf x = some n) : (0 ≤ x.v ∧ x.v < 18446744073709551616) ∧ fzB x.v = n := by
  unfold fzOf at h
  split at h
  · rename_i a
    rw [Bool.cond_eq_ite] at h
    split at h
    · rename_i hc
      rw [Bool.and_eq_true] at hc
      have h1 : 0 ≤ a := of_decide_eq_true hc.1
      have h2 : a ≤ 18446744073709551615 := of_decide_eq_true hc.2
      cases h
      exact ⟨⟨h1, by show a < _; omega⟩, rfl⟩
    · cases h
  · rename_i w
    cases h
    exact ⟨frz_rng (cl64_rng w.v), fzB_frz _⟩
  · rename_i w
    cases h
    exact ⟨thw_rng (cl64_rng w.v), fzB_thw _⟩
  · rename_i k n
    cases h
    exact ⟨⟨sW_lo _ _, sW_hi _ _⟩, fzB_sW _ _⟩
  · cases h
theorem brZ_leads {x o : Tm} {π : Pi} {k : Pi → Bool → Rt} {L : Bl → SV × St → Prop} {β : Bl} (h : (brZ x o π k).Leads L β) (hπ : facts π) : ∃ π', facts π' ∧ (k π' (mkEq x o).tv).Leads L β := by
  unfold brZ at h
  split at h
  · rename_i a b ha hb
    obtain ⟨r1, f1⟩ := fzOf_ok ha
    obtain ⟨r2, f2⟩ := fzOf_ok hb
    rw [Bool.cond_eq_ite] at h
    split at h
    · rename_i hab
      have hab := intBeq_eq hab
      rw [Bool.cond_eq_ite] at h
      split at h
      · exact brW_leads h hπ
      · rw [frcT_eq, frcT_eq] at h
        obtain ⟨π', h1, h2⟩ := brW_leads h hπ
        refine ⟨π', h1, ?_⟩
        have e : (mkEq (mkThw x) (mkThw o)).tv = (mkEq x o).tv := by
          rw [mkEq_tv, mkEq_tv]
          have e1 : (mkThw x).v = thw x.v := by rw [Tm.v, mkThw_den, cl64_in r1]; rfl
          have e2 : (mkThw o).v = thw o.v := by rw [Tm.v, mkThw_den, cl64_in r2]; rfl
          rw [e1, e2]
          have := thw_inj (x := x.v) (y := o.v) (by rw [f1, f2, hab])
          rw [Bool.eq_iff_iff]; simp [this]
        rw [← e]
        exact h2
    · rename_i hab
      refine ⟨π, hπ, ?_⟩
      have e : (mkEq x o).tv = false := by
        rw [mkEq_tv]
        refine decide_eq_false fun he => hab ?_
        have : a = b := by rw [← f1, ← f2, he]
        subst this
        rw [intBeq_iff]; simp
      rw [e]
      exact h
  · exact brW_leads h hπ
theorem casOk_cw (M : Tm) (a o : Int) : (memOf (cw M).den).casOk a o = (memOf M.den).casOk a o := by
  unfold cw
  split <;> rfl
theorem cCas_ok {P : Program} {g k T : Nat} (hk0 : k = 1 ∧ T = 101 ∨ k = 2 ∧ T = 50)
    (h : ∀ (w : World) (R : HProp) (mb : Nat) (M : MS) (a o x : Int), Holds w (MemP T mb M * R) → M.ok → Calls P g #[.pointer (some ⟨mb, 0, none⟩), .int .i64 a, .int .u64 o, .int .u64 x] w fun e w' => e = .returned (.bool (M.casOk a o)) ∧ Holds w' (MemP T mb (M.cas a o x) * R) ∧ Strm w w') : CAtOk P g (cCas k) := by
  intro args s t ht L β hl ha htp w R hw Q hk
  unfold cCas at ht
  split at ht
  · rename_i nm a o v
    obtain ⟨π, H, n⟩ := s
    dsimp only at ht
    split at ht
    · rename_i j x ns hf
      rw [Bool.cond_eq_ite] at ht
      split at ht
      · rename_i hj
        have hj := Nat.eq_of_beq_eq_true hj
        subst hj
        simp only [frcT_eq, frcH_eq] at ht
        have hx : x.den.fst = (mkFst x).den := (fst_den x).symm
        have hns : ∀ m ∈ ns, m < n := (hw.wf _ (find_mem hf)).2
        have hf' : find (⟨π, H, n⟩ : St).H nm = some (.abs j x ns) := hf
        have hob := focus hf hw.hold
        have hob2 : Holds w (MemO T x.den (β nm) * (hden β (del H nm) * R)) := ob_get hk0 hob
        obtain ⟨⟨ok, b1', b2', b3'⟩, _⟩ := memO_open hob2
        have core : ∀ (M1 : Tm) (V : Bool) (s0 : St), s0 = ⟨π, H, n⟩ ∨ (∃ π', facts π' ∧ s0 = ⟨π', H, n⟩) → (mkSnd x).v < 1099511627775 → (0 ≤ v.v ∧ v.v < 18446744073709551616) → memOf M1.den = (memOf x.den.fst).cas a.v o.v v.v → V = (memOf x.den.fst).casOk a.v o.v →
            (∀ w', Out β ⟨π, H, n⟩ w R β ⟨s0.pi, put H nm (.abs j (.a2 .pair M1 (mkAdd (mkSnd x) (.lit 1))) []), n⟩ w' → Q (.returned (.bool V)) w') → Calls P g #[.pointer (some ⟨β nm, 0, none⟩), .int .i64 a.v, .int .u64 o.v, .int .u64 v.v] w Q := by
          intro M1 V s0 hs0 hc hv hM hV hfin
          rw [snd_v] at hc
          refine at_obj (o := .abs j x ns) (o1 := .abs j (.a2 .pair M1 (mkAdd (mkSnd x) (.lit 1))) []) hw hf' (fun _ h => nomatch h) (V := .bool V) (fun R' hR => ?_) fun w' ho => ?_
          · have hR2 : Holds w (MemO T x.den (β nm) * R') := ob_get hk0 hR
            refine (h w R' (β nm) _ a.v o.v v.v (memO_open hR2).2 ok).mono ?_
            rintro e w' ⟨rfl, g1, g2⟩
            refine ⟨by rw [hV], ?_, g2⟩
            show Holds w' (Interp.ob j _ [] _ * R')
            rw [ob_of hk0]
            refine holds_and_mk ?_ ?_
            · show (memOf M1.den).ok ∧ ((memOf M1.den).n : Int) ≤ (mkAdd (mkSnd x) (.lit 1)).v ∧ ((memOf M1.den).cnt : Int) ≤ (mkAdd (mkSnd x) (.lit 1)).v ∧ ((memOf M1.den).tr : Int) ≤ (mkAdd (mkSnd x) (.lit 1)).v
              rw [mkAdd_v, lit_v, hM, snd_v]
              exact ok_cas ok b1' b2' b3' hc _ _ hv
            · show Holds w' (MemP T (β nm) (memOf M1.den) * R')
              rw [hM]; exact g1
          · refine hfin w' ?_
            rcases hs0 with rfl | ⟨π', hp, rfl⟩
            · exact ho
            · exact ⟨ho.ag, ho.n, ⟨hp, ho.at_.wf, ho.at_.hold⟩, ho.st⟩
        rw [Bool.cond_eq_ite] at ht
        split at ht
        · rename_i hkn
          simp only [Option.some.injEq] at ht
          subst ht
          obtain ⟨h1, h2⟩ := needs_leads hw.pi hl
          have hc := room_ok (c := mkSnd x) (fun p hp => h1 p (List.mem_append_left _ hp))
          have hv := isU64_ok (x := v) (fun p hp => h1 p (List.mem_append_right _ hp))
          obtain ⟨π', hp, h3⟩ := brZ_leads h2 hw.pi
          unfold known at hkn
          split at hkn
          · rename_i a0
            unfold inLen at hkn
            split at hkn
            · rename_i n0 hn0
              rw [Bool.and_eq_true] at hkn
              have g0 : 0 ≤ a0 := of_decide_eq_true hkn.1
              have g1 : a0 + 1 ≤ n0 := of_decide_eq_true hkn.2
              have hlen := mlen_ok hn0 (by omega)
              rw [← hx] at hlen
              have hld : (mkLoad π (.lit a0) (mkFst x)).v = (memOf x.den.fst).load a0 := by rw [mkLoad_v hw.pi, ← hx, lit_v, cl64_in (load_in ok _)]
              cases hb : (mkEq (mkLoad π (.lit a0) (mkFst x)) o).tv with
              | true =>
                rw [hb] at h3
                simp only [cond_true] at h3
                rw [mkEq_tv, hld] at hb
                have he : (memOf x.den.fst).load a0 = o.v := by simpa using hb
                obtain ⟨c1, c2⟩ := cas_yes (x := v.v) g0 (by omega) he
                exact core (i2 22 (mkFst x) (.a2 .pair (.lit a0) v)) true ⟨π', H, n⟩ (.inr ⟨π', hp, rfl⟩) hc hv (by rw [show (Tm.lit a0).v = a0 from rfl, c2, hx]; rfl) c1.symm fun w' ho => hk β (.c (.bool (.bl true))) _ w' h3 trivial rfl ho
              | false =>
                rw [hb] at h3
                simp only [cond_false] at h3
                rw [mkEq_tv, hld] at hb
                have he : (memOf x.den.fst).load a0 ≠ o.v := by simpa using hb
                obtain ⟨c1, c2⟩ := cas_no (x := v.v) g0 (by omega) he
                exact core (i2 21 (mkFst x) (.lit a0)) false ⟨π', H, n⟩ (.inr ⟨π', hp, rfl⟩) hc hv (by rw [show (Tm.lit a0).v = a0 from rfl, c2, hx]; rfl) c1.symm fun w' ho => hk β (.c (.bool (.bl false))) _ w' h3 trivial rfl ho
            · cases hkn
          · cases hkn
        · simp only [Option.some.injEq] at ht
          subst ht
          obtain ⟨h1, h2⟩ := needs_leads hw.pi hl
          have hc := room_ok (c := mkSnd x) (fun p hp => h1 p (List.mem_append_left _ hp))
          have hv := isU64_ok (x := v) (fun p hp => h1 p (List.mem_append_right _ hp))
          exact core (i2 24 (mkFst x) (.a2 .pair a (.a2 .pair o v))) ((memOf x.den.fst).casOk a.v o.v) ⟨π, H, n⟩ (.inl rfl) hc hv (by rw [hx]; rfl) rfl fun w' ho => by
            have := hk β (.c (.bool (i2 23 (cw (mkFst x)) (.a2 .pair a o)))) _ w' h2 trivial rfl ho
            rw [show (SV.c (.bool (i2 23 (cw (mkFst x)) (.a2 .pair a o)))).den β = .bool ((memOf (cw (mkFst x)).den).casOk a.v o.v) from rfl, casOk_cw, ← hx] at this
            exact this
      · cases ht
    · cases ht
  · cases ht
end
/-! ### addresses by their definitions -/
section
variable [Ext] [Exp]
def conc {α : Type} : Nat → Tm → Pi → (Pi → Tm → Tree α) → Tree α
  | 0, a, π, k => k π a
  | g + 1, a, π, k =>
    match a with
    | .a2 .sel c (.a2 .pair x y) => br c π fun π b => conc g (exK π (bif b then x else y)) π k
    | a => k π a
/-- The address of a memory's access parted into what it may be. -/
def cEx (c : CtrAt) : CtrAt := fun args s =>
  match args with
  | p :: .a (.one (.int j a)) :: r => bif isEx a then
      some (conc 8 (exK s.pi a) s.pi fun π a' => frcT a' fun a' => match c (p :: .c (.int j a') :: r) ⟨π, s.H, s.n⟩ with
        | some t => t
        | none => .fail 64)
    else c args s
  | _ => c args s
variable [Vars]
theorem conc_leads {α : Type} {L : Bl → α → Prop} {β : Bl} : ∀ {g : Nat} {a : Tm} {π : Pi} {k : Pi → Tm → Tree α}, (conc g a π k).Leads L β → facts π → ∃ π' a', facts π' ∧ a'.den = a.den ∧ (k π' a').Leads L β
  | 0, a, π, k, h, hπ => ⟨π, a, hπ, rfl, h⟩
  | g + 1, a, π, k, h, hπ => by
    unfold conc at h
    split at h
    · rename_i c x y
      obtain ⟨π', h1, h2⟩ := br_leads h hπ
      obtain ⟨π'', a', h3, h4, h5⟩ := conc_leads h2 h1
      refine ⟨π'', a', h3, ?_, h5⟩
      rw [h4, exK_den h1]
      show (bif c.tv then x else y).den = (bif c.tv then x.den else y.den)
      cases c.tv <;> rfl
    · exact ⟨π, _, hπ, rfl, h⟩
theorem cEx_ok {P : Program} {f : Nat} {c : CtrAt} (hc : CAtOk P f c) : CAtOk P f (cEx c) := by
  intro args s t ht L β hl ha htp w R hw Q hk
  unfold cEx at ht
  split at ht
  · rename_i p j a r
    rw [Bool.cond_eq_ite] at ht
    split at ht
    · simp only [Option.some.injEq] at ht
      subst ht
      obtain ⟨π', a', h1, h2, h3⟩ := conc_leads hl hw.pi
      rw [frcT_eq] at h3
      split at h3
      · rename_i t ht'
        rw [exK_den hw.pi] at h2
        have e : (p :: SV.c (.int j a) :: r).map (SV.den β) = (p :: SV.c (.int j a') :: r).map (SV.den β) := by
          have : (SV.c (.int j a)).den β = (SV.c (.int j a')).den β := by
            show Value.int j a.v = .int j a'.v
            rw [Tm.v, Tm.v, h2]
          rw [List.map_cons, List.map_cons, this, List.map_cons, List.map_cons]
        rw [e]
        refine hc _ ⟨π', s.H, s.n⟩ t ht' L β h3 (fun x hx => ?_) (fun x hx => ?_) w R ⟨h1, hw.wf, hw.hold⟩ Q fun β' v s' w' g1 g2 g3 g4 => hk β' v s' w' g1 g2 g3 ⟨g4.ag, g4.n, g4.at_, g4.st⟩
        · rcases List.mem_cons.1 hx with rfl | hx
          · exact ha _ (List.mem_cons_self ..)
          · rcases List.mem_cons.1 hx with rfl | hx
            · exact trivial
            · exact ha _ (List.mem_cons_of_mem _ (List.mem_cons_of_mem _ hx))
        · rcases List.mem_cons.1 hx with rfl | hx
          · exact htp _ (List.mem_cons_self ..)
          · rcases List.mem_cons.1 hx with rfl | hx
            · rfl
            · exact htp _ (List.mem_cons_of_mem _ (List.mem_cons_of_mem _ hx))
      · exact h3.elim
    · exact hc _ _ _ ht L β hl ha htp w R hw Q hk
  · exact hc _ _ _ ht L β hl ha htp w R hw Q hk
end
end Go.Proofs.Ytmmpnjcmaodkcaa.Ef
