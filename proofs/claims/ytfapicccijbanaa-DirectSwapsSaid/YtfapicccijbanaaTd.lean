/- What is proved: operations that neither read nor make memory yield what the second evaluator says, in whatever world. Conditions: the evaluator's own premises. -/
import Derived.Test.YtfapicccijbanaaTc
import Derived.Laws.Tables
import Derived.Laws.Pointers
import Derived.Laws.Slices
import Derived.Lib.MinMax
namespace Go.Proofs.Ytfapicccijbanaa.Ef
open Go Go.Proofs.Ytfapicccijbanaa.Sep
open Go.Proofs.Ytfapicccijbanaa.Ev (Fast tyAgg tySize run_underlying' run_isAgg' run_sizeOf' run_zeroValue')
set_option linter.unusedVariables false
set_option linter.unusedSimpArgs false
set_option linter.unusedSectionVars false
def tyPart (P : Program) [Fast P] (t : TypeId) (l : List SC) (off : Nat) : Option SA :=
  match tyAgg P t, tySize P t with
  | some true, some n => some (.agg ((l.drop off).take n))
  | some false, _ => (l[off]?).map .one
  | _, _ => none
theorem tyPart_wf {P : Program} [Fast P] {n : Nat} {t : TypeId} {l : List SC} {off : Nat} {x : SA} (h : tyPart P t l off = some x) (hl : lwf n l) : x.wf n := by
  unfold tyPart at h
  split at h
  · simp only [Option.some.injEq] at h
    subst h
    intro c hc
    exact hl c (List.mem_of_mem_drop (List.mem_of_mem_take hc))
  · cases hc : l[off]? with
    | none => rw [hc] at h; simp at h
    | some c => rw [hc] at h; simp at h; subst h; exact hl c (List.mem_of_getElem? hc)
  · cases h
/-! ### numbers -/
section
variable [Interp] [Rules]
def mkWrap (π : Pi) (k : IntKind) (t : Tm) : Tm :=
  match t with
  | .lit n => .lit (k.wrap n)
  | t => bif (selRg π t).inside k.min k.max then t else .a1 (.wrap k) t
theorem mkWrap_v [Vars] {π : Pi} (hf : facts π) (k : IntKind) (t : Tm) : (mkWrap π k t).v = k.wrap t.v := by
  unfold mkWrap
  split
  · rfl
  · rw [Bool.cond_eq_ite]
    split
    · rename_i h
      have := Rg.inside_ok (selRg_ok hf t) h
      exact (wrap_in this).symm
    · rfl
end
def cmpT (op : BinOp) (x y : Tm) : Tm :=
  match op with
  | .eql => mkEq x y
  | .neq => mkNot (mkEq x y)
  | .lss => mkLt x y
  | .leq => mkNot (mkLt y x)
  | .gtr => mkLt y x
  | _ => mkNot (mkLt x y)
def foldI (f : Int → Int → Int) (g : F2) (x y : Tm) : Tm :=
  match x, y with
  | .lit a, .lit b => .lit (f a b)
  | x, y => .a2 g x y
def sameK (j k : IntKind) : Bool := Nat.beq (kCode j) (kCode k)
def nonZero (y : Tm) : Tm := mkNot (mkEq y (.lit 0))
def nonNeg (y : Tm) : Tm := mkNot (mkLt y (.lit 0))
section
variable [Interp] [Rules]
def binInt (π : Pi) (op : BinOp) (k : IntKind) (x : Tm) (k' : IntKind) (y : Tm) : Option (List Tm × SC) :=
  match op with
  | .shl => some ([nonNeg y], .int k (foldI (shlV k) (.shl k) x y))
  | .shr => some ([nonNeg y], .int k (foldI (shrV k) (.shr k) x y))
  | op =>
    bif !sameK k k' then none else
    match op with
    | .add => some ([], .int k (mkWrap π k (mkAdd x y)))
    | .sub => some ([], .int k (mkWrap π k (mkSub x y)))
    | .mul => some ([], .int k (mkWrap π k (mkMul x y)))
    | .quo => some ([nonZero y], .int k (foldI (fun a b => k.wrap (a.tdiv b)) (.quo k) x y))
    | .rem => some ([nonZero y], .int k (foldI Int.tmod .rem x y))
    | .and => some ([], .int k (foldI (bitsV .and k) (.band k) x y))
    | .or => some ([], .int k (foldI (bitsV .or k) (.bor k) x y))
    | .xor => some ([], .int k (foldI (bitsV .xor k) (.bxor k) x y))
    | .andNot => some ([], .int k (foldI (bitsV .andNot k) (.bclr k) x y))
    | .eql => some ([], .bool (cmpT .eql x y))
    | .neq => some ([], .bool (cmpT .neq x y))
    | .lss => some ([], .bool (cmpT .lss x y))
    | .leq => some ([], .bool (cmpT .leq x y))
    | .gtr => some ([], .bool (cmpT .gtr x y))
    | .geq => some ([], .bool (cmpT .geq x y))
    | _ => none
def bare : SC → Bool
  | .int _ _ => true
  | .bool _ => true
  | _ => false
theorem bare_wf {c : SC} (h : bare c = true) (n : Nat) : c.wf n := by cases c <;> first | trivial | cases h
theorem binInt_bare {π : Pi} {op : BinOp} {k k' : IntKind} {x y : Tm} {ps : List Tm} {c : SC} (h : binInt π op k x k' y = some (ps, c)) : bare c = true := by
  unfold binInt at h
  split at h
  · simp at h; obtain ⟨_, rfl⟩ := h; rfl
  · simp at h; obtain ⟨_, rfl⟩ := h; rfl
  · rw [Bool.cond_eq_ite] at h
    split at h
    · cases h
    · split at h <;> first | (simp at h; obtain ⟨_, rfl⟩ := h; rfl) | cases h
variable [Vars]
theorem foldI_v {f : Int → Int → Int} {g : F2} (hg : ∀ x y : U Interp.Ω, (g.den x y).int = f x.int y.int) (x y : Tm) : (foldI f g x y).v = f x.v y.v := by
  unfold foldI
  split
  · rfl
  · exact hg _ _
theorem nonZero_ok {y : Tm} (h : (nonZero y).tv = true) : y.v ≠ 0 := by
  unfold nonZero at h
  rw [mkNot_tv, mkEq_tv, lit_v] at h
  simpa using h
theorem nonNeg_ok {y : Tm} (h : (nonNeg y).tv = true) : ¬ y.v < 0 := by
  unfold nonNeg at h
  rw [mkNot_tv, mkLt_tv, lit_v] at h
  simpa using h
theorem run_binInt {P : Program} {π : Pi} (hf : facts π) {op : BinOp} {k k' : IntKind} {x y : Tm} {ps : List Tm} {c : SC} (t : TypeId) (h : binInt π op k x k' y = some (ps, c)) (hp : ∀ p ∈ ps, p.tv = true) (β : Bl) (w : World) :
    (binOp op t (.int k x.v) (.int k' y.v)).run P w = .ok (c.den β) w := by
  by_cases hk : k = k'
  · subst hk
    have hs : sameK k k = true := by cases k <;> rfl
    cases op <;> simp [binInt, hs] at h
    case shl =>
      obtain ⟨rfl, rfl⟩ := h
      have := nonNeg_ok (hp _ (List.mem_singleton.2 rfl))
      simp only [SC.den, foldI_v (f := shlV k) (g := .shl k) (fun _ _ => rfl)]
      simp [binOp, Op.shift, this, shlV]
    case shr =>
      obtain ⟨rfl, rfl⟩ := h
      have := nonNeg_ok (hp _ (List.mem_singleton.2 rfl))
      simp only [SC.den, foldI_v (f := shrV k) (g := .shr k) (fun _ _ => rfl)]
      simp [binOp, Op.shift, this, shrV]
    case add =>
      obtain ⟨rfl, rfl⟩ := h
      simp only [SC.den, mkWrap_v hf, mkAdd_v]
      simp [binOp, Op.intArith]
    case sub =>
      obtain ⟨rfl, rfl⟩ := h
      simp only [SC.den, mkWrap_v hf, mkSub_v]
      simp [binOp, Op.intArith]
    case mul =>
      obtain ⟨rfl, rfl⟩ := h
      simp only [SC.den, mkWrap_v hf, mkMul_v]
      simp [binOp, Op.intArith]
    case quo =>
      obtain ⟨rfl, rfl⟩ := h
      have := nonZero_ok (hp _ (List.mem_singleton.2 rfl))
      simp only [SC.den, foldI_v (f := fun a b => k.wrap (a.tdiv b)) (g := .quo k) (fun _ _ => rfl)]
      simp [binOp, Op.intDiv, this]
    case rem =>
      obtain ⟨rfl, rfl⟩ := h
      have := nonZero_ok (hp _ (List.mem_singleton.2 rfl))
      simp only [SC.den, foldI_v (f := Int.tmod) (g := .rem) (fun _ _ => rfl)]
      simp [binOp, Op.intDiv, this]
    case and =>
      obtain ⟨rfl, rfl⟩ := h
      simp only [SC.den, foldI_v (f := bitsV .and k) (g := .band k) (fun _ _ => rfl)]
      simp [binOp, Op.intBits, bitsV]
    case or =>
      obtain ⟨rfl, rfl⟩ := h
      simp only [SC.den, foldI_v (f := bitsV .or k) (g := .bor k) (fun _ _ => rfl)]
      simp [binOp, Op.intBits, bitsV]
    case xor =>
      obtain ⟨rfl, rfl⟩ := h
      simp only [SC.den, foldI_v (f := bitsV .xor k) (g := .bxor k) (fun _ _ => rfl)]
      simp [binOp, Op.intBits, bitsV]
    case andNot =>
      obtain ⟨rfl, rfl⟩ := h
      simp only [SC.den, foldI_v (f := bitsV .andNot k) (g := .bclr k) (fun _ _ => rfl)]
      simp [binOp, Op.intBits, bitsV]
    all_goals
      obtain ⟨rfl, rfl⟩ := h
      simp only [SC.den, cmpT, mkNot_tv, mkEq_tv, mkLt_tv]
      simp [binOp, Op.intCmp]
      try rfl
    all_goals
      first
        | (rw [Bool.eq_iff_iff]; simp)
        | skip
  · have hs : sameK k k' = false := by
      cases hh : sameK k k' with
      | false => rfl
      | true => exact absurd (kCode_inj hh) hk
    cases op <;> simp [binInt, hs] at h
    case shl =>
      obtain ⟨rfl, rfl⟩ := h
      have := nonNeg_ok (hp _ (List.mem_singleton.2 rfl))
      simp only [SC.den, foldI_v (f := shlV k) (g := .shl k) (fun _ _ => rfl)]
      simp [binOp, Op.shift, this, shlV]
    case shr =>
      obtain ⟨rfl, rfl⟩ := h
      have := nonNeg_ok (hp _ (List.mem_singleton.2 rfl))
      simp only [SC.den, foldI_v (f := shrV k) (g := .shr k) (fun _ _ => rfl)]
      simp [binOp, Op.shift, this, shrV]
end
section
variable [Interp] [Vars]
theorem run_part' {P : Program} [Fast P] {β : Bl} {t : TypeId} {l : List SC} {off : Nat} {x : SA} (h : tyPart P t l off = some x) (w : World) : (part t (dens β l) off).run P w = .ok (x.den β) w := by
  unfold tyPart at h
  unfold part
  split at h
  · rename_i n ha hs
    simp only [Option.some.injEq] at h
    subst h
    simp only [Sem.run_bind, run_isAgg' ha, Result.andThen_ok, if_true, run_sizeOf' hs, Sem.run_pure, SA.den]
    congr 1
    simp [dens, List.extract_eq_take_drop, List.map_take, List.map_drop]
  · rename_i ha
    simp only [Sem.run_bind, run_isAgg' ha, Result.andThen_ok, Bool.false_eq_true, if_false]
    cases hl : l[off]? with
    | none => rw [hl] at h; simp at h
    | some c =>
      rw [hl] at h
      simp at h
      subst h
      have : (dens β l)[off]? = some (c.den β) := by simp [dens, hl]
      simp [this, SA.den]
  · simp at h
end
/-! ### equality -/
def eqV (P : Program) [Fast P] : Nat → TypeId → SA → SA → Option Tm
  | 0, _, _, _ => none
  | d + 1, t, x, y =>
    match Fast.und P t, x, y with
    | some (.int _), .one (.int k a), .one (.int k' b) => bif sameK k k' then some (mkEq a b) else none
    | some .bool, .one (.bool a), .one (.bool b) => some (mkBeq a b)
    | some (.pointer _), .one .nil, .one .nil => some (.bl true)
    | some (.pointer _), .one .nil, .one (.ptr _ _) => some (.bl false)
    | some (.pointer _), .one (.ptr _ _), .one .nil => some (.bl false)
    | some (.slice _), .one .snil, .one .snil => some (.bl true)
    | some (.slice _), .one (.slice _ _ _ _), .one .snil => some (.bl false)
    | some (.slice _), .one .snil, .one (.slice _ _ _ _) => some (.bl false)
    | some (.func _ _ _), .one .nilF, .one .nilF => some (.bl true)
    | some (.func _ _ _), .one (.func _ _ _), .one .nilF => some (.bl false)
    | some (.func _ _ _), .one .nilF, .one (.func _ _ _) => some (.bl false)
    | some (.struct fs), .agg xs, .agg ys =>
      bif !(Fast.plain P t) then none else
      fs.toList.foldr (fun f acc =>
        match tyPart P f.type xs f.offset, tyPart P f.type ys f.offset with
        | some a, some b =>
          match eqV P d f.type a b, acc with
          | some r, some s => bif f.name == "_" then none else some (mkAnd r s)
          | _, _ => none
        | _, _ => none) (some (.bl true))
    | _, _, _ => none
section
variable [Interp] [Vars]
theorem run_eqV {P : Program} [Fast P] {β : Bl} : ∀ (d : Nat) (t : TypeId) (x y : SA) (b : Tm), eqV P d t x y = some b → ∀ (e : Nat) (w : World), (Op.equalIn (d + e) t (x.den β) (y.den β)).run P w = .ok b.tv w
  | 0, _, _, _, _, h, _, _ => by simp [eqV] at h
  | d + 1, t, x, y, b, h, e, w => by
    rw [show d + 1 + e = (d + e) + 1 by omega]
    unfold eqV at h
    split at h
    · rename_i k0 k a k' b' hu
      cases hk : sameK k k' with
      | false => rw [hk] at h; simp at h
      | true =>
        rw [hk] at h
        simp at h
        have := kCode_inj hk
        subst this
        subst h
        simp [SA.den, SC.den, Op.equalIn, run_underlying' hu, mkEq_tv]
    · rename_i hu
      simp at h; subst h
      simp [SA.den, SC.den, Op.equalIn, run_underlying' hu, mkBeq_tv]
    · rename_i hu; simp at h; subst h; simp [SA.den, SC.den, Op.equalIn, run_underlying' hu, Tm.tv, Tm.den, U.bool]
    · rename_i hu; simp at h; subst h; simp [SA.den, SC.den, Op.equalIn, run_underlying' hu, Tm.tv, Tm.den, U.bool]
    · rename_i hu; simp at h; subst h; simp [SA.den, SC.den, Op.equalIn, run_underlying' hu, Tm.tv, Tm.den, U.bool]
    · rename_i hu; simp at h; subst h; simp [SA.den, SC.den, Op.equalIn, run_underlying' hu, Tm.tv, Tm.den, U.bool]
    · rename_i hu; simp at h; subst h; simp [SA.den, SC.den, Op.equalIn, run_underlying' hu, Tm.tv, Tm.den, U.bool]
    · rename_i hu; simp at h; subst h; simp [SA.den, SC.den, Op.equalIn, run_underlying' hu, Tm.tv, Tm.den, U.bool]
    · rename_i hu; simp at h; subst h; simp [SA.den, SC.den, Op.equalIn, run_underlying' hu, Tm.tv, Tm.den, U.bool]
    · rename_i hu; simp at h; subst h; simp [SA.den, SC.den, Op.equalIn, run_underlying' hu, Tm.tv, Tm.den, U.bool]
    · rename_i hu; simp at h; subst h; simp [SA.den, SC.den, Op.equalIn, run_underlying' hu, Tm.tv, Tm.den, U.bool]
    · rename_i fs xs ys hu
      cases hs : Fast.plain P t with
      | false => rw [hs] at h; simp at h
      | true =>
        rw [hs] at h
        simp only [Bool.not_true, cond_false] at h
        have hf : P.fieldsOf t = fs := by simp [Program.fieldsOf, Fast.und_ok hu]
        show (Op.equalIn (d + e + 1) t (.agg (dens β xs)) (.agg (dens β ys))).run P w = _
        rw [run_equalIn_struct (P := P) w (d + e) t _ _ (by rw [hf]; exact Fast.und_ok hu) (Fast.plain_ok hs), hf]
        revert b h
        induction fs.toList with
        | nil => intro b h; simp at h; subst h; simp [Op.eqFields, Tm.tv, Tm.den, U.bool]
        | cons f l ih =>
          intro b h
          simp only [List.foldr_cons] at h
          split at h
          · rename_i a1 b1 ha hb
            split at h
            · rename_i r s hr hs'
              cases hn : (f.name == "_") with
              | true => rw [hn] at h; simp at h
              | false =>
                rw [hn] at h
                simp at h
                subst h
                have hn' : f.name ≠ "_" := by simpa using hn
                have ih' := ih s hs'
                simp only [Op.eqFields, if_pos hn', Sem.run_bind, run_part' ha, run_part' hb, Result.andThen_ok, run_eqV d f.type a1 b1 r hr e w, mkAnd_tv]
                cases hrv : r.tv with
                | false => simp
                | true => simp [ih']
            · simp at h
          · simp at h
    · simp at h
end
/-! ### parts of an aggregate -/
def SA.cells : SA → List SC
  | .one c => [c]
  | .agg l => l
def SC.okc : SC → Bool
  | .raw _ => false
  | .any _ => false
  | _ => true
def SA.plain : SA → Bool
  | .one c => c.okc
  | _ => true
theorem SA.cells_wf {n : Nat} {x : SA} (h : x.wf n) : lwf n x.cells := by
  cases x with
  | one c => intro d hd; simp [SA.cells] at hd; subst hd; exact h
  | agg l => exact h
/-- The cells c over the ones from off on. -/
def over (cells : List SC) (off : Nat) (c : List SC) : List SC := cells.take off ++ c ++ cells.drop (off + c.length)
theorem over_wf {n : Nat} {l c : List SC} {off : Nat} (hl : lwf n l) (hc : lwf n c) : lwf n (over l off c) := by
  intro x hx
  unfold over at hx
  rcases List.mem_append.1 hx with hx | hx
  · rcases List.mem_append.1 hx with hx | hx
    · exact hl x (List.mem_of_mem_take hx)
    · exact hc x hx
  · exact hl x (List.mem_of_mem_drop hx)
def fillC (place : Nat → Option (Nat × Nat)) (cells : List SC) : List (Nat × SA) → Option (List SC)
  | [] => some cells
  | (i, x) :: rest =>
    match place i with
    | none => none
    | some (off, size) =>
      bif x.plain && (Nat.beq x.cells.length size && Nat.ble (off + x.cells.length) cells.length) then fillC place (over cells off x.cells) rest else none
theorem fillC_wf {n : Nat} (place : Nat → Option (Nat × Nat)) : ∀ (parts : List (Nat × SA)) (cells r : List SC), fillC place cells parts = some r → lwf n cells → (∀ p ∈ parts, p.2.wf n) → lwf n r
  | [], cells, r, h, hc, hp => by simp [fillC] at h; subst h; exact hc
  | (i, x) :: rest, cells, r, h, hc, hp => by
    unfold fillC at h
    split at h
    · cases h
    · rw [Bool.cond_eq_ite] at h
      split at h
      · exact fillC_wf place rest _ r h (over_wf hc (SA.cells_wf (hp _ (List.mem_cons_self ..)))) (fun p hp' => hp p (List.mem_cons_of_mem _ hp'))
      · cases h
section
variable [Interp] [Vars]
theorem den_notAgg (β : Bl) (c : SC) (h : c.okc = true) : (c.den β).cells = #[c.den β] := by
  cases c <;> first | rfl | cases h
theorem SA.cells_den (β : Bl) (x : SA) (h : x.plain = true) : (x.den β).cells = dens β x.cells := by
  cases x with
  | one c =>
    show (c.den β).cells = _
    rw [den_notAgg β c h]
    rfl
  | agg l => rfl
theorem over_den (β : Bl) (cells : List SC) (off : Nat) (c : List SC) (h : off + c.length ≤ cells.length) :
    (dens β c).zipIdx.foldl (fun cs p => cs.setIfInBounds (off + p.2) p.1) (dens β cells) = dens β (over cells off c) := by
  have key : ∀ (c : List SC) (o : Nat) (cells : List SC), o + c.length ≤ cells.length →
      ((c.map (SC.den β)).zipIdx.foldl (fun (cs : Array Value) p => cs.setIfInBounds (o + p.2) p.1) (dens β cells)) = dens β (over cells o c) := by
    intro c
    induction c with
    | nil => intro o cells h; simp [over]
    | cons x c ih =>
      intro o cells h
      simp only [List.length_cons] at h
      simp only [List.map_cons, List.zipIdx_cons, List.foldl_cons, Nat.add_zero, Nat.zero_add]
      have e1 : (dens β cells).setIfInBounds o (x.den β) = dens β (cells.set o x) := by simp [dens, List.map_set]
      rw [e1]
      have e2 := ih (o + 1) (cells.set o x) (by simp; omega)
      have e3 : (List.map (SC.den β) c).zipIdx 1 = ((List.map (SC.den β) c).zipIdx).map (fun p => (p.1, p.2 + 1)) := by
        rw [List.zipIdx_succ]
      rw [e3, List.foldl_map]
      have e4 : (fun (cs : Array Value) (p : Value × Nat) => cs.setIfInBounds (o + (p.2 + 1)) p.1) = (fun cs p => cs.setIfInBounds (o + 1 + p.2) p.1) := by
        funext cs p; rw [show o + (p.2 + 1) = o + 1 + p.2 by omega]
      show List.foldl (fun (cs : Array Value) (p : Value × Nat) => cs.setIfInBounds (o + (p.2 + 1)) p.1) _ _ = _
      rw [e4, e2]
      congr 1
      unfold over
      have ho : o < cells.length := by omega
      have e5 : (cells.set o x).take (o + 1) = cells.take o ++ [x] := by
        rw [List.take_succ_eq_append_getElem (by simpa using ho)]
        simp only [List.getElem_set_self]
        congr 1
        apply List.ext_getElem?
        intro i
        rw [List.getElem?_take, List.getElem?_take]
        split
        · rw [List.getElem?_set_ne (by omega)]
        · rfl
      rw [e5, List.length_cons]
      rw [show o + 1 + c.length = o + (c.length + 1) by omega]
      rw [List.drop_set_of_lt (by omega)]
      simp
  have := key c off cells h
  rw [← this]
  unfold dens
  rw [← Array.foldl_toList]
  congr 1
  simp
theorem fillC_den (β : Bl) (place : Nat → Option (Nat × Nat)) : ∀ (parts : List (Nat × SA)) (cells r : List SC), fillC place cells parts = some r →
    Instr.fill place (dens β cells) (parts.map fun p => (p.1, p.2.den β)) = some (dens β r)
  | [], cells, r, h => by simp [fillC] at h; subst h; rfl
  | (i, x) :: rest, cells, r, h => by
    unfold fillC at h
    simp only [List.map_cons, Instr.fill]
    cases hp : place i with
    | none => rw [hp] at h; simp at h
    | some q =>
      obtain ⟨off, size⟩ := q
      rw [hp] at h
      simp only at h ⊢
      cases hc : (x.plain && (Nat.beq x.cells.length size && Nat.ble (off + x.cells.length) cells.length)) with
      | false => rw [hc] at h; simp at h
      | true =>
        rw [hc] at h
        simp only [cond_true] at h
        rw [Bool.and_eq_true, Bool.and_eq_true] at hc
        obtain ⟨h1, h2, h3⟩ := hc
        have h2 := Nat.eq_of_beq_eq_true h2
        have h3 := Nat.le_of_ble_eq_true h3
        rw [SA.cells_den β x h1]
        have l1 : (dens β x.cells).size = x.cells.length := by simp [dens]
        have l2 : (dens β cells).size = cells.length := by simp [dens]
        rw [if_neg (by simp [l1, l2, h2]; omega), over_den _ _ _ _ h3]
        exact fillC_den β place rest _ r h
end
def zeroC (P : Program) [Fast P] (t : TypeId) : Option (List SC) :=
  match Fast.zero P t with
  | some v => some (v.cells.toList.map SC.of)
  | none => none
theorem zeroC_wf {P : Program} [Fast P] {t : TypeId} {l : List SC} (h : zeroC P t = some l) (n : Nat) : lwf n l := by
  unfold zeroC at h
  split at h
  · simp at h; subst h; intro c hc; obtain ⟨v, _, rfl⟩ := List.mem_map.1 hc; exact SC.of_wf n v
  · cases h
def placesC (P : Program) [Fast P] : List Field → Option (List (Nat × Nat))
  | [] => some []
  | f :: r =>
    match Fast.size P f.type, placesC P r with
    | some n, some l => some ((f.offset, n) :: l)
    | _, _ => none
theorem placesC_ok {P : Program} [Fast P] : ∀ (fs : List Field) (l : List (Nat × Nat)), placesC P fs = some l → fs.mapM (fun f => (P.info? f.type).map fun i => (f.offset, i.size)) = some l
  | [], l, h => by simp [placesC] at h; subst h; rfl
  | f :: r, l, h => by
    unfold placesC at h
    split at h
    · rename_i n l' hn hl
      simp only [Option.some.injEq] at h
      subst h
      obtain ⟨i, hi, hs⟩ := Fast.size_ok (P := P) hn
      simp [List.mapM_cons, hi, hs, placesC_ok r l' hl]
    · cases h
def builtC (P : Program) [Fast P] (t : TypeId) (parts : List (Nat × SA)) : Option (List SC) :=
  match Fast.zero P t, Fast.und P t with
  | some z, some (.array _ e) =>
    match Fast.size P e with
    | some n => fillC (fun i => some (i * n, n)) (z.cells.toList.map SC.of) parts
    | none => none
  | some z, some (.struct fields) =>
    match placesC P fields.toList with
    | some places => fillC (places.toArray[·]?) (z.cells.toList.map SC.of) parts
    | none => none
  | _, _ => none
theorem ofs_wf (n : Nat) (cs : List Value) : lwf n (cs.map SC.of) := fun c hc => by obtain ⟨v, _, rfl⟩ := List.mem_map.1 hc; exact SC.of_wf n v
theorem builtC_wf {P : Program} [Fast P] {n : Nat} {t : TypeId} {parts : List (Nat × SA)} {r : List SC} (h : builtC P t parts = some r) (hp : ∀ p ∈ parts, p.2.wf n) : lwf n r := by
  unfold builtC at h
  split at h
  · split at h
    · exact fillC_wf _ _ _ _ h (ofs_wf n _) hp
    · cases h
  · split at h
    · exact fillC_wf _ _ _ _ h (ofs_wf n _) hp
    · cases h
  · cases h
theorem builtC_den [Interp] [Vars] {P : Program} [Fast P] {β : Bl} {t : TypeId} {parts : List (Nat × SA)} {r : List SC} (h : builtC P t parts = some r) : P.built t (parts.map fun p => (p.1, p.2.den β)) = some (dens β r) := by
  unfold builtC at h
  unfold Program.built
  split at h
  · rename_i z n e hz hu
    obtain ⟨it, hi, hzz⟩ := Fast.zero_ok hz
    simp only [hi, Fast.und_ok hu, hzz]
    split at h
    · rename_i k hk
      obtain ⟨ie, hie, hs⟩ := Fast.size_ok hk
      simp only [hie]
      have := fillC_den β _ _ _ _ h
      rw [dens_of] at this
      rw [hs]
      exact this
    · cases h
  · rename_i z fields hz hu
    obtain ⟨it, hi, hzz⟩ := Fast.zero_ok hz
    simp only [hi, Fast.und_ok hu, hzz]
    split at h
    · rename_i places hpl
      simp only [placesC_ok _ _ hpl]
      have := fillC_den β _ _ _ _ h
      rw [dens_of] at this
      exact this
    · cases h
  · cases h
/-- Operands as parts. -/
def partsA (fr : Frm) : List (Nat × Operand) → Option (List (Nat × SA))
  | [] => some []
  | (i, x) :: l =>
    match opnd fr x, partsA fr l with
    | .a y, some r => some ((i, y) :: r)
    | _, _ => none
def ptrsA (fr : Frm) : List Operand → Option (List (Nat × Nat))
  | [] => some []
  | x :: l =>
    match opnd fr x, ptrsA fr l with
    | .a (.one (.ptr nm o)), some r => some ((nm, o) :: r)
    | _, _ => none
section
variable [Interp] [Vars] {n : Nat} {β : Bl} {fr : Frm} {a : Act}
theorem opnd_is (hf : FrIs n β fr a.tmps) {x : Operand} {v : SV} (h : opnd fr x = v) (ht : v.isTop = false) : a.eval x = v.den β ∧ v.wf n := by
  subst h
  exact ⟨opnd_den hf x ht, opnd_wf hf x⟩
theorem partsA_den (hf : FrIs n β fr a.tmps) : ∀ (l : List (Nat × Operand)) (r : List (Nat × SA)), partsA fr l = some r →
    l.map (fun p => (p.1, a.eval p.2)) = r.map (fun p => (p.1, p.2.den β)) ∧ ∀ p ∈ r, p.2.wf n
  | [], r, h => by simp [partsA] at h; subst h; exact ⟨rfl, fun p hp => (by cases hp)⟩
  | (i, x) :: l, r, h => by
    unfold partsA at h
    split at h
    · rename_i y r' hy hr
      simp at h; subst h
      obtain ⟨h1, h2⟩ := partsA_den hf l r' hr
      obtain ⟨h3, h4⟩ := opnd_is hf hy rfl
      refine ⟨by rw [List.map_cons, List.map_cons, ← h1, h3]; rfl, fun p hp => ?_⟩
      rcases List.mem_cons.1 hp with rfl | hp
      · exact h4
      · exact h2 p hp
    · simp at h
theorem ptrsA_den (hf : FrIs n β fr a.tmps) : ∀ (l : List Operand) (r : List (Nat × Nat)), ptrsA fr l = some r → l.map a.eval = r.map (pden β) ∧ ∀ p ∈ r, p.1 < n
  | [], r, h => by simp [ptrsA] at h; subst h; exact ⟨rfl, fun p hp => (by cases hp)⟩
  | x :: l, r, h => by
    unfold ptrsA at h
    split at h
    · rename_i nm o r' hy hr
      simp at h; subst h
      obtain ⟨h1, h2⟩ := ptrsA_den hf l r' hr
      obtain ⟨h3, h4⟩ := opnd_is hf hy rfl
      refine ⟨by rw [List.map_cons, List.map_cons, ← h1, h3]; rfl, fun p hp => ?_⟩
      rcases List.mem_cons.1 hp with rfl | hp
      · exact h4
      · exact h2 p hp
    · simp at h
end
end Go.Proofs.Ytfapicccijbanaa.Ef
