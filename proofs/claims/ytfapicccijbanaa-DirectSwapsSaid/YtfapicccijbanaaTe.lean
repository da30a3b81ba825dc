/- What is proved: operations that neither read nor make memory yield what the second evaluator says, in whatever world: all kinds together. Conditions: the evaluator's own premises. -/
import Derived.Test.YtfapicccijbanaaTd
namespace Go.Proofs.Ytfapicccijbanaa.Ef
open Go Go.Proofs.Ytfapicccijbanaa.Sep
open Go.Proofs.Ytfapicccijbanaa.Ev (Fast tyAgg tySize run_underlying' run_isAgg' run_sizeOf' run_zeroValue')
set_option linter.unusedVariables false
set_option linter.unusedSimpArgs false
set_option linter.unusedSectionVars false
section
variable [Interp] [Rules]
def binV (P : Program) [Fast P] (π : Pi) (op : BinOp) (t : TypeId) (x y : SV) : Option (List Tm × SV) :=
  match x, y with
  | .a (.one (.int k a)), .a (.one (.int k' b)) => match binInt π op k a k' b with
    | some (ps, c) => some (ps, .c c)
    | none => none
  | .a x, .a y =>
    match op with
    | .eql => bif !(Fast.guard P t) then none else match eqV P 8 t x y with
      | some b => some ([], .c (.bool b))
      | none => none
    | .neq => bif !(Fast.guard P t) then none else match eqV P 8 t x y with
      | some b => some ([], .c (.bool (mkNot b)))
      | none => none
    | _ => none
  | _, _ => none
theorem binV_wf {P : Program} [Fast P] {π : Pi} {op : BinOp} {t : TypeId} {x y : SV} {ps : List Tm} {v : SV} (h : binV P π op t x y = some (ps, v)) (n : Nat) : v.wf n := by
  unfold binV at h
  split at h
  · split at h
    · rename_i hb
      simp only [Option.some.injEq, Prod.mk.injEq] at h
      obtain ⟨_, rfl⟩ := h
      exact bare_wf (binInt_bare hb) n
    · cases h
  · split at h
    · rw [Bool.cond_eq_ite] at h
      split at h
      · cases h
      · split at h
        · simp only [Option.some.injEq, Prod.mk.injEq] at h; obtain ⟨_, rfl⟩ := h; trivial
        · cases h
    · rw [Bool.cond_eq_ite] at h
      split at h
      · cases h
      · split at h
        · simp only [Option.some.injEq, Prod.mk.injEq] at h; obtain ⟨_, rfl⟩ := h; trivial
        · cases h
    · cases h
  · cases h
variable [Vars]
theorem run_eqGuard {P : Program} [Fast P] {β : Bl} {op : BinOp} {t : TypeId} {x y : Operand} {a b : SA} (hg0 : Fast.guard P t = true) (h : (eqV P 8 t a b).isSome = true) (w : World) :
    (eqGuard op t x y (a.den β) (b.den β)).run P w = .ok () w := by
  have hg := Fast.guard_ok hg0
  cases op <;> first
    | (simp [eqGuard]; done)
    | (cases a with
      | agg xs =>
        cases b with
        | agg ys => simp [eqGuard, SA.den, hg]
        | one c => simp [eqV] at h
      | one c =>
        cases c <;> first
          | (simp [eqGuard, SA.den, SC.den]; done)
          | (unfold eqV at h; split at h <;> simp_all; done))
theorem run_binV {P : Program} [Fast P] {π : Pi} (hf : facts π) {op : BinOp} {t : TypeId} {x y : SV} {ps : List Tm} {v : SV} (h : binV P π op t x y = some (ps, v)) (hp : ∀ p ∈ ps, p.tv = true) (β : Bl) (ox oy : Operand) (w : World) :
    (do eqGuard op t ox oy (x.den β) (y.den β); binOp op t (x.den β) (y.den β) : Sem Value).run P w = .ok (v.den β) w := by
  unfold binV at h
  split at h
  · rename_i k a k' b
    split at h
    · rename_i ps' c hb
      simp only [Option.some.injEq, Prod.mk.injEq] at h
      obtain ⟨rfl, rfl⟩ := h
      have hr := run_binInt (P := P) hf t hb hp β w
      have hq : (eqGuard op t ox oy ((SV.a (.one (.int k a))).den β) ((SV.a (.one (.int k' b))).den β)).run P w = .ok () w := by
        cases op <;> simp [eqGuard, SV.den, SA.den, SC.den]
      simp only [Sem.run_bind, hq, Result.andThen_ok]
      exact hr
    · cases h
  · rename_i x y hne
    split at h
    · cases hg : Fast.guard P t with
      | false => rw [hg] at h; simp at h
      | true =>
        rw [hg] at h
        simp only [Bool.not_true, cond_false] at h
        split at h
        · rename_i b he
          simp only [Option.some.injEq, Prod.mk.injEq] at h
          obtain ⟨rfl, rfl⟩ := h
          have hq := run_eqGuard (β := β) (op := .eql) (x := ox) (y := oy) hg (by rw [he]; rfl) w
          have hr := run_eqV (β := β) 8 t x y b he 9992 w
          have hb : binOp .eql t (x.den β) (y.den β) = (do pure (.bool (← Op.equal t (x.den β) (y.den β)))) := by
            unfold eqV at he
            split at he <;> first | rfl | (simp at he; done) | (exfalso; exact hne _ _ _ _ rfl rfl)
          simp only [SV.den, Sem.run_bind, hq, Result.andThen_ok, hb]
          unfold Op.equal Op.maxDepth
          rw [hr]
          rfl
        · cases h
    · cases hg : Fast.guard P t with
      | false => rw [hg] at h; simp at h
      | true =>
        rw [hg] at h
        simp only [Bool.not_true, cond_false] at h
        split at h
        · rename_i b he
          simp only [Option.some.injEq, Prod.mk.injEq] at h
          obtain ⟨rfl, rfl⟩ := h
          have hq := run_eqGuard (β := β) (op := .neq) (x := ox) (y := oy) hg (by rw [he]; rfl) w
          have hr := run_eqV (β := β) 8 t x y b he 9992 w
          have hb : binOp .neq t (x.den β) (y.den β) = (do pure (.bool (!(← Op.equal t (x.den β) (y.den β))))) := by
            unfold eqV at he
            split at he <;> first | rfl | (simp at he; done) | (exfalso; exact hne _ _ _ _ rfl rfl)
          simp only [SV.den, Sem.run_bind, hq, Result.andThen_ok, hb]
          unfold Op.equal Op.maxDepth
          rw [hr]
          simp [SA.den, SC.den, mkNot_tv]
        · cases h
    · simp at h
  · simp at h
end
/-- An index within n. -/
def within (i n : Tm) : List Tm := [mkNot (mkLt i (.lit 0)), mkLt i n]
theorem within_spec [Interp] [Vars] {i n : Tm} (h : ∀ p ∈ within i n, p.tv = true) : 0 ≤ i.v ∧ i.v < n.v := by
  have h1 := h _ (List.mem_cons_self ..)
  have h2 := h _ (List.mem_cons_of_mem _ (List.mem_singleton.2 rfl))
  rw [mkNot_tv, mkLt_tv, lit_v] at h1
  rw [mkLt_tv] at h2
  simp at h1 h2
  omega
def smallLit : Tm → Bool
  | .lit m => intLe m 16
  | _ => false
/-- The place of an element: known, or by a number. -/
def elemP (nm off n : Nat) : Tm → SC
  | .lit i => .ptr nm (off + i.toNat * n)
  | i => .ptrR nm (.lit off) i n 0
theorem elemP_wf {n : Nat} {nm off k : Nat} {i : Tm} (h : nm < n) : (elemP nm off k i).wf n := by unfold elemP; split <;> exact h
theorem elemP_den [Interp] [Vars] (β : Bl) (nm off n : Nat) (i : Tm) : (elemP nm off n i).den β = .pointer (some ⟨β nm, off + i.v.toNat * n, none⟩) := by
  unfold elemP
  split
  · rfl
  · simp only [SC.den, lit_v, Int.toNat_natCast, Nat.add_zero]
def isLit : Tm → Bool
  | .lit _ => true
  | _ => false
def indexAddrV (P : Program) [Fast P] (t : TypeId) (x ix : SV) : Option (List Tm × SV) :=
  match Fast.und P t, x, ix with
  | some (.slice e), .a (.one (.slice nm off len cap)), .a (.one (.int k i)) =>
    bif isLit i || !smallLit len then
      match tySize P e with
      | some n => some (within i len, .c (elemP nm off n i))
      | none => none
    else none
  | some (.slice e), .a (.one (.sliceQ nm b len cap)), .a (.one (.int k i)) =>
    match tySize P e with
    | some n => some (within i len, .c (.ptrR nm b i n 0))
    | none => none
  | some (.array m e), .a (.one (.ptr nm off)), .a (.one (.int k i)) =>
    bif isLit i || Nat.blt 16 m then
      match tySize P e with
      | some n => some (within i (.lit m), .c (elemP nm off n i))
      | none => none
    else none
  | _, _, _ => none
theorem addr_add (b off n : Nat) : (⟨b, off, none⟩ : Addr).add n = ⟨b, off + n, none⟩ := by
  unfold Addr.add
  split
  · rename_i h; subst h; rfl
  · rfl
theorem indexAddrV_wf {P : Program} [Fast P] {t : TypeId} {x ix : SV} {ps : List Tm} {v : SV} (h : indexAddrV P t x ix = some (ps, v)) {n : Nat} (hx : x.wf n) : v.wf n := by
  unfold indexAddrV at h
  split at h
  · rw [Bool.cond_eq_ite] at h
    split at h
    · split at h
      · simp only [Option.some.injEq, Prod.mk.injEq] at h; obtain ⟨_, rfl⟩ := h; exact elemP_wf hx
      · cases h
    · cases h
  · split at h
    · simp only [Option.some.injEq, Prod.mk.injEq] at h; obtain ⟨_, rfl⟩ := h; exact hx
    · cases h
  · rw [Bool.cond_eq_ite] at h
    split at h
    · split at h
      · simp only [Option.some.injEq, Prod.mk.injEq] at h; obtain ⟨_, rfl⟩ := h; exact elemP_wf hx
      · cases h
    · cases h
  · cases h
section
variable [Interp] [Vars]
theorem run_indexAddrV {P : Program} [Fast P] {t : TypeId} {x ix : SV} {ps : List Tm} {v : SV} (h : indexAddrV P t x ix = some (ps, v)) (hp : ∀ p ∈ ps, p.tv = true) (β : Bl) (w : World) :
    (Instr.indexAt t (x.den β) (ix.den β)).run P w = .ok (v.den β) w := by
  unfold indexAddrV at h
  split at h
  · rename_i e nm off len cap k i hu
    rw [Bool.cond_eq_ite] at h
    split at h
    · split at h
      · rename_i n hs
        simp only [Option.some.injEq, Prod.mk.injEq] at h
        obtain ⟨rfl, rfl⟩ := h
        obtain ⟨w1, w2⟩ := within_spec hp
        have w3 : i.v < max len.v 0 := by omega
        rw [show (SV.c (elemP nm off n i)).den β = (elemP nm off n i).den β from rfl, elemP_den]
        unfold Instr.indexAt
        simp [SV.den, SA.den, SC.den, asIntOf, run_underlying' hu, w1, w3, run_sizeOf' hs, addr_add]
      · cases h
    · cases h
  · rename_i e nm b len cap k i hu
    split at h
    · rename_i n hs
      simp only [Option.some.injEq, Prod.mk.injEq] at h
      obtain ⟨rfl, rfl⟩ := h
      obtain ⟨w1, w2⟩ := within_spec hp
      have w3 : i.v < max len.v 0 := by omega
      have w4 : ¬ len.v ≤ 0 := by omega
      unfold Instr.indexAt
      simp [SV.den, SA.den, SC.den, asIntOf, run_underlying' hu, w1, w3, w4, run_sizeOf' hs, addr_add]
    · cases h
  · rename_i m e nm off k i hu
    rw [Bool.cond_eq_ite] at h
    split at h
    · split at h
      · rename_i n hs
        simp only [Option.some.injEq, Prod.mk.injEq] at h
        obtain ⟨rfl, rfl⟩ := h
        obtain ⟨w1, w2⟩ := within_spec hp
        rw [lit_v] at w2
        rw [show (SV.c (elemP nm off n i)).den β = (elemP nm off n i).den β from rfl, elemP_den]
        unfold Instr.indexAt
        simp [SV.den, SA.den, SC.den, asIntOf, run_underlying' hu, w1, w2, run_sizeOf' hs, addr_add, Instr.sureAddr]
      · cases h
    · cases h
  · simp at h
def indexV (P : Program) [Fast P] (t : TypeId) (x ix : SV) : Option (List Tm × SV) :=
  match Fast.und P t, x, ix with
  | some (.array m e), .a (.agg l), .a (.one (.int k (.lit i))) =>
    match tySize P e with
    | some n => match tyPart P e l (i.toNat * n) with
      | some r => some (within (.lit i) (.lit m), .a r)
      | none => none
    | none => none
  | _, _, _ => none
theorem indexV_wf {P : Program} [Fast P] {t : TypeId} {x ix : SV} {ps : List Tm} {v : SV} (h : indexV P t x ix = some (ps, v)) {n : Nat} (hx : x.wf n) : v.wf n := by
  unfold indexV at h
  split at h
  · split at h
    · split at h
      · rename_i hr
        simp only [Option.some.injEq, Prod.mk.injEq] at h; obtain ⟨_, rfl⟩ := h
        exact tyPart_wf hr hx
      · cases h
    · cases h
  · cases h
theorem run_indexV {P : Program} [Fast P] {t : TypeId} {x ix : SV} {ps : List Tm} {v : SV} (h : indexV P t x ix = some (ps, v)) (hp : ∀ p ∈ ps, p.tv = true) (β : Bl) (w : World) :
    (Instr.index t (x.den β) (ix.den β)).run P w = .ok (v.den β) w := by
  unfold indexV at h
  split at h
  · rename_i m e l k i hu
    split at h
    · rename_i n hs
      split at h
      · rename_i r hr
        simp only [Option.some.injEq, Prod.mk.injEq] at h
        obtain ⟨rfl, rfl⟩ := h
        obtain ⟨w1, w2⟩ := within_spec hp
        rw [lit_v] at w1 w2
        rw [lit_v] at w2
        unfold Instr.index
        simp [SV.den, SA.den, SC.den, lit_v, asIntOf, run_underlying' hu, w1, w2, run_sizeOf' hs, run_part' hr]
      · cases h
    · simp at h
  · simp at h
def fieldAddrV (P : Program) [Fast P] (s : TypeId) (x : SV) (f : Nat) : Option (List Tm × SV) :=
  match Fast.und P s with
  | some (.struct fs) =>
    match fs[f]? with
    | some f => match tySize P f.type with
      | some (n + 1) =>
        match x with
        | .a (.one (.ptr nm off)) => some ([], .c (.ptr nm (off + f.offset)))
        | .a (.one (.ptrR nm b t st o)) => some ([], .c (.ptrR nm b t st (o + f.offset)))
        | _ => none
      | _ => none
    | none => none
  | _ => none
theorem fieldAddrV_wf {P : Program} [Fast P] {s : TypeId} {x : SV} {f : Nat} {ps : List Tm} {v : SV} (h : fieldAddrV P s x f = some (ps, v)) {n : Nat} (hx : x.wf n) : v.wf n := by
  unfold fieldAddrV at h
  split at h
  · split at h
    · split at h
      · split at h
        · simp only [Option.some.injEq, Prod.mk.injEq] at h; obtain ⟨_, rfl⟩ := h; exact hx
        · simp only [Option.some.injEq, Prod.mk.injEq] at h; obtain ⟨_, rfl⟩ := h; exact hx
        · cases h
      · cases h
    · cases h
  · cases h
theorem run_fieldAddrV {P : Program} [Fast P] {s : TypeId} {x : SV} {f : Nat} {ps : List Tm} {v : SV} (h : fieldAddrV P s x f = some (ps, v)) (β : Bl) (w : World) :
    (Instr.fieldAt s (x.den β) f).run P w = .ok (v.den β) w := by
  unfold fieldAddrV at h
  split at h
  · rename_i fs hu
    split at h
    · rename_i g hg
      split at h
      · rename_i n hs
        split at h
        · simp at h
          obtain ⟨rfl, rfl⟩ := h
          unfold Instr.fieldAt
          simp [SV.den, SA.den, SC.den, run_underlying' hu, hg, Instr.sureAddr, fieldPlace, run_sizeOf' hs, addr_add]
        · simp at h
          obtain ⟨rfl, rfl⟩ := h
          unfold Instr.fieldAt
          simp [SV.den, SA.den, SC.den, run_underlying' hu, hg, Instr.sureAddr, fieldPlace, run_sizeOf' hs, addr_add, Nat.add_assoc]
        · cases h
      · simp at h
    · simp at h
  · simp at h
def fieldV (P : Program) [Fast P] (t : TypeId) (x : SV) (f : Nat) : Option (List Tm × SV) :=
  match Fast.und P t, x with
  | some (.struct fs), .a (.agg l) =>
    match fs[f]? with
    | some f => match tyPart P f.type l f.offset with
      | some r => some ([], .a r)
      | none => none
    | none => none
  | _, _ => none
theorem fieldV_wf {P : Program} [Fast P] {t : TypeId} {x : SV} {f : Nat} {ps : List Tm} {v : SV} (h : fieldV P t x f = some (ps, v)) {n : Nat} (hx : x.wf n) : v.wf n := by
  unfold fieldV at h
  split at h
  · split at h
    · split at h
      · rename_i hr
        simp only [Option.some.injEq, Prod.mk.injEq] at h; obtain ⟨_, rfl⟩ := h; exact tyPart_wf hr hx
      · cases h
    · cases h
  · cases h
theorem run_fieldV {P : Program} [Fast P] {t : TypeId} {x : SV} {f : Nat} {ps : List Tm} {v : SV} (h : fieldV P t x f = some (ps, v)) (β : Bl) (w : World) :
    (Instr.field t (x.den β) f).run P w = .ok (v.den β) w := by
  unfold fieldV at h
  split at h
  · rename_i fs l hu
    split at h
    · rename_i g hg
      split at h
      · rename_i r hr
        simp at h
        obtain ⟨rfl, rfl⟩ := h
        unfold Instr.field
        simp [SV.den, SA.den, run_underlying' hu, hg, asAgg, run_part' hr]
      · cases h
    · simp at h
  · simp at h
section
variable [Rules]
def unV (π : Pi) (op : UnOp) (x : SV) : Option (List Tm × SV) :=
  match op, x with
  | .not, .a (.one (.bool b)) => some ([], .c (.bool (mkNot b)))
  | .neg, .a (.one (.int k n)) => some ([], .c (.int k (mkWrap π k (mkSub (.lit 0) n))))
  | _, _ => none
theorem unV_wf {π : Pi} {op : UnOp} {x : SV} {ps : List Tm} {v : SV} (h : unV π op x = some (ps, v)) (n : Nat) : v.wf n := by
  unfold unV at h
  split at h
  · simp at h; obtain ⟨_, rfl⟩ := h; trivial
  · simp at h; obtain ⟨_, rfl⟩ := h; trivial
  · cases h
theorem run_unV {P : Program} [Fast P] {π : Pi} (hf : facts π) {op : UnOp} {x : SV} {ps : List Tm} {v : SV} (h : unV π op x = some (ps, v)) (β : Bl) (w : World) : (Op.unary op (x.den β)).run P w = .ok (v.den β) w := by
  unfold unV at h
  split at h
  · simp at h
    obtain ⟨rfl, rfl⟩ := h
    simp [SV.den, SA.den, SC.den, Op.unary, mkNot_tv]
  · rename_i k n
    simp at h
    obtain ⟨rfl, rfl⟩ := h
    simp only [SV.den, SA.den, SC.den, mkWrap_v hf, mkSub_v, lit_v]
    simp [Op.unary, Op.intArith]
  · simp at h
def convV (P : Program) [Fast P] (π : Pi) (src dst : TypeId) (x : SV) : Option (List Tm × SV) :=
  match Fast.und P src, Fast.und P dst, x with
  | some (.int _), some (.int k), .a (.one (.int _ n)) => some ([], .c (.int k (mkWrap π k n)))
  | _, _, _ => none
theorem convV_wf {P : Program} [Fast P] {π : Pi} {src dst : TypeId} {x : SV} {ps : List Tm} {v : SV} (h : convV P π src dst x = some (ps, v)) (n : Nat) : v.wf n := by
  unfold convV at h
  split at h
  · simp at h; obtain ⟨_, rfl⟩ := h; trivial
  · cases h
theorem run_convV {P : Program} [Fast P] {π : Pi} (hf : facts π) {src dst : TypeId} {x : SV} {ps : List Tm} {v : SV} (h : convV P π src dst x = some (ps, v)) (β : Bl) (w : World) : (convert src dst (x.den β)).run P w = .ok (v.den β) w := by
  unfold convV at h
  split at h
  · rename_i k0 k k1 n hs hd
    simp at h
    obtain ⟨rfl, rfl⟩ := h
    unfold convert
    simp [SV.den, SA.den, SC.den, run_underlying' hs, run_underlying' hd, Conv.intToInt, mkWrap_v hf]
  · simp at h
end
def extractV (x : SV) (i : Nat) : Option (List Tm × SV) :=
  match x with
  | .tup l => match l[i]? with
    | some r => some ([], .a r)
    | none => none
  | _ => none
theorem extractV_wf {x : SV} {i : Nat} {ps : List Tm} {v : SV} (h : extractV x i = some (ps, v)) {n : Nat} (hx : x.wf n) : v.wf n := by
  unfold extractV at h
  split at h
  · split at h
    · rename_i hl
      simp at h; obtain ⟨_, rfl⟩ := h; exact hx _ (List.mem_of_getElem? hl)
    · cases h
  · cases h
theorem run_extractV {P : Program} [Fast P] {x : SV} {i : Nat} {ps : List Tm} {v : SV} (h : extractV x i = some (ps, v)) (β : Bl) (w : World) : (Instr.extract (x.den β) i).run P w = .ok (v.den β) w := by
  unfold extractV at h
  split at h
  · rename_i l
    split at h
    · rename_i r hl
      simp at h
      obtain ⟨rfl, rfl⟩ := h
      simp [SV.den, Instr.extract, hl]
    · cases h
  · simp at h
end
/-- A bound of a slice expression: none, or one that is known. -/
def bound (fr : Frm) : Option Operand → Option (Option Nat)
  | none => some none
  | some x => match opnd fr x with
    | .a (.one (.int .i64 (.lit n))) => bif intLe 0 n then some (some n.toNat) else none
    | _ => none
def sliceV (P : Program) [Fast P] (fr : Frm) (t : TypeId) (x : SV) (lo hi mx : Option Operand) : Option (List Tm × SV) :=
  match Fast.und P t, x, bound fr lo, bound fr hi, mx with
  | some (.slice e), .a (.one (.slice nm off (.lit len) (.lit cap))), some l, some h, none =>
    match tySize P e with
    | some n =>
      let h := h.getD len.toNat
      let l := l.getD 0
      bif Nat.ble l h && Nat.ble h cap.toNat && !(Nat.beq cap.toNat l) then some ([], .c (.slice nm (off + l * n) (.lit ((h - l : Nat) : Int)) (.lit ((cap.toNat - l : Nat) : Int)))) else
      bif Nat.ble l h && Nat.ble h cap.toNat then some ([], .c (.slice nm off (.lit ((h - l : Nat) : Int)) (.lit ((cap.toNat - l : Nat) : Int)))) else none
    | none => none
  | some (.array m e), .a (.one (.ptr nm off)), some l, some h, none =>
    match tySize P e with
    | some n =>
      let h := h.getD m
      let l := l.getD 0
      bif Nat.ble l h && Nat.ble h m && !(Nat.beq m l) then some ([], .c (.slice nm (off + l * n) (.lit ((h - l : Nat) : Int)) (.lit ((m - l : Nat) : Int)))) else none
    | none => none
  | _, _, _, _, _ => none
theorem sliceV_wf {P : Program} [Fast P] {fr : Frm} {t : TypeId} {x : SV} {lo hi mx : Option Operand} {ps : List Tm} {v : SV} (h : sliceV P fr t x lo hi mx = some (ps, v)) {n : Nat} (hx : x.wf n) : v.wf n := by
  unfold sliceV at h
  split at h
  · split at h
    · simp only [Bool.cond_eq_ite] at h
      split at h
      · simp at h; obtain ⟨_, rfl⟩ := h; exact hx
      · split at h
        · simp at h; obtain ⟨_, rfl⟩ := h; exact hx
        · cases h
    · cases h
  · split at h
    · simp only [Bool.cond_eq_ite] at h
      split at h
      · simp at h; obtain ⟨_, rfl⟩ := h; exact hx
      · cases h
    · cases h
  · cases h
section
variable [Interp] [Vars] {n : Nat} {β : Bl} {fr : Frm} {a : Act}
theorem bound_den (hf : FrIs n β fr a.tmps) {x : Option Operand} {r : Option Nat} (h : bound fr x = some r) :
    x.map a.eval = r.map fun (n : Nat) => Value.int .i64 (n : Int) := by
  cases x with
  | none => simp [bound] at h; subst h; rfl
  | some x =>
    simp only [bound] at h
    split at h
    · rename_i n hx
      cases hn : intLe 0 n with
      | false => rw [hn] at h; simp at h
      | true =>
        rw [hn] at h
        simp [intLe] at h hn
        subst h
        rw [Option.map_some, (opnd_is hf hx rfl).1]
        simp only [Option.map_some, SV.den, SA.den, SC.den, lit_v]
        congr 2
        omega
    · simp at h
theorem run_sliceBound {P : Program} [Fast P] (n y : Nat) (c : BoundsCode) (h : n ≤ y) (w : World) : (Instr.sliceBound (.int .i64 (n : Int)) y c).run P w = .ok n w := by
  unfold Instr.sliceBound
  simp [asIntOf, h]
theorem run_sliceBounds {P : Program} [Fast P] (s : Bool) (len cap : Nat) (lo hi : Option Nat) (h1 : lo.getD 0 ≤ hi.getD len) (h2 : hi.getD len ≤ cap) (w : World) :
    (Instr.sliceBounds s len cap (lo.map fun (n : Nat) => Value.int .i64 (n : Int)) (hi.map fun (n : Nat) => Value.int .i64 (n : Int)) none).run P w = .ok (lo.getD 0, hi.getD len, cap) w := by
  unfold Instr.sliceBounds
  cases lo with
  | none =>
    cases hi with
    | none => simp
    | some h => simp at h2; simp [run_sliceBound _ _ _ h2]
  | some l =>
    cases hi with
    | none => simp at h1; simp [run_sliceBound _ _ _ h1]
    | some h => simp at h1 h2; simp [run_sliceBound _ _ _ h1, run_sliceBound _ _ _ h2]
theorem run_sliceV {P : Program} [Fast P] (hf : FrIs n β fr a.tmps) {t : TypeId} {x : SV} {lo hi mx : Option Operand} {ps : List Tm} {v : SV} (h : sliceV P fr t x lo hi mx = some (ps, v)) (w : World) :
    (Instr.sliceAt t (x.den β) (lo.map a.eval) (hi.map a.eval) (mx.map a.eval)).run P w = .ok (v.den β) w := by
  unfold sliceV at h
  split at h
  · rename_i e nm off len cap l hh hu hl hhi
    rw [bound_den hf hl, bound_den hf hhi]
    split at h
    · rename_i n hs
      simp only at h
      cases hc : (Nat.ble (l.getD 0) (hh.getD len.toNat) && Nat.ble (hh.getD len.toNat) cap.toNat && !(Nat.beq cap.toNat (l.getD 0))) with
      | true =>
        rw [hc] at h
        simp at h hc
        obtain ⟨rfl, rfl⟩ := h
        obtain ⟨⟨c1, c2⟩, c3⟩ := hc
        have c3' : ¬ (cap.toNat = l.getD 0) := fun h => by rw [h, Nat.beq_refl] at c3; cases c3
        have hb := run_sliceBounds (P := P) true len.toNat cap.toNat l hh c1 c2 w
        unfold Instr.sliceAt Instr.slice
        simp only [SV.den, SA.den, SC.den, lit_v, Int.toNat_natCast, Sem.run_bind, run_underlying' hu, Result.andThen_ok, Option.map_none, hb, run_sizeOf' hs, if_neg c3', Sem.run_pure, Option.map_some, addr_add]
      | false =>
        rw [hc] at h
        simp only [cond_false] at h
        cases hd : (Nat.ble (l.getD 0) (hh.getD len.toNat) && Nat.ble (hh.getD len.toNat) cap.toNat) with
        | false => rw [hd] at h; simp at h
        | true =>
          rw [hd] at h hc
          simp at h hc hd
          obtain ⟨rfl, rfl⟩ := h
          obtain ⟨c1, c2⟩ := hd
          have hb := run_sliceBounds (P := P) true len.toNat cap.toNat l hh c1 c2 w
          unfold Instr.sliceAt Instr.slice
          simp only [SV.den, SA.den, SC.den, lit_v, Int.toNat_natCast, Sem.run_bind, run_underlying' hu, Result.andThen_ok, Option.map_none, hb, run_sizeOf' hs, if_pos hc, Sem.run_pure, Option.map_some, addr_add]
    · simp at h
  · rename_i m e nm off l hh hu hl hhi
    rw [bound_den hf hl, bound_den hf hhi]
    split at h
    · rename_i n hs
      simp only at h
      cases hc : (Nat.ble (l.getD 0) (hh.getD m) && Nat.ble (hh.getD m) m && !(Nat.beq m (l.getD 0))) with
      | true =>
        rw [hc] at h
        simp at h hc
        obtain ⟨rfl, rfl⟩ := h
        obtain ⟨⟨c1, c2⟩, c3⟩ := hc
        have hb := run_sliceBounds (P := P) false m m l hh c1 c2 w
        have c3' : ¬ (m = l.getD 0) := fun h => by rw [h, Nat.beq_refl] at c3; cases c3
        unfold Instr.sliceAt
        simp only [SV.den, SA.den, SC.den, lit_v, Int.toNat_natCast, Sem.run_bind, run_underlying' hu, Result.andThen_ok, Option.map_none, hb, run_sizeOf' hs, if_neg c3', Sem.run_pure, Option.map_some, addr_add, Instr.sureAddr]
      | false => rw [hc] at h; simp at h
    · simp at h
  · simp at h
end
/-! ### operations without memory, together -/
section
variable [Interp] [Rules]
def pureOp (P : Program) [Fast P] (π : Pi) (fr : Frm) (o : Oper) : Option (List Tm × SV) :=
  match o.op with
  | .move x => match opnd fr x with
    | .top => none
    | v => some ([], v)
  | .assign x => match opnd fr x with
    | .top => none
    | v => some ([], v)
  | .pick c a b =>
    match opnd fr c with
    | .a (.one (.bool c)) =>
      match dec π c with
      | some true => match opnd fr a with
        | .top => none
        | v => some ([], v)
      | some false => match opnd fr b with
        | .top => none
        | v => some ([], v)
      | none => none
    | _ => none
  | .nilCheck x =>
    match opnd fr x with
    | .a (.one (.ptr nm o)) => some ([], .c (.ptr nm o))
    | .a (.one (.ptrR nm b t st o)) => some ([], .c (.ptrR nm b t st o))
    | .a (.one (.func f a c)) => some ([], .c (.func f a c))
    | _ => none
  | .build t parts =>
    match partsA fr parts.toList with
    | some r => match builtC P t r with
      | some l => some ([], .a (.agg l))
      | none => none
    | none => none
  | .binOp op t x y _ => binV P π op t (opnd fr x) (opnd fr y)
  | .unOp op _ x => unV π op (opnd fr x)
  | .convert s d x => convV P π s d (opnd fr x)
  | .makeFunc (.func f) first cap =>
    match ptrsA fr first.toList, ptrsA fr cap.toList with
    | some a, some c => some ([], .c (.func f a c))
    | _, _ => none
  | .slice t x lo hi mx => sliceV P fr t (opnd fr x) lo hi mx
  | .fieldAddr s x f => fieldAddrV P s (opnd fr x) f
  | .field t x f => fieldV P t (opnd fr x) f
  | .indexAddr t x i => indexAddrV P t (opnd fr x) (opnd fr i)
  | .index t x i => indexV P t (opnd fr x) (opnd fr i)
  | .extract x i => extractV (opnd fr x) i
  | .call c =>
    match c.callee, c.args.toList, c.argTypes.toList with
    | .builtin .len, [x], [t] =>
      match Fast.und P t, opnd fr x with
      | some (.slice _), .a (.one (.slice _ _ n _)) => bif pv π false (mkLt n (.lit 0)) then some ([], .c (.int .i64 n)) else none
      | some (.slice _), .a (.one (.sliceQ _ _ n _)) => bif pv π false (mkLt n (.lit 0)) then some ([], .c (.int .i64 n)) else none
      | some (.slice _), .a (.one .snil) => some ([], .c (.int .i64 (.lit 0)))
      | some (.array n _), .a _ => some ([], .c (.int .i64 (.lit (n : Int))))
      | _, _ => none
    | _, _, _ => none
  | _ => none
theorem pureOp_wf [Vars] {P : Program} [Fast P] {π : Pi} {n : Nat} {β : Bl} {fr : Frm} {a : Array Value} (hf : FrIs n β fr a) {o : Oper} {ps : List Tm} {v : SV} (h : pureOp P π fr o = some (ps, v)) : v.wf n := by
  have ow := fun x => opnd_wf hf x
  have hf' : FrIs n β fr (⟨a, []⟩ : Act).tmps := hf
  unfold pureOp at h
  split at h
  · split at h
    · cases h
    · rename_i x _ hx _; simp at h; obtain ⟨_, rfl⟩ := h; exact ow _
  · split at h
    · cases h
    · simp at h; obtain ⟨_, rfl⟩ := h; exact ow _
  · split at h
    · split at h
      · split at h
        · cases h
        · simp at h; obtain ⟨_, rfl⟩ := h; exact ow _
      · split at h
        · cases h
        · simp at h; obtain ⟨_, rfl⟩ := h; exact ow _
      · cases h
    · cases h
  · rename_i x _
    have := ow x
    split at h <;> first
      | (rename_i hx; rw [hx] at this; simp at h; obtain ⟨_, rfl⟩ := h; exact this)
      | cases h
  · split at h
    · rename_i r hr
      split at h
      · rename_i l hb
        simp at h; obtain ⟨_, rfl⟩ := h
        exact builtC_wf hb (partsA_den hf' _ _ hr).2
      · cases h
    · cases h
  · exact binV_wf h n
  · exact unV_wf h n
  · exact convV_wf h n
  · split at h
    · rename_i ha hc
      simp at h; obtain ⟨_, rfl⟩ := h
      exact ⟨(ptrsA_den hf' _ _ ha).2, (ptrsA_den hf' _ _ hc).2⟩
    · cases h
  · exact sliceV_wf h (ow _)
  · exact fieldAddrV_wf h (ow _)
  · exact fieldV_wf h (ow _)
  · exact indexAddrV_wf h (ow _)
  · exact indexV_wf h (ow _)
  · exact extractV_wf h (ow _)
  · split at h
    · split at h
      · rw [Bool.cond_eq_ite] at h
        split at h
        · simp at h; obtain ⟨_, rfl⟩ := h; trivial
        · cases h
      · rw [Bool.cond_eq_ite] at h
        split at h
        · simp at h; obtain ⟨_, rfl⟩ := h; trivial
        · cases h
      · simp at h; obtain ⟨_, rfl⟩ := h; trivial
      · simp at h; obtain ⟨_, rfl⟩ := h; trivial
      · cases h
    · cases h
  · cases h
theorem notTop {v : SV} (h : v = .top → False) : v.isTop = false := by cases v <;> first | rfl | exact absurd rfl h
theorem pureOp_notTop {P : Program} [Fast P] {π : Pi} {fr : Frm} {o : Oper} {ps : List Tm} {v : SV} (h : pureOp P π fr o = some (ps, v)) : v.isTop = false := by
  unfold pureOp at h
  split at h
  · split at h
    · cases h
    · rename_i hne; simp at h; obtain ⟨_, rfl⟩ := h; exact notTop hne
  · split at h
    · cases h
    · rename_i hne; simp at h; obtain ⟨_, rfl⟩ := h; exact notTop hne
  · split at h
    · split at h
      · split at h
        · cases h
        · rename_i hne; simp at h; obtain ⟨_, rfl⟩ := h; exact notTop hne
      · split at h
        · cases h
        · rename_i hne; simp at h; obtain ⟨_, rfl⟩ := h; exact notTop hne
      · cases h
    · cases h
  · split at h <;> first | (simp at h; obtain ⟨_, rfl⟩ := h; rfl) | cases h
  · split at h
    · split at h
      · simp at h; obtain ⟨_, rfl⟩ := h; rfl
      · cases h
    · cases h
  · unfold binV at h
    split at h
    · split at h
      · simp at h; obtain ⟨_, rfl⟩ := h; rfl
      · cases h
    · split at h
      · rw [Bool.cond_eq_ite] at h
        split at h
        · cases h
        · split at h
          · simp at h; obtain ⟨_, rfl⟩ := h; rfl
          · cases h
      · rw [Bool.cond_eq_ite] at h
        split at h
        · cases h
        · split at h
          · simp at h; obtain ⟨_, rfl⟩ := h; rfl
          · cases h
      · cases h
    · cases h
  · unfold unV at h
    split at h <;> first | (simp at h; obtain ⟨_, rfl⟩ := h; rfl) | cases h
  · unfold convV at h
    split at h <;> first | (simp at h; obtain ⟨_, rfl⟩ := h; rfl) | cases h
  · split at h <;> first | (simp at h; obtain ⟨_, rfl⟩ := h; rfl) | cases h
  · unfold sliceV at h
    split at h
    · split at h
      · simp only [Bool.cond_eq_ite] at h
        split at h
        · simp at h; obtain ⟨_, rfl⟩ := h; rfl
        · split at h
          · simp at h; obtain ⟨_, rfl⟩ := h; rfl
          · cases h
      · cases h
    · split at h
      · simp only [Bool.cond_eq_ite] at h
        split at h
        · simp at h; obtain ⟨_, rfl⟩ := h; rfl
        · cases h
      · cases h
    · cases h
  · unfold fieldAddrV at h
    split at h
    · split at h
      · split at h
        · split at h <;> first | (simp at h; obtain ⟨_, rfl⟩ := h; rfl) | cases h
        · cases h
      · cases h
    · cases h
  · unfold fieldV at h
    split at h
    · split at h
      · split at h <;> first | (simp at h; obtain ⟨_, rfl⟩ := h; rfl) | cases h
      · cases h
    · cases h
  · unfold indexAddrV at h
    split at h
    · rw [Bool.cond_eq_ite] at h
      split at h
      · split at h <;> first | (simp at h; obtain ⟨_, rfl⟩ := h; rfl) | cases h
      · cases h
    · split at h <;> first | (simp at h; obtain ⟨_, rfl⟩ := h; rfl) | cases h
    · rw [Bool.cond_eq_ite] at h
      split at h
      · split at h <;> first | (simp at h; obtain ⟨_, rfl⟩ := h; rfl) | cases h
      · cases h
    · cases h
  · unfold indexV at h
    split at h
    · split at h
      · split at h <;> first | (simp at h; obtain ⟨_, rfl⟩ := h; rfl) | cases h
      · cases h
    · cases h
  · unfold extractV at h
    split at h
    · split at h <;> first | (simp at h; obtain ⟨_, rfl⟩ := h; rfl) | cases h
    · cases h
  · split at h
    · split at h
      · rw [Bool.cond_eq_ite] at h
        split at h
        · simp at h; obtain ⟨_, rfl⟩ := h; rfl
        · cases h
      · rw [Bool.cond_eq_ite] at h
        split at h
        · simp at h; obtain ⟨_, rfl⟩ := h; rfl
        · cases h
      · simp at h; obtain ⟨_, rfl⟩ := h; rfl
      · simp at h; obtain ⟨_, rfl⟩ := h; rfl
      · cases h
    · cases h
  · cases h
theorem run_pureOp [Vars] {P : Program} [Fast P] {π : Pi} (hπ : facts π) {n : Nat} {β : Bl} {fr : Frm} {a : Act} (hf : FrIs n β fr a.tmps) {o : Oper} {ps : List Tm} {v : SV} (h : pureOp P π fr o = some (ps, v)) (hp : ∀ p ∈ ps, p.tv = true) (w : World) :
    (execOp a.eval o).run P w = .ok (.value (v.den β)) w := by
  have nt := pureOp_notTop h
  unfold pureOp at h
  unfold execOp
  split at h
  · rename_i x ho
    split at h
    · cases h
    · simp at h; obtain ⟨rfl, rfl⟩ := h
      simp [ho, opnd_den hf _ nt]
  · rename_i x ho
    split at h
    · cases h
    · simp at h; obtain ⟨rfl, rfl⟩ := h
      simp [ho, opnd_den hf _ nt]
  · rename_i c x y ho
    split at h
    · rename_i c' hc
      have ec := (opnd_is hf hc rfl).1
      split at h
      · rename_i hd
        have hd' := dec_ok hπ hd
        split at h
        · cases h
        · simp at h; obtain ⟨rfl, rfl⟩ := h
          have ec' : a.eval c = .bool c'.tv := ec
          rw [hd'] at ec'
          simp [ho, ec', asBool, opnd_den hf _ nt]
      · rename_i hd
        have hd' := dec_ok hπ hd
        split at h
        · cases h
        · simp at h; obtain ⟨rfl, rfl⟩ := h
          have ec' : a.eval c = .bool c'.tv := ec
          rw [hd'] at ec'
          simp [ho, ec', asBool, opnd_den hf _ nt]
      · cases h
    · simp at h
  · rename_i x ho
    split at h
    · rename_i nm off hx
      simp at h; obtain ⟨rfl, rfl⟩ := h
      simp only [ho, (opnd_is hf hx rfl).1]
      rfl
    · rename_i nm b t st off hx
      simp at h; obtain ⟨rfl, rfl⟩ := h
      simp only [ho, (opnd_is hf hx rfl).1]
      rfl
    · rename_i f a c hx
      simp at h; obtain ⟨rfl, rfl⟩ := h
      simp only [ho, (opnd_is hf hx rfl).1]
      rfl
    · simp at h
  · rename_i t parts ho
    split at h
    · rename_i r hr
      split at h
      · rename_i l hb
        simp at h; obtain ⟨rfl, rfl⟩ := h
        simp only [ho]
        have h1 := (partsA_den hf parts.toList r hr).1
        have h2 := builtC_den (β := β) hb
        rw [← h1] at h2
        have h3 : (Instr.build t (parts.map fun (i, x) => (i, a.eval x))).run P w = .ok (.agg (dens β l)) w := run_build w t _ _ (by simpa using h2)
        simp only [Sem.run_bind, h3, Result.andThen_ok, Sem.run_pure]
        rfl
      · cases h
    · simp at h
  · rename_i op t x y ty ho
    have hx : (opnd fr x).isTop = false := by
      unfold binV at h
      split at h
      · rename_i h1 h2; rw [h1]; rfl
      · rename_i _ h1 h2; rw [h1]; rfl
      · cases h
    have hy : (opnd fr y).isTop = false := by
      unfold binV at h
      split at h
      · rename_i h1 h2; rw [h2]; rfl
      · rename_i _ h1 h2; rw [h2]; rfl
      · cases h
    have := run_binV hπ h hp β x y w
    simp only [ho, opnd_den hf _ hx, opnd_den hf _ hy]
    rw [Sem.run_bind, this]
    rfl
  · rename_i op t x ho
    have hx : (opnd fr x).isTop = false := by
      unfold unV at h
      split at h
      · rename_i h1; rw [h1]; rfl
      · rename_i h1; rw [h1]; rfl
      · cases h
    have := run_unV (P := P) hπ h β w
    simp only [ho, opnd_den hf _ hx]
    rw [Sem.run_bind, this]
    rfl
  · rename_i s d x ho
    have hx : (opnd fr x).isTop = false := by
      unfold convV at h
      split at h
      · rename_i h1; rw [h1]; rfl
      · cases h
    have := run_convV hπ h β w
    simp only [ho, opnd_den hf _ hx]
    rw [Sem.run_bind, this]
    rfl
  · rename_i f first cap ho
    split at h
    · rename_i p c ha hc
      simp at h; obtain ⟨rfl, rfl⟩ := h
      have h1 := (ptrsA_den hf _ _ ha).1
      have h2 := (ptrsA_den hf _ _ hc).1
      simp only [ho, Instr.makeFunc]
      have e1 : first.map a.eval = (p.map (pden β)).toArray := by rw [← h1, ← Array.toList_inj, Array.toList_map]
      have e2 : cap.map a.eval = (c.map (pden β)).toArray := by rw [← h2, ← Array.toList_inj, Array.toList_map]
      rw [e1, e2]
      rfl
    · simp at h
  · rename_i t x lo hi mx ho
    have hx : (opnd fr x).isTop = false := by
      unfold sliceV at h
      split at h
      · rename_i h1 _ _; rw [h1]; rfl
      · rename_i h1 _ _; rw [h1]; rfl
      · cases h
    have := run_sliceV (P := P) hf h w
    simp only [ho, opnd_den hf _ hx]
    rw [Sem.run_bind, this]
    rfl
  · rename_i s x f ho
    have hx : (opnd fr x).isTop = false := by
      unfold fieldAddrV at h
      split at h
      · split at h
        · split at h
          · split at h
            · rename_i h1; rw [h1]; rfl
            · rename_i h1; rw [h1]; rfl
            · cases h
          · cases h
        · cases h
      · cases h
    have := run_fieldAddrV h β w
    simp only [ho, opnd_den hf _ hx]
    rw [Sem.run_bind, this]
    rfl
  · rename_i t x f ho
    have hx : (opnd fr x).isTop = false := by
      unfold fieldV at h
      split at h
      · rename_i h1; rw [h1]; rfl
      · cases h
    have := run_fieldV h β w
    simp only [ho, opnd_den hf _ hx]
    rw [Sem.run_bind, this]
    rfl
  · rename_i t x i ho
    have hx : (opnd fr x).isTop = false ∧ (opnd fr i).isTop = false := by
      unfold indexAddrV at h
      split at h
      · rename_i h1 h2; rw [h1, h2]; exact ⟨rfl, rfl⟩
      · rename_i h1 h2; rw [h1, h2]; exact ⟨rfl, rfl⟩
      · rename_i h1 h2; rw [h1, h2]; exact ⟨rfl, rfl⟩
      · cases h
    have := run_indexAddrV h hp β w
    simp only [ho, opnd_den hf _ hx.1, opnd_den hf _ hx.2]
    rw [Sem.run_bind, this]
    rfl
  · rename_i t x i ho
    have hx : (opnd fr x).isTop = false ∧ (opnd fr i).isTop = false := by
      unfold indexV at h
      split at h
      · rename_i h1 h2; rw [h1, h2]; exact ⟨rfl, rfl⟩
      · cases h
    have := run_indexV h hp β w
    simp only [ho, opnd_den hf _ hx.1, opnd_den hf _ hx.2]
    rw [Sem.run_bind, this]
    rfl
  · rename_i x i ho
    have hx : (opnd fr x).isTop = false := by
      unfold extractV at h
      split at h
      · rename_i h1; rw [h1]; rfl
      · cases h
    have := run_extractV (P := P) h β w
    simp only [ho, opnd_den hf _ hx]
    rw [Sem.run_bind, this]
    rfl
  · rename_i c ho
    split at h
    · rename_i x t hcal hargs htys
      have ha : c.args = #[x] := by rw [← Array.toList_inj]; simpa using hargs
      have ht : c.argTypes = #[t] := by rw [← Array.toList_inj]; simpa using htys
      have key : ∀ {n : Int}, (Builtin.len_ #[t] o.type #[a.eval x]).run P w = .ok (.int .i64 n) w → (execOp a.eval o).run P w = .ok (.value (.int .i64 n)) w := by
        intro n hn
        unfold execOp
        simp only [ho, resolve, hcal, ha, ht, Sem.run_bind, Sem.run_pure, Result.andThen_ok, invoke, builtin]
        simp only [List.map_toArray, List.map_cons, List.map_nil, hn, Result.andThen_ok]
      split at h
      · rename_i e nm off n cap hu hx
        rw [Bool.cond_eq_ite] at h
        split at h
        · rename_i hn
          simp at h; obtain ⟨rfl, rfl⟩ := h
          have hn' := pv_ok hπ hn
          rw [mkLt_tv, lit_v] at hn'
          have hn'' : ¬ n.v < 0 := of_decide_eq_false hn'
          have e : ((n.v.toNat : Nat) : Int) = n.v := by omega
          exact key (by rw [(opnd_is hf hx rfl).1]; simp [Builtin.len_, run_underlying' hu, SV.den, SA.den, SC.den, goInt, e])
        · cases h
      · rename_i e nm b n cap hu hx
        rw [Bool.cond_eq_ite] at h
        split at h
        · rename_i hn
          simp at h; obtain ⟨rfl, rfl⟩ := h
          have hn' := pv_ok hπ hn
          rw [mkLt_tv, lit_v] at hn'
          have hn'' : ¬ n.v < 0 := of_decide_eq_false hn'
          have e : ((n.v.toNat : Nat) : Int) = n.v := by omega
          exact key (by rw [(opnd_is hf hx rfl).1]; simp [Builtin.len_, run_underlying' hu, SV.den, SA.den, SC.den, goInt, e])
        · cases h
      · rename_i e hu hx
        simp at h; obtain ⟨rfl, rfl⟩ := h
        exact key (by rw [(opnd_is hf hx rfl).1]; simp [Builtin.len_, run_underlying' hu, SV.den, SA.den, SC.den, lit_v, goInt])
      · rename_i n e y hu hx
        simp at h; obtain ⟨rfl, rfl⟩ := h
        exact key (by simp [Builtin.len_, run_underlying' hu, lit_v, goInt])
      · simp at h
    · simp at h
  · simp at h
end
end Go.Proofs.Ytfapicccijbanaa.Ef
