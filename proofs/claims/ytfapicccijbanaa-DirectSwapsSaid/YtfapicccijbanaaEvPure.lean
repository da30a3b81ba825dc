/- What is proved: an operation that neither reads nor makes memory yields what the evaluator says, in whatever world. Conditions: the evaluator's own premises. -/
import Derived.Test.YtfapicccijbanaaEvOp
namespace Go.Proofs.Ytfapicccijbanaa.Ev
open Go Go.Proofs.Ytfapicccijbanaa.Sep
set_option linter.unusedVariables false
set_option linter.unusedSimpArgs false

def binV (P : Program) [Fast P] (op : BinOp) (t : TypeId) (x y : SV) : Option (List Prop × SV) :=
  match x, y with
  | .a (.one (.int k a)), .a (.one (.int k' b)) => (binInt op k a k' b).map fun r => (r.1, .c r.2)
  | .a x, .a y =>
    match op with
    | .eql => bif !(Fast.guard P t) then none else (eqV P 8 t x y).map fun b => ([], .c (.bool b))
    | .neq => bif !(Fast.guard P t) then none else (eqV P 8 t x y).map fun b => ([], .c (.bool (notSB b)))
    | _ => none
  | _, _ => none
theorem run_eqGuard {P : Program} [Fast P] {op : BinOp} {t : TypeId} {x y : Operand} {a b : SA} (hg0 : Fast.guard P t = true) (h : (eqV P 8 t a b).isSome = true) (w : World) :
    (eqGuard op t x y a.den b.den).run P w = .ok () w := by
  have hg := Fast.guard_ok hg0
  cases op <;> first
    | (simp [eqGuard]; done)
    | (cases a with
      | agg xs =>
        cases b with
        | agg ys => simp [eqGuard, SA.den, hg]
        | one c => simp [eqV] at h
      | one c =>
        cases c <;> first
          | (simp [eqGuard, SA.den, SC.den]; done)
          | (unfold eqV at h; split at h <;> simp_all; done))
theorem run_binV {P : Program} [Fast P] {op : BinOp} {t : TypeId} {x y : SV} {ps : List Prop} {v : SV} (h : binV P op t x y = some (ps, v)) (hp : ∀ p ∈ ps, p) (ox oy : Operand) (w : World) :
    (do eqGuard op t ox oy x.den y.den; binOp op t x.den y.den : Sem Value).run P w = .ok v.den w := by
  unfold binV at h
  split at h
  · rename_i k a k' b
    cases hb : binInt op k a k' b with
    | none => rw [hb] at h; simp at h
    | some r =>
      rw [hb] at h
      simp at h
      obtain ⟨rfl, rfl⟩ := h
      have hr := run_binInt (P := P) (x := a) (y := b) (ps := r.1) (c := r.2) t hb hp w
      have hq : (eqGuard op t ox oy (SV.a (.one (.int k a))).den (SV.a (.one (.int k' b))).den).run P w = .ok () w := by
        cases op <;> simp [eqGuard, SV.den, SA.den, SC.den]
      simp only [Sem.run_bind, hq, Result.andThen_ok]
      exact hr
  · rename_i x y hne
    split at h
    · cases hg : Fast.guard P t with
      | false => rw [hg] at h; simp at h
      | true =>
        rw [hg] at h
        simp only [Bool.not_true, cond_false] at h
        cases he : eqV P 8 t x y with
        | none => rw [he] at h; simp at h
        | some b =>
          rw [he] at h
          simp at h
          obtain ⟨rfl, rfl⟩ := h
          have hq := run_eqGuard (op := .eql) (x := ox) (y := oy) hg (by rw [he]; rfl) w
          have hr := run_eqV 8 t x y b he 9992 w
          have hb : binOp .eql t x.den y.den = (do pure (.bool (← Op.equal t x.den y.den))) := by
            unfold eqV at he
            split at he <;> first | rfl | (simp at he; done) | (exfalso; exact hne _ _ _ _ rfl rfl)
          simp only [SV.den, Sem.run_bind, hq, Result.andThen_ok, hb]
          unfold Op.equal Op.maxDepth
          rw [hr]
          rfl
    · cases hg : Fast.guard P t with
      | false => rw [hg] at h; simp at h
      | true =>
        rw [hg] at h
        simp only [Bool.not_true, cond_false] at h
        cases he : eqV P 8 t x y with
        | none => rw [he] at h; simp at h
        | some b =>
          rw [he] at h
          simp at h
          obtain ⟨rfl, rfl⟩ := h
          have hq := run_eqGuard (op := .neq) (x := ox) (y := oy) hg (by rw [he]; rfl) w
          have hr := run_eqV 8 t x y b he 9992 w
          have hb : binOp .neq t x.den y.den = (do pure (.bool (!(← Op.equal t x.den y.den)))) := by
            unfold eqV at he
            split at he <;> first | rfl | (simp at he; done) | (exfalso; exact hne _ _ _ _ rfl rfl)
          simp only [SV.den, Sem.run_bind, hq, Result.andThen_ok, hb]
          unfold Op.equal Op.maxDepth
          rw [hr]
          simp [SA.den, SC.den, notSB_v]
    · simp at h
  · simp at h
/-- An index within n. -/
def within (i : SI) (n : SN) : List Prop :=
  match i, n with
  | .lit i, .lit n => bif decide (0 ≤ i) && decide (i < (n : Int)) then [] else [False]
  | i, n => [0 ≤ i.v ∧ i.v < (n.v : Int)]
theorem within_spec {i : SI} {n : SN} (h : ∀ p ∈ within i n, p) : 0 ≤ i.v ∧ i.v < (n.v : Int) := by
  unfold within at h
  split at h
  · rename_i i n
    cases hc : (decide (0 ≤ i) && decide (i < (n : Int))) with
    | true => simpa [SI.v, SN.v] using hc
    | false => rw [hc] at h; exact (h False (List.mem_singleton.2 rfl)).elim
  · exact h _ (List.mem_singleton.2 rfl)
def indexAddrV (P : Program) [Fast P] (t : TypeId) (x ix : SV) : Option (List Prop × SV) :=
  match Fast.und P t, x, ix with
  | some (.slice e), .a (.one (.slice nm b off len cap)), .a (.one (.int k i)) =>
    (tySize P e).map fun n => (within i len, .c (.ptr nm b (off + i.v.toNat * n)))
  | some (.array m e), .a (.one (.ptr nm b off)), .a (.one (.int k i)) =>
    (tySize P e).map fun n => (within i (.lit m), .c (.ptr nm b (off + i.v.toNat * n)))
  | _, _, _ => none
theorem addr_add (b off n : Nat) : (⟨b, off, none⟩ : Addr).add n = ⟨b, off + n, none⟩ := by
  unfold Addr.add
  split
  · rename_i h; subst h; rfl
  · rfl
theorem run_indexAddrV {P : Program} [Fast P] {t : TypeId} {x ix : SV} {ps : List Prop} {v : SV} (h : indexAddrV P t x ix = some (ps, v)) (hp : ∀ p ∈ ps, p) (w : World) :
    (Instr.indexAt t x.den ix.den).run P w = .ok v.den w := by
  unfold indexAddrV at h
  split at h
  · rename_i e nm b off len cap k i hu
    cases hs : tySize P e with
    | none => rw [hs] at h; simp at h
    | some n =>
      rw [hs] at h
      simp at h
      obtain ⟨rfl, rfl⟩ := h
      have hw := within_spec hp
      unfold Instr.indexAt
      simp [SV.den, SA.den, SC.den, asIntOf, run_underlying' hu, hw, run_sizeOf' hs, addr_add]
  · rename_i m e nm b off k i hu
    cases hs : tySize P e with
    | none => rw [hs] at h; simp at h
    | some n =>
      rw [hs] at h
      simp at h
      obtain ⟨rfl, rfl⟩ := h
      have hw := within_spec hp
      simp [SN.v] at hw
      unfold Instr.indexAt
      simp [SV.den, SA.den, SC.den, asIntOf, run_underlying' hu, hw, run_sizeOf' hs, addr_add, Instr.sureAddr]
  · simp at h
def indexV (P : Program) [Fast P] (t : TypeId) (x ix : SV) : Option (List Prop × SV) :=
  match Fast.und P t, x, ix with
  | some (.array m e), .a (.agg l), .a (.one (.int k (.lit i))) =>
    match tySize P e with
    | some n => (tyPart P e l (i.toNat * n)).map fun r => (within (.lit i) (.lit m), .a r)
    | none => none
  | _, _, _ => none
theorem run_indexV {P : Program} [Fast P] {t : TypeId} {x ix : SV} {ps : List Prop} {v : SV} (h : indexV P t x ix = some (ps, v)) (hp : ∀ p ∈ ps, p) (w : World) :
    (Instr.index t x.den ix.den).run P w = .ok v.den w := by
  unfold indexV at h
  split at h
  · rename_i m e l k i hu
    split at h
    · rename_i n hs
      cases hr : tyPart P e l (i.toNat * n) with
      | none => rw [hr] at h; simp at h
      | some r =>
        rw [hr] at h
        simp at h
        obtain ⟨rfl, rfl⟩ := h
        have hw := within_spec hp
        simp [SI.v, SN.v] at hw
        unfold Instr.index
        simp [SV.den, SA.den, SC.den, SI.v, asIntOf, run_underlying' hu, hw, run_sizeOf' hs, run_part' hr]
    · simp at h
  · simp at h
def fieldAddrV (P : Program) [Fast P] (s : TypeId) (x : SV) (f : Nat) : Option (List Prop × SV) :=
  match Fast.und P s, x with
  | some (.struct fs), .a (.one (.ptr nm b off)) =>
    match fs[f]? with
    | some f => match tySize P f.type with
      | some (n + 1) => some ([], .c (.ptr nm b (off + f.offset)))
      | _ => none
    | none => none
  | _, _ => none
theorem run_fieldAddrV {P : Program} [Fast P] {s : TypeId} {x : SV} {f : Nat} {ps : List Prop} {v : SV} (h : fieldAddrV P s x f = some (ps, v)) (w : World) :
    (Instr.fieldAt s x.den f).run P w = .ok v.den w := by
  unfold fieldAddrV at h
  split at h
  · rename_i fs nm b off hu
    split at h
    · rename_i g hg
      split at h
      · rename_i n hs
        simp at h
        obtain ⟨rfl, rfl⟩ := h
        unfold Instr.fieldAt
        simp [SV.den, SA.den, SC.den, run_underlying' hu, hg, Instr.sureAddr, fieldPlace, run_sizeOf' hs, addr_add]
      · simp at h
    · simp at h
  · simp at h
def fieldV (P : Program) [Fast P] (t : TypeId) (x : SV) (f : Nat) : Option (List Prop × SV) :=
  match Fast.und P t, x with
  | some (.struct fs), .a (.agg l) =>
    match fs[f]? with
    | some f => (tyPart P f.type l f.offset).map fun r => ([], .a r)
    | none => none
  | _, _ => none
theorem run_fieldV {P : Program} [Fast P] {t : TypeId} {x : SV} {f : Nat} {ps : List Prop} {v : SV} (h : fieldV P t x f = some (ps, v)) (w : World) :
    (Instr.field t x.den f).run P w = .ok v.den w := by
  unfold fieldV at h
  split at h
  · rename_i fs l hu
    split at h
    · rename_i g hg
      cases hr : tyPart P g.type l g.offset with
      | none => rw [hr] at h; simp at h
      | some r =>
        rw [hr] at h
        simp at h
        obtain ⟨rfl, rfl⟩ := h
        unfold Instr.field
        simp [SV.den, SA.den, run_underlying' hu, hg, asAgg, run_part' hr]
    · simp at h
  · simp at h
def unV (op : UnOp) (x : SV) : Option (List Prop × SV) :=
  match op, x with
  | .not, .a (.one (.bool b)) => some ([], .c (.bool (notSB b)))
  | .neg, .a (.one (.int k n)) => let r := arith k (· - ·) (.lit 0) n; some (r.1, .c r.2)
  | _, _ => none
theorem run_unV {P : Program} [Fast P] {op : UnOp} {x : SV} {ps : List Prop} {v : SV} (h : unV op x = some (ps, v)) (hp : ∀ p ∈ ps, p) (w : World) : (Op.unary op x.den).run P w = .ok v.den w := by
  unfold unV at h
  split at h
  · simp at h
    obtain ⟨rfl, rfl⟩ := h
    simp [SV.den, SA.den, SC.den, Op.unary, notSB_v]
  · rename_i k n
    simp at h
    obtain ⟨rfl, rfl⟩ := h
    have := arith_den k (· - ·) (.lit 0) n hp
    show (Op.unary .neg (.int k n.v)).run P w = .ok (arith k (· - ·) (.lit 0) n).2.den w
    rw [this]
    simp [Op.unary, Op.intArith, SI.v]
  · simp at h
def convV (P : Program) [Fast P] (src dst : TypeId) (x : SV) : Option (List Prop × SV) :=
  match Fast.und P src, Fast.und P dst, x with
  | some (.int _), some (.int k), .a (.one (.int _ n)) => some ([], .c (.int k (match n with | .lit n => .lit (k.wrap n) | .sym n => .sym (k.wrap n))))
  | _, _, _ => none
theorem run_convV {P : Program} [Fast P] {src dst : TypeId} {x : SV} {ps : List Prop} {v : SV} (h : convV P src dst x = some (ps, v)) (w : World) : (convert src dst x.den).run P w = .ok v.den w := by
  unfold convV at h
  split at h
  · rename_i k0 k k1 n hs hd
    simp at h
    obtain ⟨rfl, rfl⟩ := h
    unfold convert
    simp [SV.den, SA.den, SC.den, run_underlying' hs, run_underlying' hd, Conv.intToInt]
    cases n <;> rfl
  · simp at h
def extractV (x : SV) (i : Nat) : Option (List Prop × SV) :=
  match x with
  | .tup l => (l[i]?).map fun r => ([], .a r)
  | _ => none
theorem run_extractV {P : Program} [Fast P] {x : SV} {i : Nat} {ps : List Prop} {v : SV} (h : extractV x i = some (ps, v)) (w : World) : (Instr.extract x.den i).run P w = .ok v.den w := by
  unfold extractV at h
  split at h
  · rename_i l
    cases hl : l[i]? with
    | none => rw [hl] at h; simp at h
    | some r =>
      rw [hl] at h
      simp at h
      obtain ⟨rfl, rfl⟩ := h
      simp [SV.den, Instr.extract, hl]
  · simp at h
/-- A bound of a slice expression: none, or one that is known. -/
def bound (fr : List SV) : Option Operand → Option (Option Nat)
  | none => some none
  | some x => match opnd fr x with
    | .a (.one (.int .i64 (.lit n))) => bif decide (0 ≤ n) then some (some n.toNat) else none
    | _ => none
def sliceV (P : Program) [Fast P] (fr : List SV) (t : TypeId) (x : SV) (lo hi mx : Option Operand) : Option (List Prop × SV) :=
  match Fast.und P t, x, bound fr lo, bound fr hi, mx with
  | some (.slice e), .a (.one (.slice nm b off (.lit len) (.lit cap))), some l, some h, none =>
    match tySize P e with
    | some n =>
      let h := h.getD len
      let l := l.getD 0
      bif Nat.ble l h && Nat.ble h cap && !(Nat.beq cap l) then some ([], .c (.slice nm b (off + l * n) (.lit (h - l)) (.lit (cap - l)))) else
      bif Nat.ble l h && Nat.ble h cap then some ([], .c (.slice nm b off (.lit (h - l)) (.lit (cap - l)))) else none
    | none => none
  | some (.array m e), .a (.one (.ptr nm b off)), some l, some h, none =>
    match tySize P e with
    | some n =>
      let h := h.getD m
      let l := l.getD 0
      bif Nat.ble l h && Nat.ble h m && !(Nat.beq m l) then some ([], .c (.slice nm b (off + l * n) (.lit (h - l)) (.lit (m - l)))) else none
    | none => none
  | _, _, _, _, _ => none
theorem bound_den {fr : List SV} {x : Option Operand} {r : Option Nat} (h : bound fr x = some r) (ds : List Deferred) :
    x.map (⟨fden fr, ds⟩ : Act).eval = r.map fun (n : Nat) => Value.int .i64 (n : Int) := by
  cases x with
  | none => simp [bound] at h; subst h; rfl
  | some x =>
    simp only [bound] at h
    split at h
    · rename_i n hx
      cases hn : decide (0 ≤ n) with
      | false => rw [hn] at h; simp at h
      | true =>
        rw [hn] at h
        simp at h hn
        subst h
        simp only [Option.map_some, opnd_den, hx, SV.den, SA.den, SC.den, SI.v]
        congr 2
        omega
    · simp at h
theorem run_sliceBound {P : Program} [Fast P] (n y : Nat) (c : BoundsCode) (h : n ≤ y) (w : World) : (Instr.sliceBound (.int .i64 (n : Int)) y c).run P w = .ok n w := by
  unfold Instr.sliceBound
  simp [asIntOf, h]
theorem run_sliceBounds {P : Program} [Fast P] (s : Bool) (len cap : Nat) (lo hi : Option Nat) (h1 : lo.getD 0 ≤ hi.getD len) (h2 : hi.getD len ≤ cap) (w : World) :
    (Instr.sliceBounds s len cap (lo.map fun (n : Nat) => Value.int .i64 (n : Int)) (hi.map fun (n : Nat) => Value.int .i64 (n : Int)) none).run P w = .ok (lo.getD 0, hi.getD len, cap) w := by
  unfold Instr.sliceBounds
  cases lo with
  | none =>
    cases hi with
    | none => simp
    | some h => simp at h2; simp [run_sliceBound _ _ _ h2]
  | some l =>
    cases hi with
    | none => simp at h1; simp [run_sliceBound _ _ _ h1]
    | some h => simp at h1 h2; simp [run_sliceBound _ _ _ h1, run_sliceBound _ _ _ h2]
theorem run_sliceV {P : Program} [Fast P] {fr : List SV} {t : TypeId} {x : SV} {lo hi mx : Option Operand} {ps : List Prop} {v : SV} (h : sliceV P fr t x lo hi mx = some (ps, v)) (ds : List Deferred) (w : World) :
    (Instr.sliceAt t x.den (lo.map (⟨fden fr, ds⟩ : Act).eval) (hi.map (⟨fden fr, ds⟩ : Act).eval) (mx.map (⟨fden fr, ds⟩ : Act).eval)).run P w = .ok v.den w := by
  unfold sliceV at h
  split at h
  · rename_i e nm b off len cap l hh hu hl hhi
    rw [bound_den hl, bound_den hhi]
    split at h
    · rename_i n hs
      simp only at h
      cases hc : (Nat.ble (l.getD 0) (hh.getD len) && Nat.ble (hh.getD len) cap && !(Nat.beq cap (l.getD 0))) with
      | true =>
        rw [hc] at h
        simp at h hc
        obtain ⟨rfl, rfl⟩ := h
        obtain ⟨⟨c1, c2⟩, c3⟩ := hc
        have hb := run_sliceBounds (P := P) true len cap l hh c1 c2 w
        have c3' : ¬ (cap = l.getD 0) := fun h => by rw [h, Nat.beq_refl] at c3; cases c3
        unfold Instr.sliceAt Instr.slice
        simp only [SV.den, SA.den, SC.den, SN.v, Sem.run_bind, run_underlying' hu, Result.andThen_ok, Option.map_none, hb, run_sizeOf' hs, if_neg c3', Sem.run_pure, Option.map_some, addr_add]
      | false =>
        rw [hc] at h
        cases hd : (Nat.ble (l.getD 0) (hh.getD len) && Nat.ble (hh.getD len) cap) with
        | false => rw [hd] at h; simp at h
        | true =>
          rw [hd] at h hc
          simp at h hc hd
          obtain ⟨rfl, rfl⟩ := h
          obtain ⟨c1, c2⟩ := hd
          have hb := run_sliceBounds (P := P) true len cap l hh c1 c2 w
          unfold Instr.sliceAt Instr.slice
          simp only [SV.den, SA.den, SC.den, SN.v, Sem.run_bind, run_underlying' hu, Result.andThen_ok, Option.map_none, hb, run_sizeOf' hs, if_pos hc, Sem.run_pure, Option.map_some, addr_add]
    · simp at h
  · rename_i m e nm b off l hh hu hl hhi
    rw [bound_den hl, bound_den hhi]
    split at h
    · rename_i n hs
      simp only at h
      cases hc : (Nat.ble (l.getD 0) (hh.getD m) && Nat.ble (hh.getD m) m && !(Nat.beq m (l.getD 0))) with
      | true =>
        rw [hc] at h
        simp at h hc
        obtain ⟨rfl, rfl⟩ := h
        obtain ⟨⟨c1, c2⟩, c3⟩ := hc
        have hb := run_sliceBounds (P := P) false m m l hh c1 c2 w
        have c3' : ¬ (m = l.getD 0) := fun h => by rw [h, Nat.beq_refl] at c3; cases c3
        unfold Instr.sliceAt
        simp only [SV.den, SA.den, SC.den, SN.v, Sem.run_bind, run_underlying' hu, Result.andThen_ok, Option.map_none, hb, run_sizeOf' hs, if_neg c3', Sem.run_pure, Option.map_some, addr_add, Instr.sureAddr]
      | false => rw [hc] at h; simp at h
    · simp at h
  · simp at h
end Go.Proofs.Ytfapicccijbanaa.Ev
