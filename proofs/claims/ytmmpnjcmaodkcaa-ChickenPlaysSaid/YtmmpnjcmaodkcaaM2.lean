/- What is proved: the texts on which the statement's own texts stand. Conditions: stated with each lemma. -/
import Derived.Test.YtmmpnjcmaodkcaaM1
import Derived.LoopN
import Derived.ScopeJumps
/- What is proved: what the second evaluator finds of one operation, of a region in the text's order, holds. Conditions: the evaluator's own premises. -/
namespace Go.Proofs.Ytmmpnjcmaodkcaa.Ef
open Go Go.Proofs.Ytmmpnjcmaodkcaa.Sep
open Go.Proofs.Ytmmpnjcmaodkcaa.Ev (Fast tyAgg tySize run_underlying' run_isAgg' run_sizeOf' run_zeroValue')
set_option linter.unusedVariables false
set_option linter.unusedSimpArgs false
set_option linter.unusedSectionVars false
/-- What the evaluator finds: an end; two ways; a new block; two orders. -/
inductive Tree (α : Type) where
  | done (x : α)
  | ite (c : Tm) (a b : Tree α)
  | new (n : Nat) (t : Tree α)
  | both (a b : Tree α)
  | fail (why : Nat)
def Tree.bind {α γ : Type} : Tree α → (α → Tree γ) → Tree γ
  | .done x, k => k x
  | .ite c a b, k => .ite c (a.bind k) (b.bind k)
  | .new n t, k => .new n (t.bind k)
  | .both a b, k => .both (a.bind k) (b.bind k)
  | .fail i, _ => .fail i
/-- What is known on the way, the heap, the next name. -/
structure St where
  pi : Pi
  H : SH
  n : Nat
section
variable [Interp] [Vars]
def Tree.Leads {α : Type} (L : Bl → α → Prop) : Tree α → Bl → Prop
  | .done x, β => L β x
  | .ite c a b, β => (c.tv = true → a.Leads L β) ∧ (c.tv = false → b.Leads L β)
  | .new n t, β => ∀ b, t.Leads L (upd β n b)
  | .both a b, β => a.Leads L β ∧ b.Leads L β
  | .fail _, _ => False
theorem bind_leads {α γ : Type} {L : Bl → γ → Prop} {k : α → Tree γ} : ∀ {t : Tree α} {β : Bl}, (t.bind k).Leads L β → t.Leads (fun β x => (k x).Leads L β) β
  | .done x, β, h => h
  | .ite c a b, β, h => ⟨fun hc => bind_leads (h.1 hc), fun hc => bind_leads (h.2 hc)⟩
  | .new n t, β, h => fun b => bind_leads (h b)
  | .both a b, β, h => ⟨bind_leads h.1, bind_leads h.2⟩
  | .fail _, _, h => h
theorem Tree.Leads.mono {α : Type} {L L' : Bl → α → Prop} (hL : ∀ β x, L β x → L' β x) : ∀ {t : Tree α} {β : Bl}, t.Leads L β → t.Leads L' β
  | .done x, β, h => hL _ _ h
  | .ite c a b, β, h => ⟨fun hc => mono hL (h.1 hc), fun hc => mono hL (h.2 hc)⟩
  | .new n t, β, h => fun b => mono hL (h b)
  | .both a b, β, h => ⟨mono hL h.1, mono hL h.2⟩
  | .fail _, _, h => h
end
/-! ### what is handed on is laid open first -/
section
variable {R : Type}
def frcN (n : Nat) (k : Nat → R) : R := match n with | 0 => k 0 | m + 1 => k (m + 1)
def frcI (n : Int) (k : Int → R) : R := match n with | .ofNat m => k (.ofNat m) | .negSucc m => k (.negSucc m)
def frcT (t : Tm) (k : Tm → R) : R :=
  match t with
  | .lit n => frcI n fun n => k (.lit n)
  | .bl true => k (.bl true)
  | .bl false => k (.bl false)
  | .var i => k (.var i)
  | .a1 f x => k (.a1 f x)
  | .a2 f x y => k (.a2 f x y)
def frcC (c : SC) (k : SC → R) : R :=
  match c with
  | .int j t => frcT t fun t => k (.int j t)
  | .bool t => frcT t fun t => k (.bool t)
  | .slice nm o l c => frcT l fun l => frcT c fun c => k (.slice nm o l c)
  | .ptr nm o => frcN o fun o => k (.ptr nm o)
  | c => k c
def frcCs : List SC → (List SC → R) → R
  | [], k => k []
  | c :: r, k => frcC c fun c => frcCs r fun r => k (c :: r)
def frcA (x : SA) (k : SA → R) : R :=
  match x with
  | .one c => frcC c fun c => k (.one c)
  | .agg l => frcCs l fun l => k (.agg l)
def frcAs : List SA → (List SA → R) → R
  | [], k => k []
  | c :: r, k => frcA c fun c => frcAs r fun r => k (c :: r)
def frcV (v : SV) (k : SV → R) : R :=
  match v with
  | .a x => frcA x fun x => k (.a x)
  | .tup l => frcAs l fun l => k (.tup l)
  | .top => k .top
def frcVs : List SV → (List SV → R) → R
  | [], k => k []
  | v :: r, k => frcV v fun v => frcVs r fun r => k (v :: r)
def frcO (o : SO) (k : SO → R) : R :=
  match o with
  | .cells l T => frcCs l fun l => k (.cells l T)
  | .abs j x ns => frcT x fun x => k (.abs j x ns)
  | .row l T sz cn => frcCs l fun l => k (.row l T sz cn)
  | .opt c j x i z => k (.opt c j x i z)
def frcH : SH → (SH → R) → R
  | [], k => k []
  | q :: r, k => frcH r fun r => k (q :: r)
def Fr.setK : Fr → Nat → SV → (Fr → R) → R
  | .e, _, _, k => k .e
  | .n v l r, i, x, k =>
    match i with
    | 0 => k (.n x l r)
    | j + 1 => bif Nat.beq (j % 2) 0 then l.setK (j / 2) x fun l => k (.n v l r) else r.setK (j / 2) x fun r => k (.n v l r)
theorem Fr.setK_s (v : SV) (l r : Fr) (j : Nat) (x : SV) (k : Fr → R) : (Fr.n v l r).setK (j + 1) x k = bif Nat.beq (j % 2) 0 then l.setK (j / 2) x (fun l => k (.n v l r)) else r.setK (j / 2) x fun r => k (.n v l r) := by
  first
    | rfl
    | (show Bool.rec (motive := fun _ => R) (r.setK (j / 2) x fun r => k (.n v l r)) (l.setK (j / 2) x fun l => k (.n v l r)) (Nat.beq (j % 2) 0) = _
       cases Nat.beq (j % 2) 0 <;> rfl)
def putK (fr : Frm) (d : Option Tmp) (v : SV) (k : Frm → R) : R :=
  match d with
  | none => k fr
  | some d => match fr with
    | ⟨sz, t⟩ => bif Nat.blt d sz then t.setK d v fun t => k ⟨sz, t⟩ else k ⟨sz, t⟩
theorem frcN_eq (n : Nat) (k : Nat → R) : frcN n k = k n := by cases n <;> rfl
theorem frcI_eq (n : Int) (k : Int → R) : frcI n k = k n := by cases n <;> rfl
theorem frcT_eq (t : Tm) (k : Tm → R) : frcT t k = k t := by
  cases t <;> first | exact frcI_eq _ _ | rfl | (rename_i b; cases b <;> rfl)
theorem frcC_eq (c : SC) (k : SC → R) : frcC c k = k c := by
  cases c with
  | int j t => exact frcT_eq t fun t => k (.int j t)
  | bool t => exact frcT_eq t fun t => k (.bool t)
  | ptr nm o => exact frcN_eq o fun o => k (.ptr nm o)
  | slice nm o l c => exact (frcT_eq l fun l => frcT c fun c => k (.slice nm o l c)).trans (frcT_eq c fun c => k (.slice nm o l c))
  | _ => rfl
theorem frcCs_eq : ∀ (l : List SC) (k : List SC → R), frcCs l k = k l
  | [], k => rfl
  | c :: r, k => by
    show frcC c (fun c => frcCs r fun r => k (c :: r)) = _
    rw [frcC_eq, frcCs_eq r]
theorem frcA_eq (x : SA) (k : SA → R) : frcA x k = k x := by
  cases x with
  | one c => exact frcC_eq c fun c => k (.one c)
  | agg l => exact frcCs_eq l fun l => k (.agg l)
theorem frcAs_eq : ∀ (l : List SA) (k : List SA → R), frcAs l k = k l
  | [], k => rfl
  | c :: r, k => by unfold frcAs; rw [frcA_eq, frcAs_eq r]
theorem frcV_eq (v : SV) (k : SV → R) : frcV v k = k v := by
  cases v with
  | a x => exact frcA_eq x fun x => k (.a x)
  | tup l => exact frcAs_eq l fun l => k (.tup l)
  | top => rfl
theorem frcVs_eq : ∀ (l : List SV) (k : List SV → R), frcVs l k = k l
  | [], k => rfl
  | c :: r, k => by unfold frcVs; rw [frcV_eq, frcVs_eq r]
theorem frcO_eq (o : SO) (k : SO → R) : frcO o k = k o := by
  cases o with
  | cells l T => exact frcCs_eq l fun l => k (.cells l T)
  | abs j x ns => exact frcT_eq x fun x => k (.abs j x ns)
  | row l T sz cn => exact frcCs_eq l fun l => k (.row l T sz cn)
  | opt c j x i z => rfl
theorem frcH_eq : ∀ (H : SH) (k : SH → R), frcH H k = k H
  | [], k => rfl
  | q :: r, k => by unfold frcH; rw [frcH_eq r]
theorem Fr.setK_eq : ∀ (f : Fr) (i : Nat) (x : SV) (k : Fr → R), f.setK i x k = k (f.set i x)
  | .e, _, _, _ => rfl
  | .n v l r, 0, x, k => rfl
  | .n v l r, j + 1, x, k => by
    rw [Fr.setK_s]
    unfold Fr.set
    dsimp only
    cases Nat.beq (j % 2) 0 <;> simp only [cond_true, cond_false] <;> rw [Fr.setK_eq]
theorem putK_eq (fr : Frm) (d : Option Tmp) (v : SV) (k : Frm → R) : putK fr d v k = k (fput fr d v) := by
  cases d with
  | none => rfl
  | some d =>
    cases fr with
    | mk sz t =>
      unfold putK fput Frm.set
      dsimp only
      cases Nat.blt d sz <;> simp only [cond_true, cond_false] <;> rw [Fr.setK_eq]
end
/-! ### one operation -/
def isBody (P : Program) [Fast P] (f : Nat) : Bool :=
  match Fast.func P f with
  | some fn => fn.body.isSome
  | none => false
def argsV (fr : Frm) : List Operand → Option (List SV)
  | [] => some []
  | x :: l =>
    match opnd fr x, argsV fr l with
    | .top, _ => none
    | v, some r => some (v :: r)
    | _, none => none
def ptrV (p : Nat × Nat) : SV := .c (.ptr p.1 p.2)
abbrev Rt := Tree (SV × St)
abbrev Caller := Nat → List SV → St → Rt
section
variable [Interp] [Rules]
def needs {α : Type} (π : Pi) : List Tm → Tree α → Tree α
  | [], t => t
  | p :: ps, t => bif pv π true p then needs π ps t else .fail 1
/-- Two ways; only one where the other contradicts what is known. -/
def atomT {α : Type} (t : Tm) (π : Pi) (k : Pi → Bool → Tree α) : Tree α :=
  bif dead ((t, true) :: π) then k ((t, false) :: π) false else
  bif dead ((t, false) :: π) then k ((t, true) :: π) true else .ite t (k ((t, true) :: π) true) (k ((t, false) :: π) false)
/-- Two ways, where it is not known which. -/
def brF {α : Type} : Nat → Tm → Pi → (Pi → Bool → Tree α) → Tree α
  | 0, t, π, k => atomT t π k
  | g + 1, t, π, k =>
    match dec π t with
    | some b => k π b
    | none =>
      match t with
      | .a1 .not x => brF g x π fun π b => k π (!b)
      | .a2 .and x y => brF g x π fun π b => bif b then brF g y π k else k π false
      | .a2 .eq (.a2 .sel c (.a2 .pair x y)) z => brF g c π fun π b => brF g (mkEq (bif b then x else y) z) π k
      | .a2 .lt (.a2 .sel c (.a2 .pair x y)) z => brF g c π fun π b => brF g (mkLt (bif b then x else y) z) π k
      | .a2 .lt z (.a2 .sel c (.a2 .pair x y)) => brF g c π fun π b => brF g (mkLt z (bif b then x else y)) π k
      | .a2 .eq z (.a2 .sel c (.a2 .pair x y)) => brF g c π fun π b => brF g (mkEq z (bif b then x else y)) π k
      | .a2 .sel c (.a2 .pair x y) => brF g c π fun π b => brF g (bif b then x else y) π k
      | .a2 .eq x y => match eqP π (.a2 .eq x y) with
        | some u => brF g u π k
        | none => atomT (.a2 .eq x y) π k
      | t => atomT t π k
def br {α : Type} (t : Tm) (π : Pi) (k : Pi → Bool → Tree α) : Tree α := brF 40 t π k
def forkI {α : Type} (i : Tm) (k : Pi → Nat → Tree α) : Nat → Nat → Pi → Tree α
  | 0, _, _ => .fail 2
  | g + 1, j, π => br (mkLt i (.lit ((j : Int) + 1))) π fun π b =>
      bif b then (bif (rng π i).inside j j then k π j else .fail 3) else forkI i k g (j + 1) π
def ixLen (P : Program) [Fast P] (t : TypeId) (x : SV) : Nat :=
  match Fast.und P t, x with
  | some (.slice _), .a (.one (.slice _ _ (.lit m) _)) => m.toNat
  | some (.array m _), _ => m
  | _, _ => 0
def evOp (P : Program) [Fast P] [Ab P] (call : Caller) (o : Oper) (fr : Frm) (s : St) : Rt :=
  match s with
  | ⟨π, H, n⟩ =>
    match pureOp P π fr o with
    | some (ps, v) => needs π ps (.done (v, ⟨π, H, n⟩))
    | none =>
      match o.op with
      | .load t x =>
        match loadV P π t H (opnd fr x) with
        | some (ps, v) => needs π ps (.done (v, ⟨π, H, n⟩))
        | none => frcN n fun n =>
          match openV P t H n (opnd fr x) with
          | some (nm, o, v) => frcO o fun o => frcH (put H nm o) fun H => .new n (.done (v, ⟨π, H, n + 1⟩))
          | none => .fail 4
      | .store t x y =>
        match storeV P t H (opnd fr x) (opnd fr y) with
        | some (nm, o) => frcO o fun o => frcH (put H nm o) fun H => .done (.un, ⟨π, H, n⟩)
        | none =>
          match storeA P π t H (opnd fr x) (opnd fr y) with
          | some (nm, o) => frcO o fun o => frcH (put H nm o) fun H => .done (.un, ⟨π, H, n⟩)
          | none => .fail 5
      | .alloc t =>
        match zeroC P t with
        | some l => frcN n fun n => frcCs l fun l => .new n (.done (.c (.ptr n 0), ⟨π, (n, .cells l t) :: H, n + 1⟩))
        | none => .fail 6
      | .box t x =>
        match opnd fr x with
        | .a x => bif x.plain then frcN n fun n => frcCs x.cells fun l => .new n (.done (.c (.ptr n 0), ⟨π, (n, .cells l t) :: H, n + 1⟩)) else .fail 7
        | _ => .fail 8
      | .buildSlice t len parts =>
        match partsA fr parts.toList with
        | some r =>
          match sliceC P t len r with
          | some (e, l) => frcN n fun n => frcCs l fun l => .new n (.done (.c (.slice n 0 (.lit len) (.lit len)), ⟨π, (n, .cells l e) :: H, n + 1⟩))
          | none => .fail 9
        | none => .fail 10
      | .pick c a b =>
        match opnd fr c with
        | .a (.one (.bool c)) => br c π fun π t =>
          match (bif t then opnd fr a else opnd fr b) with
          | .top => .fail 11
          | v => .done (v, ⟨π, H, n⟩)
        | _ => .fail 12
      | .indexAddr t x i =>
        match opnd fr x, opnd fr i with
        | .a x, .a (.one (.int k i)) => forkI i (fun π j =>
          match indexAddrV P t (.a x) (.c (.int k (.lit j))) with
          | some (ps, v) => needs π ps (.done (v, ⟨π, H, n⟩))
          | none => .fail 13) (ixLen P t (.a x)) 0 π
        | _, _ => .fail 14
      | .index t x i =>
        match opnd fr x, opnd fr i with
        | .a x, .a (.one (.int k i)) => forkI i (fun π j =>
          match indexV P t (.a x) (.c (.int k (.lit j))) with
          | some (ps, v) => needs π ps (.done (v, ⟨π, H, n⟩))
          | none => .fail 15) (ixLen P t (.a x)) 0 π
        | _, _ => .fail 16
      | .call c =>
        match c.callee with
        | .value f =>
          match opnd fr f with
          | .a (.one (.func f first cap)) =>
            bif isBody P f then
              match argsV fr c.args.toList with
              | some l => frcVs (first.map ptrV ++ (l ++ cap.map ptrV)) fun l => call f l ⟨π, H, n⟩
              | none => .fail 17
            else .fail 18
          | _ => .fail 19
        | .builtin .append =>
          match c.args.toList, c.argTypes.toList with
          | [x, y], [t, t'] =>
            bif Nat.beq t t' then
              match appC P t H (opnd fr x) (opnd fr y) with
              | some (k, l, e, sz, H') => frcN n fun n => frcCs l fun l => frcH H' fun H' => .new n (.new (n + 1) (.done (.c (.sliceN n (.lit k) (n + 1)), ⟨π, (n, .row l e sz (n + 1)) :: H', n + 2⟩)))
              | none => .fail 45
            else .fail 46
          | _, _ => .fail 47
        | _ => .fail 20
      | _ => .fail 21
end
def NoGos (P : Program) : Prop := ∀ (f : Nat) (fn : Func), P.funcs[f]? = some fn → (fn.name == "runtime.NumGoroutine") = false
theorem run_callFunc {P : Program} [Fast P] (hn : NoGos P) {f : Nat} (hb : isBody P f = true) (args : Array Value) (w : World) : (callFunc f args).run P w = .ok (.enter f args) w := by
  unfold isBody at hb
  cases hf0 : Fast.func P f with
  | none => rw [hf0] at hb; cases hb
  | some fn =>
    rw [hf0] at hb
    have hf := Fast.func_ok hf0
    have h1 := hn f fn hf
    unfold callFunc
    have h1' : ¬ fn.name = "runtime.NumGoroutine" := by simpa using h1
    have h2 : ¬ fn.body = none := by intro h; simp only [h] at hb; cases hb
    simp [hf, h1', h2]
/-- An operation gives a value: what holds of it. -/
def Gives (P : Program) (o : Oper) (ev : Operand → Value) (w : World) (N : Value → World → Prop) : Prop :=
  match (execOp ev o).run P w with
  | .ok (.value v) w' => N v w'
  | .ok .skip w' => N undef w'
  | .ok (.enter f args) w' => Calls P f args w' fun e w'' => ∃ v, e = .returned v ∧ N v w''
  | _ => False
theorem Gives.wp {P : Program} {o : Oper} {a : Act} {w : World} {N : Value → World → Prop} (h : Gives P o a.eval w N) {next : Act → World → Prop} {Q : Exit → Act → World → Prop} (hk : ∀ v w', N v w' → next (a.put o.dst v) w') : o.wp P a w next Q := by
  unfold Gives at h
  unfold Oper.wp
  generalize (execOp a.eval o).run P w = r at h
  split at h
  · exact hk _ _ h
  · exact hk _ _ h
  · refine Calls.mono h ?_
    rintro e w'' ⟨v, rfl, hv⟩
    exact hk _ _ hv
  · exact h.elim
section
variable [Interp] [Rules] [Vars]
theorem needs_leads {α : Type} {π : Pi} (hπ : facts π) {L : Bl → α → Prop} {t : Tree α} {β : Bl} : ∀ {ps : List Tm}, (needs π ps t).Leads L β → (∀ p ∈ ps, p.tv = true) ∧ t.Leads L β
  | [], h => ⟨fun p hp => (by cases hp), h⟩
  | p :: ps, h => by
    unfold needs at h
    rw [Bool.cond_eq_ite] at h
    split at h
    · rename_i hp
      obtain ⟨h1, h2⟩ := needs_leads hπ h
      exact ⟨fun q hq => by
        rcases List.mem_cons.1 hq with rfl | hq
        · exact pv_ok hπ hp
        · exact h1 q hq, h2⟩
    · exact h.elim
theorem brF_leads {α : Type} {L : Bl → α → Prop} {β : Bl} : ∀ {g : Nat} {c : Tm} {π : Pi} {k : Pi → Bool → Tree α}, (brF g c π k).Leads L β → facts π → ∃ π', facts π' ∧ (k π' c.tv).Leads L β := by
  have atom : ∀ {c : Tm} {π : Pi} {k : Pi → Bool → Tree α}, (atomT c π k).Leads L β → facts π → ∃ π', facts π' ∧ (k π' c.tv).Leads L β := by
    intro c π k h hπ
    unfold atomT at h
    rw [Bool.cond_eq_ite, Bool.cond_eq_ite] at h
    split at h
    · rename_i hd
      cases hc : c.tv with
      | true => exact (dead_ok (facts_cons hπ hc) hd).elim
      | false => exact ⟨_, facts_cons hπ hc, h⟩
    · split at h
      · rename_i hd
        cases hc : c.tv with
        | true => exact ⟨_, facts_cons hπ hc, h⟩
        | false => exact (dead_ok (facts_cons hπ hc) hd).elim
      · cases hc : c.tv with
        | true => exact ⟨_, facts_cons hπ hc, h.1 hc⟩
        | false => exact ⟨_, facts_cons hπ hc, h.2 hc⟩
  have selv : ∀ (c x y : Tm), (Tm.a2 .sel c (.a2 .pair x y)).v = (bif c.tv then x else y).v := by
    intro c x y
    simp only [Tm.v, Tm.den, F2.den, U.fst, U.snd, Tm.tv]
    rcases Bool.eq_false_or_eq_true c.den.bool with h | h <;> simp [h]
  intro g
  induction g with
  | zero => intro c π k h hπ; exact atom h hπ
  | succ g ih =>
    intro c π k h hπ
    unfold brF at h
    split at h
    · rename_i b hd; exact ⟨π, hπ, by rw [dec_ok hπ hd]; exact h⟩
    · split at h
      · obtain ⟨π', h1, h2⟩ := ih h hπ
        exact ⟨π', h1, h2⟩
      · rename_i x y _
        obtain ⟨π', h1, h2⟩ := ih h hπ
        show ∃ π', facts π' ∧ (k π' (x.tv && y.tv)).Leads L β
        cases hx : x.tv with
        | true => rw [hx] at h2; exact ih h2 h1
        | false => rw [hx] at h2; exact ⟨π', h1, h2⟩
      · rename_i c x y z
        obtain ⟨π', h1, h2⟩ := ih h hπ
        obtain ⟨π'', h3, h4⟩ := ih h2 h1
        refine ⟨π'', h3, ?_⟩
        rw [mkEq_tv] at h4
        rw [eq_tv, selv]; exact h4
      · rename_i c x y z
        obtain ⟨π', h1, h2⟩ := ih h hπ
        obtain ⟨π'', h3, h4⟩ := ih h2 h1
        refine ⟨π'', h3, ?_⟩
        rw [mkLt_tv] at h4
        rw [lt_tv, selv]; exact h4
      · rename_i z c x y _
        obtain ⟨π', h1, h2⟩ := ih h hπ
        obtain ⟨π'', h3, h4⟩ := ih h2 h1
        refine ⟨π'', h3, ?_⟩
        rw [mkLt_tv] at h4
        rw [lt_tv, selv]; exact h4
      · rename_i z c x y _
        obtain ⟨π', h1, h2⟩ := ih h hπ
        obtain ⟨π'', h3, h4⟩ := ih h2 h1
        refine ⟨π'', h3, ?_⟩
        rw [mkEq_tv] at h4
        rw [eq_tv, selv]; exact h4
      · rename_i c x y _
        obtain ⟨π', h1, h2⟩ := ih h hπ
        obtain ⟨π'', h3, h4⟩ := ih h2 h1
        refine ⟨π'', h3, ?_⟩
        have e : (Tm.a2 .sel c (.a2 .pair x y)).tv = (bif c.tv then x else y).tv := by
          simp only [Tm.tv, Tm.den, F2.den, U.fst, U.snd]
          rcases Bool.eq_false_or_eq_true c.den.bool with h | h <;> simp [h]
        rw [e]; exact h4
      · split at h
        · rename_i u hu
          obtain ⟨π', h1, h2⟩ := ih h hπ
          rw [eqP_ok hπ hu] at h2
          exact ⟨π', h1, h2⟩
        · exact atom h hπ
      · exact atom h hπ
theorem br_leads {α : Type} {L : Bl → α → Prop} {β : Bl} {c : Tm} {π : Pi} {k : Pi → Bool → Tree α} (h : (br c π k).Leads L β) (hπ : facts π) : ∃ π', facts π' ∧ (k π' c.tv).Leads L β := brF_leads h hπ
theorem forkI_leads {α : Type} {L : Bl → α → Prop} {β : Bl} {i : Tm} {k : Pi → Nat → Tree α} : ∀ {g j : Nat} {π : Pi}, (forkI i k g j π).Leads L β → facts π → ∃ π' m, facts π' ∧ i.v = (m : Nat) ∧ (k π' m).Leads L β
  | 0, j, π, h, hπ => h.elim
  | g + 1, j, π, h, hπ => by
    unfold forkI at h
    obtain ⟨π', h1, h2⟩ := br_leads h hπ
    cases hb : (mkLt i (.lit ((j : Int) + 1))).tv with
    | true =>
      rw [hb] at h2
      simp only [cond_true] at h2
      rw [Bool.cond_eq_ite] at h2
      split at h2
      · rename_i hin
        have := Rg.inside_ok (rng_ok h1 i) hin
        exact ⟨π', j, h1, by omega, h2⟩
      · exact h2.elim
    | false => rw [hb] at h2; exact forkI_leads h2 h1
/-- The state is so. -/
structure At (β : Bl) (s : St) (w : World) (R : HProp) : Prop where
  pi : facts s.pi
  wf : hwf s.n s.H
  hold : Holds w (hden β s.H * R)
/-- One state came out of another. -/
structure Out (β : Bl) (s : St) (w : World) (R : HProp) (β' : Bl) (s' : St) (w' : World) : Prop where
  ag : Ag s.n β β'
  n : s.n ≤ s'.n
  at_ : At β' s' w' R
  st : Strm w w'
theorem Out.refl {β : Bl} {s : St} {w : World} {R : HProp} (h : At β s w R) : Out β s w R β s w := ⟨Ag.refl _ _, Nat.le_refl _, h, Strm.refl w⟩
theorem Out.trans {β β' β'' : Bl} {s s' s'' : St} {w w' w'' : World} {R : HProp} (h : Out β s w R β' s' w') (k : Out β' s' w' R β'' s'' w'') : Out β s w R β'' s'' w'' :=
  ⟨h.ag.trans k.ag h.n, Nat.le_trans h.n k.n, k.at_, h.st.trans k.st⟩
/-- A call by the evaluator holds of the program. -/
def CallerOk (P : Program) (call : Caller) : Prop :=
  ∀ f args s (L : Bl → SV × St → Prop) β, (call f args s).Leads L β → (∀ x ∈ args, x.wf s.n) → (∀ x ∈ args, x.isTop = false) → ∀ (w : World) (R : HProp), At β s w R → ∀ Q : Ending → World → Prop,
    (∀ β' v s' w', L β' (v, s') → v.wf s'.n → v.isTop = false → Out β s w R β' s' w' → Q (.returned (v.den β')) w') → Calls P f (args.map (SV.den β)).toArray w Q
theorem argsV_den {n : Nat} {β : Bl} {fr : Frm} {a : Act} (hf : FrIs n β fr a.tmps) : ∀ (l : List Operand) (r : List SV), argsV fr l = some r → l.map a.eval = r.map (SV.den β) ∧ (∀ x ∈ r, x.wf n) ∧ ∀ x ∈ r, x.isTop = false
  | [], r, h => by simp [argsV] at h; subst h; exact ⟨rfl, fun p hp => (by cases hp), fun p hp => (by cases hp)⟩
  | x :: l, r, h => by
    unfold argsV at h
    split at h
    · cases h
    · rename_i r' hr hne
      simp at h; subst h
      obtain ⟨h1, h2, h3⟩ := argsV_den hf l r' hr
      have nt : (opnd fr x).isTop = false := notTop fun e => by first | exact hne e | exact absurd e (by assumption)
      refine ⟨by simp only [List.map_cons, opnd_den hf x nt, h1], fun y hy => ?_, fun y hy => ?_⟩
      · rcases List.mem_cons.1 hy with rfl | hy
        · exact opnd_wf hf x
        · exact h2 y hy
      · rcases List.mem_cons.1 hy with rfl | hy
        · exact nt
        · exact h3 y hy
    · cases h
theorem ptrV_den (β : Bl) (l : List (Nat × Nat)) : (l.map ptrV).map (SV.den β) = l.map (pden β) := by
  rw [List.map_map]; rfl
theorem upd_at {β : Bl} {s : St} {w w' : World} {R : HProp} (h : At β s w R) {l : List SC} (hl : lwf s.n l) (T : TypeId) : Out β s w R (upd β s.n w.heap.size) ⟨s.pi, (s.n, .cells l T) :: s.H, s.n + 1⟩ (w.alloc (.cells (dens β l) T)) := by
  refine ⟨upd_ag _ _ _, Nat.le_succ _, ⟨h.pi, fun q hq => ?_, alloc_holds h.hold h.wf hl T⟩, (Strm.refl w).alloc _⟩
  rcases List.mem_cons.1 hq with rfl | hq
  · exact ⟨Nat.lt_succ_self _, lwf_mono (Nat.le_succ _) hl⟩
  · exact ⟨Nat.lt_succ_of_lt (h.wf q hq).1, SO.wf_mono (Nat.le_succ _) (h.wf q hq).2⟩
theorem evOp_gives {P : Program} [Fast P] [Ab P] [AbOk P] (hn : NoGos P) {call : Caller} (hcall : CallerOk P call) {o : Oper} {fr : Frm} {s : St} {L : Bl → SV × St → Prop} {β : Bl}
    (hl : (evOp P call o fr s).Leads L β) {a : Act} (hf : FrIs s.n β fr a.tmps) {w : World} {R : HProp} (hw : At β s w R) {N : Value → World → Prop}
    (hk : ∀ β' v s' w', L β' (v, s') → v.wf s'.n → v.isTop = false → Out β s w R β' s' w' → N (v.den β') w') : Gives P o a.eval w N := by
  obtain ⟨π, H, n⟩ := s
  unfold evOp at hl
  dsimp only at hl
  split at hl
  · rename_i ps v hp
    obtain ⟨h1, h2⟩ := needs_leads hw.pi hl
    unfold Gives
    rw [run_pureOp hw.pi hf hp h1 w]
    exact hk β v _ w h2 (pureOp_wf hf hp) (pureOp_notTop hp) (Out.refl hw)
  · split at hl
    · rename_i t x ho
      split at hl
      · rename_i ps v hld
        obtain ⟨h1, h2⟩ := needs_leads hw.pi hl
        have hx : (opnd fr x).isTop = false := by
          unfold loadV at hld
          split at hld
          · rename_i e; rw [e]; rfl
          · rename_i e; rw [e]; rfl
          · cases hld
        have hv : v.isTop = false := loadV_top hld
        have h3 := run_loadV hw.pi hld h1 hw.hold
        unfold Gives execOp
        simp only [ho, opnd_den hf x hx, Sem.run_bind, h3, Result.andThen_ok, Sem.run_pure]
        exact hk β v _ w h2 (loadV_wf hld hw.wf) hv (Out.refl hw)
      · rw [frcN_eq] at hl
        split at hl
        · rename_i nm o' v hop
          rw [frcO_eq, frcH_eq] at hl
          have hx : (opnd fr x).isTop = false := by
            unfold openV at hop
            split at hop
            · rename_i e; rw [e]; rfl
            · cases hop
          obtain ⟨wb, h1, h2, h3, h4, h5⟩ := run_openV hop hw.hold hw.wf (fun wb => upd_ag β n wb)
          unfold Gives execOp
          simp only [ho, opnd_den hf x hx, Sem.run_bind, h1, Result.andThen_ok, Sem.run_pure]
          exact hk (upd β n wb) v ⟨π, put H nm o', n + 1⟩ w (hl wb) h3 h4 ⟨upd_ag _ _ _, Nat.le_succ _, ⟨hw.pi, h5, h2⟩, Strm.refl w⟩
        · exact hl.elim
    · rename_i t x y ho
      split at hl
      · rename_i nm o' hst
        rw [frcO_eq, frcH_eq] at hl
        have hx : (opnd fr x).isTop = false ∧ (opnd fr y).isTop = false := by
          unfold storeV at hst
          split at hst
          · rename_i e1 e2; rw [e1, e2]; exact ⟨rfl, rfl⟩
          · cases hst
        obtain ⟨w', h3, h4, h5⟩ := run_storeV hst hw.hold
        unfold Gives execOp
        simp only [ho, opnd_den hf x hx.1, opnd_den hf y hx.2, Sem.run_bind, h3, Result.andThen_ok, Sem.run_pure]
        exact hk β .un ⟨π, put H nm o', n⟩ w' hl (fun x hx => (by cases hx)) rfl ⟨Ag.refl _ _, Nat.le_refl _, ⟨hw.pi, storeV_wf hst hw.wf (opnd_wf hf y), h4⟩, h5⟩
      · split at hl
        · rename_i nm o' hst
          rw [frcO_eq, frcH_eq] at hl
          have hx : (opnd fr x).isTop = false ∧ (opnd fr y).isTop = false := by
            unfold storeA at hst
            split at hst
            · rename_i e1 e2; rw [e1, e2]; exact ⟨rfl, rfl⟩
            · cases hst
          obtain ⟨w', h3, h4, h5⟩ := run_storeA hw.pi hst hw.hold
          unfold Gives execOp
          simp only [ho, opnd_den hf x hx.1, opnd_den hf y hx.2, Sem.run_bind, h3, Result.andThen_ok, Sem.run_pure]
          exact hk β .un ⟨π, put H nm o', n⟩ w' hl (fun x hx => (by cases hx)) rfl ⟨Ag.refl _ _, Nat.le_refl _, ⟨hw.pi, storeA_wf hst hw.wf, h4⟩, h5⟩
        · exact hl.elim
    · rename_i t ho
      split at hl
      · rename_i l hz
        rw [frcN_eq, frcCs_eq] at hl
        unfold Gives execOp
        simp only [ho, Sem.run_bind, run_alloc' (β := β) hz, Result.andThen_ok, Sem.run_pure]
        have := hk (upd β n w.heap.size) (.c (.ptr n 0)) _ _ (hl w.heap.size) (Nat.lt_succ_self n) rfl (upd_at (w' := w) hw (zeroC_wf hz n) t)
        rw [show (SV.c (.ptr n 0)).den (upd β n w.heap.size) = .pointer (some ⟨w.heap.size, 0, none⟩) by show Value.pointer (some ⟨upd β n w.heap.size n, 0, none⟩) = _; rw [upd_self]] at this
        exact this
      · exact hl.elim
    · rename_i t x ho
      split at hl
      · rename_i y hx
        rw [Bool.cond_eq_ite] at hl
        split at hl
        · rename_i hp
          rw [frcN_eq, frcCs_eq] at hl
          obtain ⟨e, ew⟩ := opnd_is hf hx rfl
          unfold Gives execOp
          have hb := run_box' (P := P) (w := w) (β := β) (t := t) hp
          simp only [ho, e, SV.den, Sem.run_bind, hb, Result.andThen_ok, Sem.run_pure]
          have := hk (upd β n w.heap.size) (.c (.ptr n 0)) _ _ (hl w.heap.size) (Nat.lt_succ_self n) rfl (upd_at (w' := w) hw (SA.cells_wf ew) t)
          rw [show (SV.c (.ptr n 0)).den (upd β n w.heap.size) = .pointer (some ⟨w.heap.size, 0, none⟩) by show Value.pointer (some ⟨upd β n w.heap.size n, 0, none⟩) = _; rw [upd_self]] at this
          exact this
        · exact hl.elim
      · exact hl.elim
    · rename_i t len parts ho
      split at hl
      · rename_i r hr
        split at hl
        · rename_i e l hs
          rw [frcN_eq, frcCs_eq] at hl
          obtain ⟨h1, h1w⟩ := partsA_den hf parts.toList r hr
          have h2 : (parts.map fun (i, x) => (i, a.eval x)) = (r.map fun p => (p.1, p.2.den β)).toArray := by rw [← h1, ← Array.toList_inj, Array.toList_map]
          unfold Gives execOp
          simp only [ho, h2, Sem.run_bind, run_sliceC (β := β) hs, Result.andThen_ok, Sem.run_pure]
          have := hk (upd β n w.heap.size) (.c (.slice n 0 (.lit len) (.lit len))) _ _ (hl w.heap.size) (Nat.lt_succ_self n) rfl (upd_at (w' := w) hw (sliceC_wf hs h1w) e)
          rw [show (SV.c (.slice n 0 (.lit len) (.lit len))).den (upd β n w.heap.size) = .slice (some ⟨w.heap.size, 0, none⟩) len len by
            show Value.slice (some ⟨upd β n w.heap.size n, 0, none⟩) (Int.toNat (len : Int)) (Int.toNat (len : Int)) = _; rw [upd_self, Int.toNat_natCast]] at this
          exact this
        · exact hl.elim
      · exact hl.elim
    · rename_i c x y ho
      split at hl
      · rename_i c' hc
        obtain ⟨ec, _⟩ := opnd_is hf hc rfl
        obtain ⟨π', h1, h2⟩ := br_leads hl hw.pi
        unfold Gives execOp
        have e : a.eval c = .bool c'.tv := ec
        split at h2
        · exact h2.elim
        · rename_i hne
          have ev : (if c'.tv then a.eval x else a.eval y) = ((bif c'.tv then opnd fr x else opnd fr y)).den β := by
            rw [Bool.cond_eq_ite] at hne ⊢
            split
            · rename_i ht; rw [if_pos ht] at hne; exact opnd_den hf x (notTop hne)
            · rename_i ht; rw [if_neg ht] at hne; exact opnd_den hf y (notTop hne)
          have ew : ((bif c'.tv then opnd fr x else opnd fr y)).wf n := by
            rw [Bool.cond_eq_ite]
            split
            · exact opnd_wf hf x
            · exact opnd_wf hf y
          simp only [ho, e, asBool, Sem.run_bind, Sem.run_pure, Result.andThen_ok]
          have := hk β _ _ w h2 ew (notTop hne) ⟨Ag.refl _ _, Nat.le_refl _, ⟨h1, hw.wf, hw.hold⟩, Strm.refl w⟩
          rw [← ev] at this
          cases ht : c'.tv with
          | true => rw [ht] at this; exact this
          | false => rw [ht] at this; exact this
      · exact hl.elim
    · rename_i t x i ho
      split at hl
      · rename_i x' k i' hx hi
        obtain ⟨π', m, h1, h2, h3⟩ := forkI_leads hl hw.pi
        split at h3
        · rename_i ps v hv
          obtain ⟨h4, h5⟩ := needs_leads h1 h3
          obtain ⟨ex, wx⟩ := opnd_is hf hx rfl
          obtain ⟨ei, _⟩ := opnd_is hf hi rfl
          have hr := run_indexAddrV hv h4 β w
          have ei' : a.eval i = (SV.c (.int k (.lit m))).den β := by rw [ei]; show Value.int k i'.v = .int k (m : Nat); rw [h2]
          unfold Gives execOp
          simp only [ho, ex, ei', Sem.run_bind, hr, Result.andThen_ok, Sem.run_pure]
          have nt : v.isTop = false := by
            unfold indexAddrV at hv
            split at hv
            · rw [Bool.cond_eq_ite] at hv
              split at hv
              · split at hv <;> first | (simp at hv; obtain ⟨_, rfl⟩ := hv; rfl) | cases hv
              · cases hv
            · split at hv <;> first | (simp at hv; obtain ⟨_, rfl⟩ := hv; rfl) | cases hv
            · rw [Bool.cond_eq_ite] at hv
              split at hv
              · split at hv <;> first | (simp at hv; obtain ⟨_, rfl⟩ := hv; rfl) | cases hv
              · cases hv
            · rw [Bool.cond_eq_ite] at hv
              split at hv
              · split at hv <;> first | (simp at hv; obtain ⟨_, rfl⟩ := hv; rfl) | cases hv
              · cases hv
            · cases hv
          exact hk β v _ w h5 (indexAddrV_wf hv wx) nt ⟨Ag.refl _ _, Nat.le_refl _, ⟨h1, hw.wf, hw.hold⟩, Strm.refl w⟩
        · exact h3.elim
      · exact hl.elim
    · rename_i t x i ho
      split at hl
      · rename_i x' k i' hx hi
        obtain ⟨π', m, h1, h2, h3⟩ := forkI_leads hl hw.pi
        split at h3
        · rename_i ps v hv
          obtain ⟨h4, h5⟩ := needs_leads h1 h3
          obtain ⟨ex, wx⟩ := opnd_is hf hx rfl
          obtain ⟨ei, _⟩ := opnd_is hf hi rfl
          have hr := run_indexV hv h4 β w
          have ei' : a.eval i = (SV.c (.int k (.lit m))).den β := by rw [ei]; show Value.int k i'.v = .int k (m : Nat); rw [h2]
          unfold Gives execOp
          simp only [ho, ex, ei', Sem.run_bind, hr, Result.andThen_ok, Sem.run_pure]
          have nt : v.isTop = false := by
            unfold indexV at hv
            split at hv
            · split at hv
              · split at hv <;> first | (simp at hv; obtain ⟨_, rfl⟩ := hv; rfl) | cases hv
              · cases hv
            · cases hv
          exact hk β v _ w h5 (indexV_wf hv wx) nt ⟨Ag.refl _ _, Nat.le_refl _, ⟨h1, hw.wf, hw.hold⟩, Strm.refl w⟩
        · exact h3.elim
      · exact hl.elim
    · rename_i c ho
      split at hl
      · rename_i f hcal
        split at hl
        · rename_i f' first cap hfn
          rw [Bool.cond_eq_ite] at hl
          split at hl
          · rename_i hb
            split at hl
            · rename_i l hargs
              rw [frcVs_eq] at hl
              obtain ⟨ef, wf⟩ := opnd_is hf hfn rfl
              obtain ⟨a1, a2, a3⟩ := argsV_den hf _ _ hargs
              have e : a.eval f = .func (.func f') (first.map (pden β)).toArray (cap.map (pden β)).toArray := ef
              have ea : c.args.map a.eval = (l.map (SV.den β)).toArray := by
                rw [← a1, ← Array.toList_inj, Array.toList_map]
              have pw : ∀ (q : List (Nat × Nat)), (∀ p ∈ q, p.1 < n) → ∀ x ∈ q.map ptrV, x.wf n := by
                intro q hq x hx
                obtain ⟨p, hp, rfl⟩ := List.mem_map.1 hx
                exact hq p hp
              have pt' : ∀ (q : List (Nat × Nat)), ∀ x ∈ q.map ptrV, x.isTop = false := by
                intro q x hx
                obtain ⟨p, hp, rfl⟩ := List.mem_map.1 hx
                rfl
              unfold Gives execOp
              simp only [ho, resolve, hcal, e, Deferred.ofValue, Sem.run_bind, Sem.run_pure, Result.andThen_ok, invoke, ea, run_callFunc hn hb]
              have hc := hcall f' _ _ L β hl (fun x hx => by
                rcases List.mem_append.1 hx with hx | hx
                · exact pw first wf.1 x hx
                · rcases List.mem_append.1 hx with hx | hx
                  · exact a2 x hx
                  · exact pw cap wf.2 x hx) (fun x hx => by
                rcases List.mem_append.1 hx with hx | hx
                · exact pt' first x hx
                · rcases List.mem_append.1 hx with hx | hx
                  · exact a3 x hx
                  · exact pt' cap x hx) w R hw (fun e w' => ∃ v, e = .returned v ∧ N v w')
                (fun β' v s' w' h1 h2 h3 h4 => ⟨_, rfl, hk β' v s' w' h1 h2 h3 h4⟩)
              have eargs : (first.map (pden β)).toArray ++ (l.map (SV.den β)).toArray ++ (cap.map (pden β)).toArray = ((first.map ptrV ++ (l ++ cap.map ptrV)).map (SV.den β)).toArray := by
                simp only [List.map_append, ptrV_den]
                simp
              rw [eargs]
              exact hc
            · exact hl.elim
          · exact hl.elim
        · exact hl.elim
      · rename_i hcal
        split at hl
        · rename_i x y t t' hargs htys
          rw [Bool.cond_eq_ite] at hl
          split at hl
          · rename_i htt
            have htt := Nat.eq_of_beq_eq_true htt
            subst htt
            have ha : c.args = #[x, y] := by rw [← Array.toList_inj]; simpa using hargs
            have ht : c.argTypes = #[t, t] := by rw [← Array.toList_inj]; simpa using htys
            split at hl
            · rename_i k l e sz H' happ
              rw [frcN_eq, frcCs_eq, frcH_eq] at hl
              have hx : (opnd fr x).isTop = false ∧ (opnd fr y).isTop = false := by
                unfold appC at happ
                split at happ <;> try cases happ
                split at happ <;> try cases happ
                split at happ <;> try cases happ
                rw [Bool.cond_eq_ite] at happ
                split at happ <;> try cases happ
                split at happ <;> try cases happ
                rename_i q1 q2
                constructor
                · unfold oldRow at q1
                  split at q1 <;> first | (rename_i h1 _ _; rw [h1]; rfl) | (rename_i h1 _; rw [h1]; rfl) | (rename_i h1; rw [h1]; rfl) | cases q1
                · unfold newCs at q2
                  split at q2 <;> first | (rename_i h1 _ _; rw [h1]; rfl) | (rename_i h1 _; rw [h1]; rfl) | (rename_i h1; rw [h1]; rfl) | cases q2
              obtain ⟨g, cap, w', r1, r2, r3, r4⟩ := run_appC (P := P) (ty := o.type) happ hw.wf hw.hold
              unfold Gives execOp
              simp only [ho, resolve, hcal, ha, ht, Sem.run_bind, Sem.run_pure, Result.andThen_ok, invoke, builtin, List.map_toArray, List.map_cons, List.map_nil, opnd_den hf x hx.1, opnd_den hf y hx.2, r1]
              refine hk _ _ ⟨π, (n, .row l e sz (n + 1)) :: H', n + 2⟩ w' (hl g cap) ?_ rfl ⟨?_, by show n ≤ n + 2; omega, ⟨hw.pi, r4, r2⟩, r3⟩
              · exact ⟨by show n < n + 2; omega, by show n + 1 < n + 2; omega⟩
              · intro j hj
                have hj : j < n := hj
                show (bif Nat.beq j (n + 1) then cap else bif Nat.beq j n then g else β j) = β j
                rw [show Nat.beq j (n + 1) = false from nbeq_ne (by omega), show Nat.beq j n = false from nbeq_ne (by omega)]; rfl
            · exact hl.elim
          · exact hl.elim
        · exact hl.elim
      · exact hl.elim
    · exact hl.elim
theorem evOp_ok {P : Program} [Fast P] [Ab P] [AbOk P] (hn : NoGos P) {call : Caller} (hcall : CallerOk P call) {o : Oper} {fr : Frm} {s : St} {L : Bl → SV × St → Prop} {β : Bl}
    (hl : (evOp P call o fr s).Leads L β) {a : Act} (hf : FrIs s.n β fr a.tmps) {w : World} {R : HProp} (hw : At β s w R) {next : Act → World → Prop} {Q : Exit → Act → World → Prop}
    (hk : ∀ β' v s' w', L β' (v, s') → v.wf s'.n → v.isTop = false → Out β s w R β' s' w' → next (a.put o.dst (v.den β')) w') : o.wp P a w next Q :=
  (evOp_gives hn hcall hl hf hw (N := fun u w' => next (a.put o.dst u) w') hk).wp fun _ _ h => h
end
end Go.Proofs.Ytmmpnjcmaodkcaa.Ef
/- What is proved: in a region that draws its order, an operation that gives a value and leaves what is known as it is may be taken first, also a call. Conditions: stated with each rule. -/
namespace Go.Proofs.Ytmmpnjcmaodkcaa.Ef
open Go Go.Proofs.Ytmmpnjcmaodkcaa.Sep
set_option linter.unusedVariables false
set_option linter.unusedSimpArgs false
set_option linter.unusedSectionVars false
section
variable {P : Program} {ops : Array Oper} {Q : Exit → Act → World → Prop} {md : Region.Mode} {S : World → Prop}
/-- In all worlds of A the operation gives v, and the world stays one of A; or it is not wanted. -/
def CalmAt (P : Program) (ops : Array Oper) (o : Oper) (v : Value) (a : Act) (A : World → Prop) : Prop :=
  (Region.wanted o (yielded ops a.tmps) = true ∧ ∀ w, A w → Gives P o a.eval w fun u w' => u = v ∧ A w') ∨ (Region.wanted o (yielded ops a.tmps) = false ∧ v = undef)
theorem CalmAt.wpOp {i : Nat} {o : Oper} {v : Value} {a : Act} {A : World → Prop} (hi : ops[i]? = some o) (h : CalmAt P ops o v a A) {K : Act → World → Prop} {w : World} (hw : A w) (hk : ∀ w', A w' → K (a.put o.dst v) w') : wpOp P ops Q i K a w := by
  unfold Go.wpOp
  simp only [hi]
  rcases h with ⟨h1, h2⟩ | ⟨h1, rfl⟩
  · simp only [h1, if_true]
    left
    refine (h2 w hw).wp fun u w' hu => ?_
    obtain ⟨rfl, hu⟩ := hu
    exact hk w' hu
  · simp only [h1, Bool.false_eq_true, if_false]
    exact hk w hw
theorem CalmAt.same {o : Oper} {v : Value} {a a' : Act} {A : World → Prop} (h : CalmAt P ops o v a A) (he : execOp a'.eval o = execOp a.eval o) (hw : Region.wanted o (yielded ops a'.tmps) = Region.wanted o (yielded ops a.tmps)) : CalmAt P ops o v a' A := by
  unfold CalmAt Gives at *
  rw [he, hw]
  exact h
theorem CalmAt.put {o : Oper} (hs : ∀ cs b, o.op ≠ .select cs b) {v : Value} {a : Act} {A : World → Prop} (h : CalmAt P ops o v a A) {dst : Option Tmp} {u : Value} (hd : ∀ d, dst = some d → d ∉ o.looksAt ops) : CalmAt P ops o v (a.put dst u) A :=
  h.same (execOp_put o hs a dst u hd) (wanted_put o a dst u hd)
theorem CalmAt.unput {o : Oper} (hs : ∀ cs b, o.op ≠ .select cs b) {v : Value} {a : Act} {A : World → Prop} {dst : Option Tmp} {u : Value} (h : CalmAt P ops o v (a.put dst u) A) (hd : ∀ d, dst = some d → d ∉ o.looksAt ops) : CalmAt P ops o v a A :=
  h.same (execOp_put o hs a dst u hd).symm (wanted_put o a dst u hd).symm
/-- Whatever order is picked; what is promised holds behind each operation. -/
def AnyA (P : Program) (md : Region.Mode) (ops : Array Oper) (Q : Exit → Act → World → Prop) (S : World → Prop) (D : List (Oper × Value)) : Nat → Array Bool → Act → (World → Prop) → Prop
  | 0, l, a, A => Region.ready md ops l = [] ∧ ∀ w, A w → Q .normal a w
  | F + 1, l, a, A => (Region.ready md ops l = [] → ∀ w, A w → Q .normal a w) ∧ ∀ j ∈ Region.ready md ops l, ∀ w, A w →
      wpOp P ops Q j (fun a' w' => ∃ A' : World → Prop, A' w' ∧ (∀ w, A' w → S w) ∧ (∀ d ∈ D, CalmAt P ops d.1 d.2 a' A') ∧ AnyA P md ops Q S D F (l.setIfInBounds j true) a' A') a w
theorem anyA_any : ∀ (F : Nat) {D : List (Oper × Value)} {l : Array Bool} {a : Act} {A : World → Prop} {w : World}, AnyA P md ops Q S D F l a A → A w → wpAny P md ops Q F l a w
  | 0, D, l, a, A, w, h, hw => ⟨h.1, h.2 w hw⟩
  | F + 1, D, l, a, A, w, h, hw => ⟨fun hr => h.1 hr w hw, fun j hj => wpOp_mono (fun a' w' ⟨A', h1, _, _, h2⟩ => anyA_any F h2 h1) (h.2 j hj w hw)⟩
theorem AnyA.less : ∀ (F : Nat) {D : List (Oper × Value)} {d : Oper × Value} {l : Array Bool} {a : Act} {A : World → Prop}, AnyA P md ops Q S (d :: D) F l a A → AnyA P md ops Q S D F l a A
  | 0, D, d, l, a, A, h => h
  | F + 1, D, d, l, a, A, h => ⟨h.1, fun j hj w hw => wpOp_mono (fun a' w' ⟨A', h1, h0, h2, h3⟩ => ⟨A', h1, h0, fun e he => h2 e (List.mem_cons_of_mem _ he), AnyA.less F h3⟩) (h.2 j hj w hw)⟩
/-- What holds of more worlds holds of less. -/
theorem AnyA.sub : ∀ (F : Nat) {D : List (Oper × Value)} {l : Array Bool} {a : Act} {A B : World → Prop}, AnyA P md ops Q S D F l a A → (∀ w, B w → A w) → AnyA P md ops Q S D F l a B
  | 0, D, l, a, A, B, h, hs => ⟨h.1, fun w hw => h.2 w (hs w hw)⟩
  | F + 1, D, l, a, A, B, h, hs => ⟨fun hr w hw => h.1 hr w (hs w hw), fun j hj w hw => h.2 j hj w (hs w hw)⟩
theorem AnyA.done {D : List (Oper × Value)} {l : Array Bool} {a : Act} {A : World → Prop} (hr : Region.ready md ops l = []) (h : ∀ w, A w → Q .normal a w) : ∀ F, AnyA P md ops Q S D F l a A
  | 0 => ⟨hr, h⟩
  | F + 1 => ⟨fun _ => h, by rw [hr]; intro j hj; cases hj⟩
theorem AnyA.more : ∀ (F : Nat) {D : List (Oper × Value)} {l : Array Bool} {a : Act} {A : World → Prop}, AnyA P md ops Q S D F l a A → Region.ready md ops l = [] → AnyA P md ops Q S D (F + 1) l a A
  | 0, D, l, a, A, h, hr => ⟨fun _ => h.2, by rw [hr]; intro j hj; cases hj⟩
  | F + 1, D, l, a, A, h, hr => ⟨fun _ => h.1 hr, by rw [hr]; intro j hj; cases hj⟩
/-- **An operation that is calm now, and behind each other one, may be taken first.** -/
theorem anyA_take {i : Nat} {oi : Oper} {v : Value} (hi : ops[i]? = some oi) (hsel : ∀ (j : Nat) (o : Oper) cs b, ops[j]? = some o → o.op ≠ .select cs b)
    (hQ : ∀ c a w, Q (.panic c) (a.put oi.dst v) w → Q (.panic c) a w) (hself : ∀ d, oi.dst = some d → d ∉ oi.looksAt ops) {D : List (Oper × Value)} (hD : ∀ e ∈ D, ∀ d, oi.dst = some d → d ∉ e.1.looksAt ops) (hDs : ∀ e ∈ D, ∀ cs b, e.1.op ≠ .select cs b) :
    ∀ (F : Nat) (l : Array Bool) (a : Act) (A : World → Prop),
      (∀ j oj, ops[j]? = some oj → j ≠ i → l.getD j true = false → (∀ e ∈ oj.after, Region.binds md e = true → e.on ≠ i) → oi.apart ops oj = true) →
      i ∈ Region.ready md ops l → CalmAt P ops oi v a A → (∀ e ∈ D, CalmAt P ops e.1 e.2 a A) → (∀ w, A w → S w) →
      AnyA P md ops Q S ((oi, v) :: D) F (l.setIfInBounds i true) (a.put oi.dst v) A → AnyA P md ops Q S D (F + 1) l a A := by
  intro F
  have here : ∀ {F : Nat} {l : Array Bool} {a : Act} {A : World → Prop}, CalmAt P ops oi v a A → (∀ e ∈ D, CalmAt P ops e.1 e.2 a A) → (∀ w, A w → S w) → AnyA P md ops Q S ((oi, v) :: D) F (l.setIfInBounds i true) (a.put oi.dst v) A → ∀ w, A w →
      wpOp P ops Q i (fun a' w' => ∃ A' : World → Prop, A' w' ∧ (∀ w, A' w → S w) ∧ (∀ d ∈ D, CalmAt P ops d.1 d.2 a' A') ∧ AnyA P md ops Q S D F (l.setIfInBounds i true) a' A') a w := by
    intro F l a A hc hDc hS H w hw
    refine hc.wpOp hi hw fun w' hw' => ⟨A, hw', hS, fun e he => (hDc e he).put (hDs e he) (hD e he), AnyA.less F H⟩
  induction F with
  | zero =>
    intro l a A hfree hr hc hDc hS H
    refine ⟨fun h => (by rw [h] at hr; cases hr), fun j hj w hw => ?_⟩
    by_cases hji : j = i
    · subst hji; exact here hc hDc hS H w hw
    · have := ready_mono hj hji
      rw [H.1] at this
      cases this
  | succ F ih =>
    intro l a A hfree hr hc hDc hS H
    refine ⟨fun h => (by rw [h] at hr; cases hr), fun j hj w hw => ?_⟩
    by_cases hji : j = i
    · subst hji; exact here hc hDc hS H w hw
    · have h1 := H.2 j (ready_mono hj hji) w hw
      obtain ⟨hjun, oj, hoj, hall⟩ := mem_ready.1 hj
      have hnot : ∀ e ∈ oj.after, Region.binds md e = true → e.on ≠ i := fun e he hb heq => by
        have h1 := hall e he hb
        have h0 := (mem_ready.1 hr).1
        rw [heq] at h1
        rcases Nat.lt_or_ge i l.size with h' | h'
        · simp [h'] at h0 h1; rw [h0] at h1; cases h1
        · simp [Array.getElem?_eq_none h'] at h1
      have hy : YieldsIf P ops (fun _ => False) oi v a := by
        rcases hc with ⟨c1, _⟩ | ⟨c1, c2⟩
        · exact .inl ⟨c1, fun w h => h.elim⟩
        · exact .inr ⟨c1, c2⟩
      have h2 := wpOp_putIf hoj (hfree j oj hoj hji hjun hnot) (fun cs b => hsel i oi cs b hi) (fun cs b => hsel j oj cs b hoj) hQ hy h1
      have hfree' : ∀ k ok, ops[k]? = some ok → k ≠ i → (l.setIfInBounds j true).getD k true = false →
          (∀ e ∈ ok.after, Region.binds md e = true → e.on ≠ i) → oi.apart ops ok = true := fun k ok hk hki hun hno => by
        refine hfree k ok hk hki ?_ hno
        by_cases hjk : j = k
        · subst hjk; exact hjun
        · rw [getD_set_ne true hjk] at hun; exact hun
      refine wpOp_mono (fun a' w' h3 => ?_) h2
      obtain ⟨_, A', g1, g2, g3, g4⟩ := h3
      refine ⟨A', g1, g2, fun e he => (g3 e (List.mem_cons_of_mem _ he)).unput (hDs e he) (hD e he), ?_⟩
      refine ih (l.setIfInBounds j true) a' A' hfree' (ready_mono hr (Ne.symm hji)) ((g3 _ (List.mem_cons_self ..)).unput (fun cs b => hsel i oi cs b hi) hself) (fun e he => (g3 e (List.mem_cons_of_mem _ he)).unput (hDs e he) (hD e he)) g2 ?_
      rw [Array.setIfInBounds_comm _ _ hji]
      exact g4
/-- The same of an operation that only reads what S tells. -/
theorem anyA_quiet {i : Nat} {oi : Oper} {v : Value} (hi : ops[i]? = some oi) (hsel : ∀ (j : Nat) (o : Oper) cs b, ops[j]? = some o → o.op ≠ .select cs b)
    (hQ : ∀ c a w, Q (.panic c) (a.put oi.dst v) w → Q (.panic c) a w) {D : List (Oper × Value)} (hD : ∀ e ∈ D, ∀ d, oi.dst = some d → d ∉ e.1.looksAt ops) (hDs : ∀ e ∈ D, ∀ cs b, e.1.op ≠ .select cs b) :
    ∀ (F : Nat) (l : Array Bool) (a : Act) (A : World → Prop),
      (∀ j oj, ops[j]? = some oj → j ≠ i → l.getD j true = false → (∀ e ∈ oj.after, Region.binds md e = true → e.on ≠ i) → oi.apart ops oj = true) →
      i ∈ Region.ready md ops l → YieldsIf P ops S oi v a → (∀ e ∈ D, CalmAt P ops e.1 e.2 a A) → (∀ w, A w → S w) →
      AnyA P md ops Q S D F (l.setIfInBounds i true) (a.put oi.dst v) A → AnyA P md ops Q S D (F + 1) l a A := by
  intro F
  have here : ∀ {F : Nat} {l : Array Bool} {a : Act} {A : World → Prop}, YieldsIf P ops S oi v a → (∀ e ∈ D, CalmAt P ops e.1 e.2 a A) → (∀ w, A w → S w) → AnyA P md ops Q S D F (l.setIfInBounds i true) (a.put oi.dst v) A → ∀ w, A w →
      wpOp P ops Q i (fun a' w' => ∃ A' : World → Prop, A' w' ∧ (∀ w, A' w → S w) ∧ (∀ d ∈ D, CalmAt P ops d.1 d.2 a' A') ∧ AnyA P md ops Q S D F (l.setIfInBounds i true) a' A') a w := by
    intro F l a A hy hDc hS H w hw
    exact hy.wpOp hi (hS w hw) ⟨A, hw, hS, fun e he => (hDc e he).put (hDs e he) (hD e he), H⟩
  induction F with
  | zero =>
    intro l a A hfree hr hc hDc hS H
    refine ⟨fun h => (by rw [h] at hr; cases hr), fun j hj w hw => ?_⟩
    by_cases hji : j = i
    · subst hji; exact here hc hDc hS H w hw
    · have := ready_mono hj hji
      rw [H.1] at this
      cases this
  | succ F ih =>
    intro l a A hfree hr hc hDc hS H
    refine ⟨fun h => (by rw [h] at hr; cases hr), fun j hj w hw => ?_⟩
    by_cases hji : j = i
    · subst hji; exact here hc hDc hS H w hw
    · have h1 := H.2 j (ready_mono hj hji) w hw
      obtain ⟨hjun, oj, hoj, hall⟩ := mem_ready.1 hj
      have hnot : ∀ e ∈ oj.after, Region.binds md e = true → e.on ≠ i := fun e he hb heq => by
        have h1 := hall e he hb
        have h0 := (mem_ready.1 hr).1
        rw [heq] at h1
        rcases Nat.lt_or_ge i l.size with h' | h'
        · simp [h'] at h0 h1; rw [h0] at h1; cases h1
        · simp [Array.getElem?_eq_none h'] at h1
      have h2 := wpOp_putIf hoj (hfree j oj hoj hji hjun hnot) (fun cs b => hsel i oi cs b hi) (fun cs b => hsel j oj cs b hoj) hQ hc h1
      have hfree' : ∀ k ok, ops[k]? = some ok → k ≠ i → (l.setIfInBounds j true).getD k true = false →
          (∀ e ∈ ok.after, Region.binds md e = true → e.on ≠ i) → oi.apart ops ok = true := fun k ok hk hki hun hno => by
        refine hfree k ok hk hki ?_ hno
        by_cases hjk : j = k
        · subst hjk; exact hjun
        · rw [getD_set_ne true hjk] at hun; exact hun
      refine wpOp_mono (fun a' w' h3 => ?_) h2
      obtain ⟨hy', A', g1, g2, g3, g4⟩ := h3
      refine ⟨A', g1, g2, fun e he => (g3 e he).unput (hDs e he) (hD e he), ?_⟩
      refine ih (l.setIfInBounds j true) a' A' hfree' (ready_mono hr (Ne.symm hji)) hy' (fun e he => (g3 e he).unput (hDs e he) (hD e he)) g2 ?_
      rw [Array.setIfInBounds_comm _ _ hji]
      exact g4
/-- Whichever comes up. -/
theorem anyA_all {rs : List Nat} {F : Nat} {D : List (Oper × Value)} {l : Array Bool} {a : Act} {A : World → Prop} (hr : Region.ready md ops l = rs) (hne : rs ≠ [])
    (h : ∀ i ∈ rs, ∀ w, A w → wpOp P ops Q i (fun a' w' => ∃ A' : World → Prop, A' w' ∧ (∀ w, A' w → S w) ∧ (∀ d ∈ D, CalmAt P ops d.1 d.2 a' A') ∧ AnyA P md ops Q S D F (l.setIfInBounds i true) a' A') a w) : AnyA P md ops Q S D (F + 1) l a A :=
  ⟨fun h0 => absurd (hr ▸ h0) hne, hr ▸ h⟩
end
end Go.Proofs.Ytmmpnjcmaodkcaa.Ef
/- What is proved: which operations of a region may come up, and what they touch, by numbers whose bits are the operations. Conditions: stated with each lemma. -/
namespace Go.Proofs.Ytmmpnjcmaodkcaa.Ef
open Go Go.Proofs.Ytmmpnjcmaodkcaa.Sep
set_option linter.unusedVariables false
set_option linter.unusedSimpArgs false
set_option linter.unusedSectionVars false
def bit (i : Nat) : Nat := Nat.shiftLeft 1 i
def tb (m i : Nat) : Bool := Nat.beq (Nat.land (Nat.shiftRight m i) 1) 1
def sub (m d : Nat) : Bool := Nat.beq (Nat.land m d) d
theorem tb_eq (m i : Nat) : tb m i = m.testBit i := by
  unfold tb
  have e : m.testBit i = (1 &&& (m >>> i) != 0) := rfl
  rw [e, Nat.and_comm]
  show Nat.beq ((m >>> i) &&& 1) 1 = ((m >>> i) &&& 1 != 0)
  rw [Nat.and_one_is_mod]
  rcases Nat.mod_two_eq_zero_or_one (m >>> i) with h | h <;> rw [h] <;> rfl
theorem bit_eq (i : Nat) : bit i = 2 ^ i := by
  show 1 <<< i = 2 ^ i
  rw [Nat.shiftLeft_eq, Nat.one_mul]
theorem bit_test (i j : Nat) : (bit i).testBit j = decide (i = j) := by
  rw [bit_eq]
  by_cases h : i = j
  · subst h; rw [Nat.testBit_two_pow_self]; simp
  · rw [Nat.testBit_two_pow_of_ne h]; simp [h]
theorem lor_test (a b j : Nat) : (Nat.lor a b).testBit j = (a.testBit j || b.testBit j) := Nat.testBit_or a b j
theorem sub_iff (m d : Nat) : sub m d = true ↔ ∀ k, d.testBit k = true → m.testBit k = true := by
  unfold sub
  constructor
  · intro h k hk
    have e : m &&& d = d := Nat.eq_of_beq_eq_true h
    have : (m &&& d).testBit k = true := by rw [e]; exact hk
    rw [Nat.testBit_and] at this
    simp at this
    exact this.1
  · intro h
    have e : m &&& d = d := by
      apply Nat.eq_of_testBit_eq
      intro k
      rw [Nat.testBit_and]
      cases hk : d.testBit k with
      | true => rw [h k hk]; rfl
      | false => simp
    show Nat.beq (m &&& d) d = true
    rw [e]
    exact Nat.beq_refl d
/-- An operation, and what it looks at. -/
structure Pre where
  i : Nat
  o : Oper
  lk : List Nat
/-- A row: the operation, its guard's temporary; the bits of those that it waits for, that touch it, that write what it looks at. -/
structure Rw where
  i : Nat
  o : Oper
  gs : Option (Option Nat × Bool)
  dep : Nat
  conf : Nat
  look : Nat
def memL : List Nat → Nat → Bool
  | [], _ => false
  | j :: r, i => bif Nat.beq j i then true else memL r i
theorem memL_iff : ∀ {l : List Nat} {i : Nat}, memL l i = true ↔ i ∈ l
  | [], i => by simp [memL]
  | j :: r, i => by
    unfold memL
    rw [Bool.cond_eq_ite]
    split
    · rename_i h; simp [Nat.eq_of_beq_eq_true h]
    · rename_i h
      rw [memL_iff, List.mem_cons]
      constructor
      · exact .inr
      · rintro (rfl | h')
        · exact absurd (Nat.beq_refl i) h
        · exact h'
def dstIn (d : Option Nat) (l : List Nat) : Bool :=
  match d with
  | some d => memL l d
  | none => false
def sameD (x y : Option Nat) : Bool :=
  match x, y with
  | some a, some b => Nat.beq a b
  | _, _ => false
def apartB (x y : Pre) : Bool := bif dstIn x.o.dst y.lk then false else bif sameD x.o.dst y.o.dst then false else !(dstIn y.o.dst x.lk)
def depM : List Edge → Nat
  | [] => 0
  | e :: r => bif Region.binds .any e then Nat.lor (bit e.on) (depM r) else depM r
def waits (i : Nat) : List Edge → Bool
  | [] => false
  | e :: r => bif Region.binds .any e && Nat.beq e.on i then true else waits i r
def confM (x : Pre) : List Pre → Nat
  | [] => 0
  | y :: r => bif Nat.beq y.i x.i then confM x r else bif apartB x y then confM x r else bif waits x.i y.o.after.toList then confM x r else Nat.lor (bit y.i) (confM x r)
def lookM (x : Pre) : List Pre → Nat
  | [] => 0
  | y :: r => bif dstIn y.o.dst x.lk then Nat.lor (bit y.i) (lookM x r) else lookM x r
def gsl (ops : List Oper) : Option (Nat × Bool) → Option (Option Nat × Bool)
  | none => none
  | some (j, want) =>
    match ops[j]? with
    | some o => some (o.dst, want)
    | none => some (none, want)
def pres (ops : Array Oper) : Nat → List Oper → List Pre
  | _, [] => []
  | i, o :: r => ⟨i, o, o.looksAt ops⟩ :: pres ops (i + 1) r
def rowsOf (ops : List Oper) (all : List Pre) : List Pre → List Rw
  | [] => []
  | x :: r => ⟨x.i, x.o, gsl ops x.o.guard, depM x.o.after.toList, confM x all, lookM x all⟩ :: rowsOf ops all r
def mkRows (ops : List Oper) : List Rw := rowsOf ops (pres ops.toArray 0 ops) (pres ops.toArray 0 ops)
theorem depM_iff : ∀ {l : List Edge} {k : Nat}, (depM l).testBit k = true ↔ ∃ e ∈ l, Region.binds .any e = true ∧ e.on = k
  | [], k => by simp [depM]
  | e :: r, k => by
    unfold depM
    rw [Bool.cond_eq_ite]
    split
    · rename_i h
      rw [lor_test, Bool.or_eq_true, bit_test, decide_eq_true_eq, depM_iff]
      constructor
      · rintro (h1 | ⟨e', h1, h2⟩)
        · exact ⟨e, List.mem_cons_self .., h, h1⟩
        · exact ⟨e', List.mem_cons_of_mem _ h1, h2⟩
      · rintro ⟨e', h1, h2, h3⟩
        rcases List.mem_cons.1 h1 with rfl | h1
        · exact .inl h3
        · exact .inr ⟨e', h1, h2, h3⟩
    · rename_i h
      rw [depM_iff]
      constructor
      · rintro ⟨e', h1, h2⟩; exact ⟨e', List.mem_cons_of_mem _ h1, h2⟩
      · rintro ⟨e', h1, h2, h3⟩
        rcases List.mem_cons.1 h1 with rfl | h1
        · exact absurd h2 h
        · exact ⟨e', h1, h2, h3⟩
theorem waits_ok {i : Nat} : ∀ {l : List Edge}, waits i l = true → ∃ e ∈ l, Region.binds .any e = true ∧ e.on = i
  | [], h => by cases h
  | e :: r, h => by
    unfold waits at h
    rw [Bool.cond_eq_ite] at h
    split at h
    · rename_i hc
      rw [Bool.and_eq_true] at hc
      exact ⟨e, List.mem_cons_self .., hc.1, Nat.eq_of_beq_eq_true hc.2⟩
    · obtain ⟨e', h1, h2⟩ := waits_ok h; exact ⟨e', List.mem_cons_of_mem _ h1, h2⟩
theorem confM_no {x : Pre} : ∀ {l : List Pre} {y : Pre}, y ∈ l → (confM x l).testBit y.i = false → y.i ≠ x.i → apartB x y = true ∨ ∃ e ∈ y.o.after.toList, Region.binds .any e = true ∧ e.on = x.i
  | [], y, h, _, _ => by cases h
  | z :: r, y, h, hb, hne => by
    unfold confM at hb
    rw [Bool.cond_eq_ite, Bool.cond_eq_ite, Bool.cond_eq_ite] at hb
    rcases List.mem_cons.1 h with rfl | h
    · split at hb
      · rename_i he; exact absurd (Nat.eq_of_beq_eq_true he) hne
      · split at hb
        · rename_i ha; exact .inl ha
        · split at hb
          · rename_i hw; exact .inr (waits_ok hw)
          · rw [lor_test, bit_test] at hb; simp at hb
    · split at hb
      · exact confM_no h hb hne
      · split at hb
        · exact confM_no h hb hne
        · split at hb
          · exact confM_no h hb hne
          · rw [lor_test, Bool.or_eq_false_iff] at hb; exact confM_no h hb.2 hne
theorem lookM_no {x : Pre} : ∀ {l : List Pre} {y : Pre}, y ∈ l → (lookM x l).testBit y.i = false → dstIn y.o.dst x.lk = false
  | [], y, h, _ => by cases h
  | z :: r, y, h, hb => by
    unfold lookM at hb
    rw [Bool.cond_eq_ite] at hb
    rcases List.mem_cons.1 h with rfl | h
    · split at hb
      · rw [lor_test, bit_test] at hb; simp at hb
      · rename_i hn; simpa using hn
    · split at hb
      · rw [lor_test, Bool.or_eq_false_iff] at hb; exact lookM_no h hb.2
      · exact lookM_no h hb
/-- What a row tells is so. -/
structure RwOk (ops : List Oper) (r : Rw) : Prop where
  o : ops.toArray[r.i]? = some r.o
  gs : r.gs = gsl ops r.o.guard
  dep : ∀ k, r.dep.testBit k = true ↔ ∃ e ∈ r.o.after, Region.binds .any e = true ∧ e.on = k
  conf : ∀ (j : Nat) (oj : Oper), ops.toArray[j]? = some oj → j ≠ r.i → r.conf.testBit j = false → (∀ e ∈ oj.after, Region.binds .any e = true → e.on ≠ r.i) → r.o.apart ops.toArray oj = true
  look : ∀ (j : Nat) (oj : Oper), ops.toArray[j]? = some oj → r.look.testBit j = false → ∀ d, oj.dst = some d → d ∉ r.o.looksAt ops.toArray
theorem pres_get {A : Array Oper} : ∀ {l : List Oper} {i j : Nat} {o : Oper}, l[j]? = some o → (⟨i + j, o, o.looksAt A⟩ : Pre) ∈ pres A i l
  | [], i, j, o, h => by simp at h
  | x :: r, i, 0, o, h => by
    simp at h
    subst h
    exact List.mem_cons_self ..
  | x :: r, i, j + 1, o, h => by
    have := pres_get (A := A) (l := r) (i := i + 1) (j := j) (o := o) (by simpa using h)
    rw [show i + (j + 1) = i + 1 + j by omega]
    exact List.mem_cons_of_mem _ this
theorem pres_mem {A : Array Oper} : ∀ {l : List Oper} {i : Nat} {p : Pre}, p ∈ pres A i l → ∃ j, l[j]? = some p.o ∧ p.i = i + j ∧ p.lk = p.o.looksAt A
  | [], i, p, h => by cases h
  | x :: r, i, p, h => by
    rcases List.mem_cons.1 h with rfl | h
    · exact ⟨0, rfl, rfl, rfl⟩
    · obtain ⟨j, h1, h2, h3⟩ := pres_mem h
      exact ⟨j + 1, by simpa using h1, by omega, h3⟩
theorem rowsOf_mem {ops : List Oper} {all : List Pre} : ∀ {l : List Pre} {r : Rw}, r ∈ rowsOf ops all l → ∃ x ∈ l, r = ⟨x.i, x.o, gsl ops x.o.guard, depM x.o.after.toList, confM x all, lookM x all⟩
  | [], r, h => by cases h
  | x :: t, r, h => by
    rcases List.mem_cons.1 h with rfl | h
    · exact ⟨x, List.mem_cons_self .., rfl⟩
    · obtain ⟨y, h1, h2⟩ := rowsOf_mem h; exact ⟨y, List.mem_cons_of_mem _ h1, h2⟩
theorem rowsOf_get {ops : List Oper} {all : List Pre} : ∀ {l : List Pre} {x : Pre}, x ∈ l → (⟨x.i, x.o, gsl ops x.o.guard, depM x.o.after.toList, confM x all, lookM x all⟩ : Rw) ∈ rowsOf ops all l
  | [], x, h => by cases h
  | y :: t, x, h => by
    rcases List.mem_cons.1 h with rfl | h
    · exact List.mem_cons_self ..
    · exact List.mem_cons_of_mem _ (rowsOf_get h)
theorem mkRows_ok {ops : List Oper} {r : Rw} (h : r ∈ mkRows ops) : RwOk ops r := by
  obtain ⟨x, hx, rfl⟩ := rowsOf_mem h
  obtain ⟨j, h1, h2, h3⟩ := pres_mem hx
  have hj : x.i = j := by omega
  have hall : ∀ (k : Nat) (ok : Oper), ops.toArray[k]? = some ok → (⟨k, ok, ok.looksAt ops.toArray⟩ : Pre) ∈ pres ops.toArray 0 ops := by
    intro k ok hk
    have := pres_get (A := ops.toArray) (l := ops) (i := 0) (j := k) (o := ok) (by simpa using hk)
    rwa [Nat.zero_add] at this
  refine ⟨?_, rfl, fun k => ?_, fun k ok hk hne hc hw => ?_, fun k ok hk hl d hd => ?_⟩
  · show ops.toArray[x.i]? = some x.o
    rw [hj]; simpa using h1
  · show (depM x.o.after.toList).testBit k = true ↔ _
    rw [depM_iff]
    constructor
    · rintro ⟨e, he, h⟩; exact ⟨e, by simpa using he, h⟩
    · rintro ⟨e, he, h⟩; exact ⟨e, by simpa using he, h⟩
  · rcases confM_no (hall k ok hk) hc hne with h | ⟨e, he, h4, h5⟩
    · have h : (bif dstIn x.o.dst (ok.looksAt ops.toArray) then false else bif sameD x.o.dst ok.dst then false else !(dstIn ok.dst x.lk)) = true := h
      rw [Bool.cond_eq_ite, Bool.cond_eq_ite] at h
      split at h
      · cases h
      · rename_i a1
        split at h
        · cases h
        · rename_i a2
          rw [h3] at h
          unfold Oper.apart
          cases hd : x.o.dst with
          | none =>
            cases hd2 : ok.dst with
            | none => rfl
            | some d2 =>
              rw [hd2] at h
              have : memL (x.o.looksAt ops.toArray) d2 = false := by simpa [dstIn] using h
              have hn : d2 ∉ x.o.looksAt ops.toArray := fun hm => by rw [memL_iff.2 hm] at this; cases this
              simpa using hn
          | some d =>
            rw [hd] at a1 a2
            have b1 : d ∉ ok.looksAt ops.toArray := fun hm => a1 (memL_iff.2 hm)
            cases hd2 : ok.dst with
            | none => simpa using b1
            | some d2 =>
              rw [hd2] at h a2
              have b2 : d2 ≠ d := fun e => a2 (by subst e; exact Nat.beq_refl _)
              have : memL (x.o.looksAt ops.toArray) d2 = false := by simpa [dstIn] using h
              have hn : d2 ∉ x.o.looksAt ops.toArray := fun hm => by rw [memL_iff.2 hm] at this; cases this
              simp [b1, b2, hn]
    · exact absurd h5 (hw e (by simpa using he) h4)
  · have := lookM_no (hall k ok hk) hl
    have h6 : dstIn ok.dst x.lk = false := this
    rw [hd, h3] at h6
    intro hm
    have h7 : memL (x.o.looksAt ops.toArray) d = true := memL_iff.2 hm
    have h8 : memL (x.o.looksAt ops.toArray) d = false := h6
    rw [h7] at h8
    cases h8
theorem mkRows_all {ops : List Oper} {i : Nat} {o : Oper} (h : ops.toArray[i]? = some o) : ∃ r ∈ mkRows ops, r.i = i := by
  have := pres_get (A := ops.toArray) (l := ops) (i := 0) (j := i) (o := o) (by simpa using h)
  exact ⟨_, rowsOf_get this, by simp⟩
/-! ### which may come up -/
def readyR (m : Nat) : List Rw → List Rw
  | [] => []
  | r :: t => bif tb m r.i then readyR m t else bif sub m r.dep then r :: readyR m t else readyR m t
theorem readyR_iff {m : Nat} : ∀ {l : List Rw} {r : Rw}, r ∈ readyR m l ↔ r ∈ l ∧ m.testBit r.i = false ∧ sub m r.dep = true
  | [], r => by simp [readyR]
  | x :: t, r => by
    unfold readyR
    rw [Bool.cond_eq_ite, Bool.cond_eq_ite, tb_eq]
    split
    · rename_i h
      rw [readyR_iff, List.mem_cons]
      constructor
      · rintro ⟨h1, h2⟩; exact ⟨.inr h1, h2⟩
      · rintro ⟨rfl | h1, h2, h3⟩
        · rw [h] at h2; cases h2
        · exact ⟨h1, h2, h3⟩
    · rename_i h
      have h : m.testBit x.i = false := by simpa using h
      split
      · rename_i hs
        rw [List.mem_cons, readyR_iff, List.mem_cons]
        constructor
        · rintro (rfl | ⟨h1, h2⟩)
          · exact ⟨.inl rfl, h, hs⟩
          · exact ⟨.inr h1, h2⟩
        · rintro ⟨rfl | h1, h2⟩
          · exact .inl rfl
          · exact .inr ⟨h1, h2⟩
      · rename_i hs
        rw [readyR_iff, List.mem_cons]
        constructor
        · rintro ⟨h1, h2⟩; exact ⟨.inr h1, h2⟩
        · rintro ⟨rfl | h1, h2, h3⟩
          · exact absurd h3 hs
          · exact ⟨h1, h2, h3⟩
/-- The bits of those that have come up. -/
structure LM (n m : Nat) (l : Array Bool) : Prop where
  size : l.size = n
  get : ∀ i, i < n → l[i]? = some (m.testBit i)
  out : ∀ i, n ≤ i → m.testBit i = false
theorem LM.start (n : Nat) : LM n 0 (Array.replicate n false) := ⟨by simp, fun i hi => by simp [hi], fun i hi => by simp⟩
theorem LM.set {n m : Nat} {l : Array Bool} (h : LM n m l) {i : Nat} (hi : i < n) : LM n (Nat.lor m (bit i)) (l.setIfInBounds i true) := by
  refine ⟨by simp [h.size], fun j hj => ?_, fun j hj => ?_⟩
  · rw [lor_test, bit_test]
    by_cases e : i = j
    · subst e; simp [h.size, hj]
    · rw [Array.getElem?_setIfInBounds_ne e, h.get j hj]; simp [e]
  · rw [lor_test, bit_test, h.out j hj]
    have : i ≠ j := by omega
    simp [this]
theorem LM.getT {n m : Nat} {l : Array Bool} (h : LM n m l) {i : Nat} (hi : i < n) : l.getD i true = m.testBit i := by
  rw [Array.getD_eq_getD_getElem?, h.get i hi]; rfl
theorem LM.getF {n m : Nat} {l : Array Bool} (h : LM n m l) (i : Nat) : l.getD i false = m.testBit i := by
  rw [Array.getD_eq_getD_getElem?]
  by_cases hi : i < n
  · rw [h.get i hi]; rfl
  · rw [h.out i (by omega), Array.getElem?_eq_none (by rw [h.size]; omega)]; rfl
theorem ready_of {ops : List Oper} {m : Nat} {l : Array Bool} (h : LM ops.length m l) {r : Rw} (hr : r ∈ readyR m (mkRows ops)) : r.i ∈ Region.ready .any ops.toArray l := by
  obtain ⟨h1, h2, h3⟩ := readyR_iff.1 hr
  have ok := mkRows_ok h1
  have hlt : r.i < ops.length := by
    have := (Array.getElem?_eq_some_iff.1 ok.o).1
    simpa using this
  refine mem_ready.2 ⟨by rw [h.getT hlt]; exact h2, r.o, ok.o, fun e he hb => ?_⟩
  rw [h.getF]
  exact (sub_iff _ _).1 h3 _ ((ok.dep _).2 ⟨e, he, hb, rfl⟩)
theorem ready_has {ops : List Oper} {m : Nat} {l : Array Bool} (h : LM ops.length m l) {i : Nat} (hi : i ∈ Region.ready .any ops.toArray l) : ∃ r ∈ readyR m (mkRows ops), r.i = i := by
  obtain ⟨h1, o, h2, h3⟩ := mem_ready.1 hi
  obtain ⟨r, hr, e⟩ := mkRows_all h2
  have ok := mkRows_ok hr
  have hlt : i < ops.length := by
    have := (Array.getElem?_eq_some_iff.1 h2).1
    simpa using this
  have eo : r.o = o := by
    have := ok.o
    rw [e, h2] at this
    exact (Option.some.inj this).symm
  refine ⟨r, readyR_iff.2 ⟨hr, by rw [e, ← h.getT hlt]; exact h1, (sub_iff _ _).2 fun k hk => ?_⟩, e⟩
  obtain ⟨e', he, hb, rfl⟩ := (ok.dep k).1 hk
  rw [← h.getF]
  exact h3 e' (by rw [← eo]; exact he) hb
theorem free_of {ops : List Oper} {m : Nat} {l : Array Bool} (h : LM ops.length m l) {r : Rw} (ok : RwOk ops r) (hc : sub m r.conf = true) :
    ∀ (j : Nat) (oj : Oper), ops.toArray[j]? = some oj → j ≠ r.i → l.getD j true = false → (∀ e ∈ oj.after, Region.binds .any e = true → e.on ≠ r.i) → r.o.apart ops.toArray oj = true := by
  intro j oj hj hne hl hw
  have hlt : j < ops.length := by
    have := (Array.getElem?_eq_some_iff.1 hj).1
    simpa using this
  refine ok.conf j oj hj hne ?_ hw
  cases hb : r.conf.testBit j with
  | false => rfl
  | true =>
    have := (sub_iff _ _).1 hc j hb
    rw [h.getT hlt, this] at hl
    cases hl
theorem stab_of {ops : List Oper} {m : Nat} {l : Array Bool} (h : LM ops.length m l) {r : Rw} (ok : RwOk ops r) (hc : sub m r.look = true) {j : Nat} {oj : Oper} (hj : ops.toArray[j]? = some oj) (hl : m.testBit j = false) : ∀ d, oj.dst = some d → d ∉ r.o.looksAt ops.toArray := by
  refine ok.look j oj hj ?_
  cases hb : r.look.testBit j with
  | false => rfl
  | true => rw [(sub_iff _ _).1 hc j hb] at hl; cases hl
/-- Rows laid open. -/
def frcGs {R : Type} (g : Option (Option Nat × Bool)) (k : Option (Option Nat × Bool) → R) : R :=
  match g with
  | none => k none
  | some (none, true) => k (some (none, true))
  | some (none, false) => k (some (none, false))
  | some (some d, true) => k (some (some d, true))
  | some (some d, false) => k (some (some d, false))
def frcRw {R : Type} : List Rw → (List Rw → R) → R
  | [], k => k []
  | ⟨i, o, g, a, b, c⟩ :: r, k => frcN i fun i => frcGs g fun g => frcN a fun a => frcN b fun b => frcN c fun c => frcRw r fun r => k (⟨i, o, g, a, b, c⟩ :: r)
theorem frcGs_eq {R : Type} (g : Option (Option Nat × Bool)) (k : Option (Option Nat × Bool) → R) : frcGs g k = k g := by
  unfold frcGs; split <;> rfl
theorem frcRw_eq {R : Type} : ∀ (l : List Rw) (k : List Rw → R), frcRw l k = k l
  | [], k => rfl
  | ⟨i, o, g, a, b, c⟩ :: r, k => by unfold frcRw; rw [frcN_eq, frcGs_eq, frcN_eq, frcN_eq, frcN_eq, frcRw_eq r]
end Go.Proofs.Ytmmpnjcmaodkcaa.Ef
/- What is proved: what the second evaluator finds of regions, in any order, holds. Conditions: the evaluator's own premises. -/
namespace Go.Proofs.Ytmmpnjcmaodkcaa.Ef
open Go Go.Proofs.Ytmmpnjcmaodkcaa.Sep
open Go.Proofs.Ytmmpnjcmaodkcaa.Ev (Fast tyAgg tySize run_underlying' run_isAgg' run_sizeOf' run_zeroValue')
set_option linter.unusedVariables false
set_option linter.unusedSimpArgs false
set_option linter.unusedSectionVars false
/-! ### names of a pattern are below its number -/
def bltAll (n : Nat) : List (Nat × Nat) → Bool
  | [] => true
  | (a, _) :: r => bif Nat.blt a n then bltAll n r else false
def SC.wfB (n : Nat) : SC → Bool
  | .ptr nm _ => Nat.blt nm n
  | .ptrR nm _ _ _ _ => Nat.blt nm n
  | .slice nm _ _ _ => Nat.blt nm n
  | .sliceQ nm _ _ _ => Nat.blt nm n
  | .sliceN nm _ cn => bif Nat.blt nm n then Nat.blt cn n else false
  | .func _ a c => bif bltAll n a then bltAll n c else false
  | _ => true
def lwfB (n : Nat) : List SC → Bool
  | [] => true
  | c :: r => bif c.wfB n then lwfB n r else false
def nsB (n : Nat) : List Nat → Bool
  | [] => true
  | c :: r => bif Nat.blt c n then nsB n r else false
def oB (n : Nat) (o : SO) : Bool :=
  match o with
  | .cells l _ => lwfB n l
  | .abs _ _ ns => nsB n ns
  | .row l _ _ cn => bif Nat.blt cn n then lwfB n l else false
  | .opt _ _ _ _ _ => true
def hwfB (n : Nat) : SH → Bool
  | [] => true
  | (m, o) :: r => bif Nat.blt m n then (bif oB n o then hwfB n r else false) else false
def vB (n : Nat) (v : SV) : Bool :=
  match v with
  | .a (.one c) => c.wfB n
  | .a (.agg l) => lwfB n l
  | _ => false
def vwfB (n : Nat) : List (Nat × SV) → Bool
  | [] => true
  | (_, v) :: r => bif vB n v then vwfB n r else false
theorem bltAll_ok {n : Nat} : ∀ {l : List (Nat × Nat)}, bltAll n l = true → ∀ p ∈ l, p.1 < n
  | [], _, p, hp => by cases hp
  | (a, b) :: r, h, p, hp => by
    unfold bltAll at h
    rw [Bool.cond_eq_ite] at h
    split at h
    · rename_i hc
      rcases List.mem_cons.1 hp with rfl | hp
      · exact Nat.le_of_ble_eq_true hc
      · exact bltAll_ok h p hp
    · cases h
theorem SC.wfB_ok {n : Nat} {c : SC} (h : c.wfB n = true) : c.wf n := by
  cases c <;> simp only [SC.wfB] at h <;> first
    | trivial
    | exact Nat.le_of_ble_eq_true h
    | (rw [Bool.cond_eq_ite] at h
       split at h
       · rename_i hc; first | exact ⟨bltAll_ok hc, bltAll_ok h⟩ | exact ⟨Nat.le_of_ble_eq_true hc, Nat.le_of_ble_eq_true h⟩
       · cases h)
theorem lwfB_ok {n : Nat} : ∀ {l : List SC}, lwfB n l = true → lwf n l
  | [], _ => fun c hc => (by cases hc)
  | a :: r, h => by
    unfold lwfB at h
    rw [Bool.cond_eq_ite] at h
    split at h
    · rename_i ha
      intro c hc
      rcases List.mem_cons.1 hc with rfl | hc
      · exact SC.wfB_ok ha
      · exact lwfB_ok h c hc
    · cases h
theorem nsB_ok {n : Nat} : ∀ {l : List Nat}, nsB n l = true → ∀ m ∈ l, m < n
  | [], _, m, hm => by cases hm
  | a :: r, h, m, hm => by
    unfold nsB at h
    rw [Bool.cond_eq_ite] at h
    split at h
    · rename_i ha
      rcases List.mem_cons.1 hm with rfl | hm
      · exact Nat.le_of_ble_eq_true ha
      · exact nsB_ok h m hm
    · cases h
theorem hwfB_ok {n : Nat} : ∀ {H : SH}, hwfB n H = true → hwf n H
  | [], _ => fun q hq => (by cases hq)
  | (m, o) :: r, h => by
    unfold hwfB at h
    rw [Bool.cond_eq_ite] at h
    split at h
    · rename_i hm
      rw [Bool.cond_eq_ite] at h
      split at h
      · rename_i ho
        intro q hq
        rcases List.mem_cons.1 hq with rfl | hq
        · refine ⟨Nat.le_of_ble_eq_true hm, ?_⟩
          cases o with
          | cells l T => exact lwfB_ok ho
          | abs k x ns => exact nsB_ok ho
          | row l T sz cn =>
            have ho : (bif Nat.blt cn n then lwfB n l else false) = true := ho
            rw [Bool.cond_eq_ite] at ho
            split at ho
            · rename_i hcn; exact ⟨lwfB_ok ho, Nat.le_of_ble_eq_true hcn⟩
            · cases ho
          | opt c k x i z => trivial
        · exact hwfB_ok h q hq
      · cases h
    · cases h
theorem vwfB_ok {n : Nat} : ∀ {l : List (Nat × SV)}, vwfB n l = true → ∀ q ∈ l, q.2.wf n ∧ q.2.isTop = false
  | [], _, q, hq => by cases hq
  | (i, v) :: r, h, q, hq => by
    unfold vwfB at h
    rw [Bool.cond_eq_ite] at h
    split at h
    · rename_i hv
      rcases List.mem_cons.1 hq with rfl | hq
      · unfold vB at hv
        split at hv
        · exact ⟨SC.wfB_ok hv, rfl⟩
        · exact ⟨lwfB_ok hv, rfl⟩
        · cases hv
      · exact vwfB_ok h q hq
    · cases h
inductive Gd where
  | yes | no | bad
  | fork (c : Tm) (want : Bool)
section
variable [Interp] [Rules]
def gd (π : Pi) (ops : List Oper) (fr : Frm) : Option (Nat × Bool) → Gd
  | none => .yes
  | some (j, want) =>
    match ops[j]? with
    | some o =>
      match o.dst with
      | some d =>
        match fr.get d with
        | .a (.one (.bool c)) =>
          match dec π c with
          | some b => bif boolBeq b want then .yes else .no
          | none => .fork c want
        | .a (.one (.raw _)) => .bad
        | .a (.one (.any _)) => .bad
        | .top => .bad
        | _ => .no
      | none => .no
    | none => .no
def evList (P : Program) [Fast P] [Ab P] (call : Caller) (ops : List Oper) : List Oper → Frm → St → Tree (Frm × St)
  | [], fr, s => .done (fr, s)
  | o :: rest, fr, s =>
    match gd s.pi ops fr o.guard with
    | .yes => (evOp P call o fr s).bind fun r => match r with
      | (v, s) => frcV v fun v => putK fr o.dst v fun fr => evList P call ops rest fr s
    | .no => putK fr o.dst .un fun fr => evList P call ops rest fr s
    | .fork c want => br c s.pi fun π b =>
      bif boolBeq b want then (evOp P call o fr ⟨π, s.H, s.n⟩).bind fun r => match r with
        | (v, s) => frcV v fun v => putK fr o.dst v fun fr => evList P call ops rest fr s
      else putK fr o.dst .un fun fr => evList P call ops rest fr ⟨π, s.H, s.n⟩
    | .bad => .fail 22
variable [Vars]
theorem boolBeq_iff (a b : Bool) : boolBeq a b = (a == b) := by cases a <;> cases b <;> rfl
theorem yielded_is {n : Nat} {β : Bl} {fr : Frm} {a : Act} (hf : FrIs n β fr a.tmps) (ops : List Oper) (j : Nat) {o : Oper} {d : Nat} (ho : ops[j]? = some o) (hd : o.dst = some d) (ht : (fr.get d).isTop = false) :
    yielded ops.toArray a.tmps j = match (fr.get d).den β with | .bool b => some b | _ => none := by
  unfold yielded
  rcases hf.get? d ht with h | ⟨h1, h2⟩
  · simp only [List.getElem?_toArray, ho, Option.bind_some, hd, h]
    cases (fr.get d).den β <;> rfl
  · simp only [List.getElem?_toArray, ho, Option.bind_some, hd, h1, h2]
    rfl
theorem gd_spec {π : Pi} (hπ : facts π) {n : Nat} {β : Bl} {fr : Frm} {a : Act} (hf : FrIs n β fr a.tmps) {ops : List Oper} {o : Oper} :
    (gd π ops fr o.guard = .yes → Region.wanted o (yielded ops.toArray a.tmps) = true) ∧ (gd π ops fr o.guard = .no → Region.wanted o (yielded ops.toArray a.tmps) = false) ∧
    ∀ c want, gd π ops fr o.guard = .fork c want → Region.wanted o (yielded ops.toArray a.tmps) = boolBeq c.tv want := by
  unfold Region.wanted gd
  cases hg : o.guard with
  | none => simp
  | some q =>
    obtain ⟨j, want⟩ := q
    simp only
    cases ho : ops[j]? with
    | none => simp [yielded, ho]
    | some oj =>
      simp only
      cases hd : oj.dst with
      | none => simp [yielded, ho, hd]
      | some d =>
        simp only
        cases hv : fr.get d with
        | top => simp
        | tup l =>
          rw [yielded_is hf ops j ho hd (by rw [hv]; rfl), hv]
          simp [SV.den]
        | a x =>
          rw [yielded_is hf ops j ho hd (by rw [hv]; rfl), hv]
          cases x with
          | agg l => simp [SV.den, SA.den]
          | one c =>
            cases c <;> simp [SV.den, SA.den, SC.den]
            case bool t =>
              cases hc : dec π t with
              | none => simp [boolBeq_iff]; intro c; exact ⟨fun h1 h2 => by subst h1 h2; simp, fun h1 h2 => by subst h1 h2; simp⟩
              | some b =>
                have := dec_ok hπ hc
                simp only [this, boolBeq_iff]
                cases b <;> cases want <;> simp
theorem put_defers (a : Act) (d : Option Tmp) (v : Value) : (a.put d v).defers = a.defers := by cases d <;> rfl
theorem Out.pi {β : Bl} {s : St} {w : World} {R : HProp} (h : At β s w R) {π : Pi} (hπ : facts π) : Out β s w R β ⟨π, s.H, s.n⟩ w := ⟨Ag.refl _ _, Nat.le_refl _, ⟨hπ, h.wf, h.hold⟩, Strm.refl w⟩
theorem un_wf (n : Nat) : SV.un.wf n := fun x hx => (by cases hx)
theorem evList_ok {P : Program} [Fast P] [Ab P] [AbOk P] (hn : NoGos P) {call : Caller} (hcall : CallerOk P call) {ops : List Oper} {L : Bl → Frm × St → Prop} {R : HProp} {Q : Exit → Act → World → Prop} :
    ∀ (l : List Oper) (fr : Frm) (s : St) (β : Bl) (a : Act) (w : World), (evList P call ops l fr s).Leads L β → FrIs s.n β fr a.tmps → a.defers = [] → At β s w R →
      (∀ β' fr' s' a' w', L β' (fr', s') → FrIs s'.n β' fr' a'.tmps → a'.defers = [] → Out β s w R β' s' w' → Q .normal a' w') → wpList P ops.toArray Q l a w
  | [], fr, s, β, a, w, hl, hf, hd, hw, hk => hk β fr s a w hl hf hd (Out.refl hw)
  | o :: rest, fr, s, β, a, w, hl, hf, hd, hw, hk => by
    have yes : ∀ (s1 : St), Out β s w R β s1 w → Region.wanted o (yielded ops.toArray a.tmps) = true → ((evOp P call o fr s1).bind fun r => match r with
      | (v, s) => frcV v fun v => putK fr o.dst v fun fr => evList P call ops rest fr s).Leads L β → wpList P ops.toArray Q (o :: rest) a w := by
      intro s1 h1 hwant hl
      unfold wpList
      rw [if_pos hwant]
      left
      refine evOp_ok hn hcall (bind_leads hl) (hf.mono h1.n h1.ag) h1.at_ fun β' v s' w' k1 k2 k3 k4 => ?_
      simp only [frcV_eq, putK_eq] at k1
      refine evList_ok hn hcall rest _ s' β' _ w' k1 (((hf.mono h1.n h1.ag).mono k4.n k4.ag).put o.dst k2 (.inr rfl)) (by rw [put_defers]; exact hd) k4.at_ fun β'' fr' s'' a' w'' j1 j2 j3 j4 => ?_
      exact hk β'' fr' s'' a' w'' j1 j2 j3 (h1.trans (k4.trans j4))
    have no : ∀ (s1 : St), Out β s w R β s1 w → Region.wanted o (yielded ops.toArray a.tmps) = false → (putK fr o.dst .un fun fr => evList P call ops rest fr s1).Leads L β → wpList P ops.toArray Q (o :: rest) a w := by
      intro s1 h1 hwant hl
      unfold wpList
      rw [if_neg (by rw [hwant]; simp)]
      rw [putK_eq] at hl
      refine evList_ok hn hcall rest _ s1 β _ w hl ((hf.mono h1.n h1.ag).put o.dst (un_wf _) (.inr (un_den β).symm)) (by rw [put_defers]; exact hd) h1.at_ fun β'' fr' s'' a' w'' j1 j2 j3 j4 => ?_
      exact hk β'' fr' s'' a' w'' j1 j2 j3 (h1.trans j4)
    unfold evList at hl
    obtain ⟨g1, g2, g3⟩ := gd_spec hw.pi hf (ops := ops) (o := o)
    split at hl
    · rename_i hg; exact yes s (Out.refl hw) (g1 hg) hl
    · rename_i hg; exact no s (Out.refl hw) (g2 hg) hl
    · rename_i c want hg
      obtain ⟨π', h1, h2⟩ := br_leads hl hw.pi
      have h3 := g3 c want hg
      cases hb : boolBeq c.tv want with
      | true => rw [hb] at h2 h3; exact yes _ (Out.pi hw h1) h3 h2
      | false => rw [hb] at h2 h3; exact no _ (Out.pi hw h1) h3 h2
    · exact hl.elim
end
/-! ### a region in any order: cells that nobody of it writes are held -/
def prBeq : List (Nat × Nat) → List (Nat × Nat) → Bool
  | [], [] => true
  | (a, b) :: r, (c, d) :: s => bif Nat.beq a c && Nat.beq b d then prBeq r s else false
  | _, _ => false
theorem prBeq_eq : ∀ {r s : List (Nat × Nat)}, prBeq r s = true → r = s
  | [], [], _ => rfl
  | [], _ :: _, h => by cases h
  | _ :: _, [], h => by cases h
  | (a, b) :: r, (c, d) :: s, h => by
    unfold prBeq at h
    rw [Bool.cond_eq_ite] at h
    split at h
    · rename_i hc
      rw [Bool.and_eq_true] at hc
      rw [Nat.eq_of_beq_eq_true hc.1, Nat.eq_of_beq_eq_true hc.2, prBeq_eq h]
    · cases h
def SC.beq : SC → SC → Bool
  | .int k t, .int j u => bif sameK k j then Tm.beq t u else false
  | .bool t, .bool u => Tm.beq t u
  | .ptr n o, .ptr m p => bif Nat.beq n m then Nat.beq o p else false
  | .ptrR n b t st o, .ptrR m c u su p => bif Nat.beq n m && (Nat.beq st su && Nat.beq o p) then (bif Tm.beq b c then Tm.beq t u else false) else false
  | .nil, .nil => true
  | .slice n o l c, .slice m p k d => bif Nat.beq n m && Nat.beq o p then (bif Tm.beq l k then Tm.beq c d else false) else false
  | .sliceQ n o l c, .sliceQ m p k d => bif Nat.beq n m then (bif Tm.beq o p then (bif Tm.beq l k then Tm.beq c d else false) else false) else false
  | .sliceN n l c, .sliceN m k d => bif Nat.beq n m && Nat.beq c d then Tm.beq l k else false
  | .snil, .snil => true
  | .func f a c, .func g b d => bif Nat.beq f g then (bif prBeq a b then prBeq c d else false) else false
  | .nilF, .nilF => true
  | .any i, .any j => Nat.beq i j
  | _, _ => false
theorem SC.beq_eq {c d : SC} (h : SC.beq c d = true) : c = d := by
  cases c <;> cases d <;> simp only [SC.beq] at h <;> first
    | rfl
    | (cases h; done)
    | (rw [Tm.beq_eq h])
    | (rw [Nat.eq_of_beq_eq_true h])
    | (rw [Bool.cond_eq_ite] at h
       split at h
       · rename_i hc
         first
           | (rw [kCode_inj hc, Tm.beq_eq h])
           | (rw [Nat.eq_of_beq_eq_true hc, Nat.eq_of_beq_eq_true h])
           | (rw [Bool.and_eq_true, Bool.and_eq_true] at hc
              rw [Bool.cond_eq_ite] at h
              split at h
              · rename_i hl
                rw [Nat.eq_of_beq_eq_true hc.1, Nat.eq_of_beq_eq_true hc.2.1, Nat.eq_of_beq_eq_true hc.2.2, Tm.beq_eq hl, Tm.beq_eq h]
              · cases h)
           | (rw [Bool.and_eq_true] at hc
              rw [Nat.eq_of_beq_eq_true hc.1, Nat.eq_of_beq_eq_true hc.2, Tm.beq_eq h])
           | (rw [Bool.and_eq_true] at hc
              rw [Bool.cond_eq_ite] at h
              split at h
              · rename_i hl
                rw [Nat.eq_of_beq_eq_true hc.1, Nat.eq_of_beq_eq_true hc.2, Tm.beq_eq hl, Tm.beq_eq h]
              · cases h)
           | (rw [Bool.cond_eq_ite] at h
              split at h
              · rename_i hl
                rw [Nat.eq_of_beq_eq_true hc, prBeq_eq hl, prBeq_eq h]
              · cases h)
           | (rw [Bool.cond_eq_ite] at h
              split at h
              · rename_i hl
                rw [Bool.cond_eq_ite] at h
                split at h
                · rename_i h3
                  rw [Nat.eq_of_beq_eq_true hc, Tm.beq_eq hl, Tm.beq_eq h3, Tm.beq_eq h]
                · cases h
              · cases h)
       · cases h)
abbrev Held := List (Nat × Nat × SC)
def Held.wf (n : Nat) (S : Held) : Prop := ∀ x ∈ S, x.1 < n ∧ x.2.2.wf n
def heldB (H : SH) : Held → Bool
  | [] => true
  | (nm, off, c) :: r =>
    match find H nm with
    | some (.cells l _) =>
      match l[off]? with
      | some c' => bif SC.beq c' c then heldB H r else false
      | none => false
    | _ => false
def lookS : Held → Nat → Nat → Option SC
  | [], _, _ => none
  | (nm, off, c) :: r, m, o => bif Nat.beq nm m && Nat.beq off o then some c else lookS r m o
theorem lookS_mem : ∀ {S : Held} {m o : Nat} {c : SC}, lookS S m o = some c → (m, o, c) ∈ S
  | [], _, _, _, h => by simp [lookS] at h
  | (nm, off, c') :: r, m, o, c, h => by
    unfold lookS at h
    cases hc : (Nat.beq nm m && Nat.beq off o) with
    | true =>
      rw [hc] at h
      simp at h
      subst h
      rw [Bool.and_eq_true] at hc
      rw [Nat.eq_of_beq_eq_true hc.1, Nat.eq_of_beq_eq_true hc.2]
      exact List.mem_cons_self ..
    | false => rw [hc] at h; exact List.mem_cons_of_mem _ (lookS_mem h)
def looksS (S : Held) (m : Nat) : Nat → Nat → Option (List SC)
  | _, 0 => some []
  | o, n + 1 =>
    match lookS S m o, looksS S m (o + 1) n with
    | some c, some l => some (c :: l)
    | _, _ => none
theorem looksS_wf {S : Held} {k m : Nat} (hS : S.wf k) : ∀ (n o : Nat) (l : List SC), looksS S m o n = some l → lwf k l
  | 0, o, l, h => by simp [looksS] at h; subst h; intro c hc; cases hc
  | n + 1, o, l, h => by
    unfold looksS at h
    split at h
    · rename_i c l' h1 h2
      simp at h; subst h
      intro d hd
      rcases List.mem_cons.1 hd with rfl | hd
      · exact (hS _ (lookS_mem h1)).2
      · exact looksS_wf hS n (o + 1) l' h2 d hd
    · cases h
def loadH (P : Program) [Fast P] (S : Held) (t : TypeId) (x : SV) : Option SV :=
  match x with
  | .a (.one (.ptr nm off)) =>
    match tyAgg P t, tySize P t with
    | some true, some n => match looksS S nm off n with
      | some l => some (.a (.agg l))
      | none => none
    | some false, _ => match lookS S nm off with
      | some c => some (.c c)
      | none => none
    | _, _ => none
  | _ => none
theorem loadH_wf {P : Program} [Fast P] {S : Held} {t : TypeId} {x v : SV} (h : loadH P S t x = some v) {n : Nat} (hS : S.wf n) : v.wf n ∧ v.isTop = false := by
  unfold loadH at h
  split at h
  · split at h
    · split at h
      · rename_i hl; simp at h; subst h; exact ⟨looksS_wf hS _ _ _ hl, rfl⟩
      · cases h
    · split at h
      · rename_i hl; simp at h; subst h; exact ⟨(hS _ (lookS_mem hl)).2, rfl⟩
      · cases h
    · cases h
  · cases h
section
variable [Interp] [Rules]
/-- An operation that may be taken first. -/
def quiet (P : Program) [Fast P] (π : Pi) (ops : List Oper) (S : Held) (fr : Frm) (o : Oper) : Option (List Tm × SV) :=
  match gd π ops fr o.guard with
  | .no => some ([], .un)
  | .yes =>
    match pureOp P π fr o with
    | some r => some r
    | none =>
      match o.op with
      | .load t x => match loadH P S t (opnd fr x) with
        | some v => some ([], v)
        | none => none
      | _ => none
  | _ => none
def saEq : SA → SA → Bool
  | .one c, .one d => SC.beq c d
  | .agg l, .agg m => scsEq l m
  | _, _ => false
where scsEq : List SC → List SC → Bool
  | [], [] => true
  | x :: r, y :: s => bif SC.beq x y then scsEq r s else false
  | _, _ => false
def sasEq : List SA → List SA → Bool
  | [], [] => true
  | x :: r, y :: s => bif saEq x y then sasEq r s else false
  | _, _ => false
def svEq : SV → SV → Bool
  | .a x, .a y => saEq x y
  | .tup l, .tup m => sasEq l m
  | .top, .top => true
  | _, _ => false
def frEq : Fr → Fr → Bool
  | .e, .e => true
  | .n v l r, .n v' l' r' => bif svEq v v' then (bif frEq l l' then frEq r r' else false) else false
  | _, _ => false
def nmEq : List Nat → List Nat → Bool
  | [], [] => true
  | a :: r, b :: s => bif Nat.beq a b then nmEq r s else false
  | _, _ => false
def soEq : SO → SO → Bool
  | .cells l T, .cells m U => bif Nat.beq T U then saEq.scsEq l m else false
  | .abs k x ns, .abs j y ms => bif Nat.beq k j then (bif Tm.beq x y then nmEq ns ms else false) else false
  | .row l T sz cn, .row m U su cu => bif Nat.beq T U && (Nat.beq sz su && Nat.beq cn cu) then saEq.scsEq l m else false
  | .opt c k x i z, .opt d j y i' z' => bif Nat.beq k j && (Nat.beq i i' && boolBeq z z') then (bif Tm.beq c d then Tm.beq x y else false) else false
  | _, _ => false
def shEq : SH → SH → Bool
  | [], [] => true
  | (n, o) :: r, (m, q) :: s => bif Nat.beq n m then (bif soEq o q then shEq r s else false) else false
  | _, _ => false
def piEq : Pi → Pi → Bool
  | [], [] => true
  | (t, b) :: r, (u, c) :: s => bif boolBeq b c then (bif Tm.beq t u then piEq r s else false) else false
  | _, _ => false
def fsEq (a b : Frm × St) : Bool :=
  bif Nat.beq a.1.sz b.1.sz then (bif Nat.beq a.2.n b.2.n then (bif frEq a.1.t b.1.t then (bif shEq a.2.H b.2.H then piEq a.2.pi b.2.pi else false) else false) else false) else false
theorem scsEq_eq : ∀ {l m : List SC}, saEq.scsEq l m = true → l = m
  | [], [], _ => rfl
  | [], _ :: _, h => by cases h
  | _ :: _, [], h => by cases h
  | x :: r, y :: s, h => by
    unfold saEq.scsEq at h
    rw [Bool.cond_eq_ite] at h
    split at h
    · rename_i hc; rw [SC.beq_eq hc, scsEq_eq h]
    · cases h
theorem saEq_eq {x y : SA} (h : saEq x y = true) : x = y := by
  unfold saEq at h
  split at h
  · rw [SC.beq_eq h]
  · rw [scsEq_eq h]
  · cases h
theorem sasEq_eq : ∀ {l m : List SA}, sasEq l m = true → l = m
  | [], [], _ => rfl
  | [], _ :: _, h => by cases h
  | _ :: _, [], h => by cases h
  | x :: r, y :: s, h => by
    unfold sasEq at h
    rw [Bool.cond_eq_ite] at h
    split at h
    · rename_i hc; rw [saEq_eq hc, sasEq_eq h]
    · cases h
theorem svEq_eq {x y : SV} (h : svEq x y = true) : x = y := by
  unfold svEq at h
  split at h
  · rw [saEq_eq h]
  · rw [sasEq_eq h]
  · rfl
  · cases h
theorem frEq_eq : ∀ {f g : Fr}, frEq f g = true → f = g
  | .e, .e, _ => rfl
  | .e, .n _ _ _, h => by cases h
  | .n _ _ _, .e, h => by cases h
  | .n v l r, .n v' l' r', h => by
    unfold frEq at h
    rw [Bool.cond_eq_ite] at h
    split at h
    · rename_i h1
      rw [Bool.cond_eq_ite] at h
      split at h
      · rename_i h2
        rw [svEq_eq h1, frEq_eq h2, frEq_eq h]
      · cases h
    · cases h
theorem nmEq_eq : ∀ {r s : List Nat}, nmEq r s = true → r = s
  | [], [], _ => rfl
  | [], _ :: _, h => by cases h
  | _ :: _, [], h => by cases h
  | a :: r, b :: s, h => by
    unfold nmEq at h
    rw [Bool.cond_eq_ite] at h
    split at h
    · rename_i hc; rw [Nat.eq_of_beq_eq_true hc, nmEq_eq h]
    · cases h
theorem soEq_eq {x y : SO} (h : soEq x y = true) : x = y := by
  unfold soEq at h
  split at h
  · rw [Bool.cond_eq_ite] at h
    split at h
    · rename_i h1; rw [Nat.eq_of_beq_eq_true h1, scsEq_eq h]
    · cases h
  · rw [Bool.cond_eq_ite] at h
    split at h
    · rename_i h1
      rw [Bool.cond_eq_ite] at h
      split at h
      · rename_i h2; rw [Nat.eq_of_beq_eq_true h1, Tm.beq_eq h2, nmEq_eq h]
      · cases h
    · cases h
  · rw [Bool.cond_eq_ite] at h
    split at h
    · rename_i h1
      simp only [Bool.and_eq_true] at h1
      rw [Nat.eq_of_beq_eq_true h1.1, Nat.eq_of_beq_eq_true h1.2.1, Nat.eq_of_beq_eq_true h1.2.2, scsEq_eq h]
    · cases h
  · rw [Bool.cond_eq_ite] at h
    split at h
    · rename_i h1
      simp only [Bool.and_eq_true] at h1
      rw [Bool.cond_eq_ite] at h
      split at h
      · rename_i h2
        rw [Nat.eq_of_beq_eq_true h1.1, Nat.eq_of_beq_eq_true h1.2.1, boolBeq_eq h1.2.2, Tm.beq_eq h2, Tm.beq_eq h]
      · cases h
    · cases h
  · cases h
theorem shEq_eq : ∀ {r s : SH}, shEq r s = true → r = s
  | [], [], _ => rfl
  | [], _ :: _, h => by cases h
  | _ :: _, [], h => by cases h
  | (n, o) :: r, (m, q) :: s, h => by
    unfold shEq at h
    rw [Bool.cond_eq_ite] at h
    split at h
    · rename_i h1
      rw [Bool.cond_eq_ite] at h
      split at h
      · rename_i h2; rw [Nat.eq_of_beq_eq_true h1, soEq_eq h2, shEq_eq h]
      · cases h
    · cases h
theorem piEq_eq : ∀ {r s : Pi}, piEq r s = true → r = s
  | [], [], _ => rfl
  | [], _ :: _, h => by cases h
  | _ :: _, [], h => by cases h
  | (n, o) :: r, (m, q) :: s, h => by
    unfold piEq at h
    rw [Bool.cond_eq_ite] at h
    split at h
    · rename_i h1
      rw [Bool.cond_eq_ite] at h
      split at h
      · rename_i h2; rw [boolBeq_eq h1, Tm.beq_eq h2, piEq_eq h]
      · cases h
    · cases h
theorem fsEq_eq {a b : Frm × St} (h : fsEq a b = true) : a = b := by
  unfold fsEq at h
  rw [Bool.cond_eq_ite] at h
  split at h
  · rename_i h1
    rw [Bool.cond_eq_ite] at h
    split at h
    · rename_i h2
      rw [Bool.cond_eq_ite] at h
      split at h
      · rename_i h3
        rw [Bool.cond_eq_ite] at h
        split at h
        · rename_i h4
          obtain ⟨⟨z, t⟩, ⟨p, H, n⟩⟩ := a
          obtain ⟨⟨z', t'⟩, ⟨p', H', n'⟩⟩ := b
          simp only at h1 h2 h3 h4 h
          rw [Nat.eq_of_beq_eq_true h1, Nat.eq_of_beq_eq_true h2, frEq_eq h3, shEq_eq h4, piEq_eq h]
        · cases h
      · cases h
    · cases h
  · cases h
def trEq : Tree (Frm × St) → Tree (Frm × St) → Bool
  | .done x, .done y => fsEq x y
  | .ite c a b, .ite d p q => bif Tm.beq c d then (bif trEq a p then trEq b q else false) else false
  | .new n t, .new m u => bif Nat.beq n m then trEq t u else false
  | .both a b, .both p q => bif trEq a p then trEq b q else false
  | _, _ => false
theorem trEq_eq : ∀ {s t : Tree (Frm × St)}, trEq s t = true → s = t
  | .done x, t, h => by
    cases t <;> first | (exact congrArg _ (fsEq_eq h)) | cases h
  | .ite c a b, t, h => by
    cases t <;> first
      | (unfold trEq at h
         rw [Bool.cond_eq_ite] at h
         split at h
         · rename_i h1
           rw [Bool.cond_eq_ite] at h
           split at h
           · rename_i h2
             rw [Tm.beq_eq h1, trEq_eq h2, trEq_eq h]
           · cases h
         · cases h)
      | cases h
  | .new n a, t, h => by
    cases t <;> first
      | (unfold trEq at h
         rw [Bool.cond_eq_ite] at h
         split at h
         · rename_i h1
           rw [Nat.eq_of_beq_eq_true h1, trEq_eq h]
         · cases h)
      | cases h
  | .both a b, t, h => by
    cases t <;> first
      | (unfold trEq at h
         rw [Bool.cond_eq_ite] at h
         split at h
         · rename_i h1
           rw [trEq_eq h1, trEq_eq h]
         · cases h)
      | cases h
  | .fail _, t, h => by cases t <;> cases h
/-- Two orders; one if they come to the same. -/
def both1 (a b : Tree (Frm × St)) : Tree (Frm × St) := bif trEq a b then a else .both a b
def allT : List Rw → (Rw → Tree (Frm × St)) → Tree (Frm × St)
  | [], _ => .fail 23
  | [i], t => t i
  | i :: r, t => both1 (t i) (allT r t)
abbrev Prom := List (Rw × SV)
def stEq (a b : St) : Bool := bif Nat.beq a.n b.n then (bif shEq a.H b.H then piEq a.pi b.pi else false) else false
def svB (n : Nat) (v : SV) : Bool :=
  match v with
  | .a (.one c) => c.wfB n
  | .a (.agg l) => lwfB n l
  | .tup [] => true
  | _ => false
/-- A row's guard. -/
def gdP (π : Pi) (fr : Frm) : Option (Option Nat × Bool) → Gd
  | none => .yes
  | some (none, _) => .no
  | some (some d, want) =>
    match fr.get d with
    | .a (.one (.bool c)) =>
      match dec π c with
      | some b => bif boolBeq b want then .yes else .no
      | none => .fork c want
    | .a (.one (.raw _)) => .bad
    | .a (.one (.any _)) => .bad
    | .top => .bad
    | _ => .no
theorem gdP_eq {π : Pi} {ops : List Oper} {fr : Frm} : ∀ g : Option (Nat × Bool), gdP π fr (gsl ops g) = gd π ops fr g
  | none => rfl
  | some (j, want) => by
    have e1 : gsl ops (some (j, want)) = match ops[j]? with | some o => some (o.dst, want) | none => some (none, want) := rfl
    cases h : ops[j]? with
    | none =>
      rw [h] at e1
      rw [e1]
      simp only [gd, h, gdP]
    | some o =>
      rw [h] at e1
      rw [e1]
      cases hd : o.dst with
      | none => simp only [gd, h, hd, gdP]
      | some d => simp only [gd, h, hd, gdP]
def quietR (P : Program) [Fast P] (π : Pi) (S : Held) (fr : Frm) (r : Rw) : Option (List Tm × SV) :=
  match gdP π fr r.gs with
  | .no => some ([], .un)
  | .yes =>
    match pureOp P π fr r.o with
    | some r => some r
    | none =>
      match r.o.op with
      | .load t x => match loadH P S t (opnd fr x) with
        | some v => some ([], v)
        | none => none
      | _ => none
  | _ => none
theorem quietR_eq {P : Program} [Fast P] {π : Pi} {ops : List Oper} {S : Held} {fr : Frm} {r : Rw} (ok : RwOk ops r) : quietR P π S fr r = quiet P π ops S fr r.o := by
  unfold quietR quiet
  rw [ok.gs, gdP_eq]
def pickQ (P : Program) [Fast P] (π : Pi) (S : Held) (m : Nat) (fr : Frm) : List Rw → Option (Rw × List Tm × SV)
  | [] => none
  | r :: t =>
    match quietR P π S fr r with
    | some (ps, v) => bif sub m r.conf then some (r, ps, v) else pickQ P π S m fr t
    | none => pickQ P π S m fr t
def pickF (π : Pi) (fr : Frm) : List Rw → Option Tm
  | [] => none
  | r :: t =>
    match gdP π fr r.gs with
    | .fork c _ => some c
    | _ => pickF π fr t
/-- An operation that gives a value and leaves all that is known as it is. -/
def calmV (P : Program) [Fast P] [Ab P] (call : Caller) (fr : Frm) (s : St) (r : Rw) : Option SV :=
  match gdP s.pi fr r.gs with
  | .yes =>
    match evOp P call r.o fr s with
    | .done (v, s') => bif stEq s' s then (bif svB s.n v then some v else none) else none
    | _ => none
  | _ => none
def keepD (P : Program) [Fast P] [Ab P] (call : Caller) (fr : Frm) (s : St) : Prom → Bool
  | [] => true
  | (o, v) :: r =>
    match calmV P call fr s o with
    | some u => bif svEq u v then keepD P call fr s r else false
    | none => false
/-- None of those that are promised looks at what number i writes. -/
def noLooks (i : Nat) : Prom → Bool
  | [] => true
  | (o, _) :: r => bif tb o.look i then false else noLooks i r
def pickC (P : Program) [Fast P] [Ab P] (call : Caller) (m : Nat) (fr : Frm) (s : St) : List Rw → Option (Rw × SV)
  | [] => none
  | r :: t =>
    bif sub m r.look && sub m r.conf then
      match calmV P call fr s r with
      | some v => some (r, v)
      | none => pickC P call m fr s t
    else pickC P call m fr s t
/-- A load that lays an object open: it is opened ahead of it. -/
def pickO (P : Program) [Fast P] [Ab P] (fr : Frm) (s : St) : List Rw → Option (Nat × SO)
  | [] => none
  | r :: rs =>
    match r.o.op with
    | .load t x =>
      match gdP s.pi fr r.gs with
      | .yes =>
        match loadV P s.pi t s.H (opnd fr x) with
        | some _ => pickO P fr s rs
        | none => match openV P t s.H s.n (opnd fr x) with
          | some (nm, o, _) => some (nm, o)
          | none => pickO P fr s rs
      | _ => pickO P fr s rs
    | _ => pickO P fr s rs
def single {α : Type} : List α → Bool
  | [_] => true
  | _ => false
/-- Some way fails. -/
def Tree.bad {α : Type} : Tree α → Bool
  | .done _ => false
  | .ite _ a b => bif a.bad then true else b.bad
  | .new _ t => t.bad
  | .both a b => bif a.bad then true else b.bad
  | .fail _ => true
def altT {α : Type} (b : Bool) (t u : Tree α) : Tree α := bif b then (bif t.bad then u else t) else t
/-- A load of a plain cell (that the region may write itself). -/
def plainL (fr : Frm) (s : St) (r : Rw) : Bool :=
  match r.o.op with
  | .load _ x =>
    match opnd fr x with
    | .a (.one (.ptr nm _)) =>
      match find s.H nm with
      | some (.cells _ _) => true
      | _ => false
    | _ => false
  | _ => false
theorem altT_leads [Vars] {α : Type} {L : Bl → α → Prop} {b : Bool} {t u : Tree α} {β : Bl} (h : (altT b t u).Leads L β) : t.Leads L β ∨ u.Leads L β := by
  unfold altT at h
  rw [Bool.cond_eq_ite, Bool.cond_eq_ite] at h
  split at h
  · split at h
    · exact .inr h
    · exact .inl h
  · exact .inl h
def evAny (P : Program) [Fast P] [Ab P] (call : Caller) (rows : List Rw) (S : Held) : Prom → Nat → Nat → Nat → Frm → St → Tree (Frm × St)
  | _, 0, _, _, _, _ => .fail 24
  | D, g + 1, F, m, fr, s =>
    match readyR m rows with
    | [] => .done (fr, s)
    | r :: rs =>
      match F with
      | 0 => .fail 25
      | F + 1 =>
        match pickQ P s.pi S m fr (r :: rs) with
        | some (r, ps, v) => bif noLooks r.i D then needs s.pi ps (frcV v fun v => putK fr r.o.dst v fun fr => frcN (Nat.lor m (bit r.i)) fun m => evAny P call rows S D g F m fr s) else .fail 29
        | none =>
          match pickO P fr s (r :: rs) with
          | some (nm, o) => frcN s.n fun n => frcO o fun o => frcH (put s.H nm o) fun H => .new n (bif heldB H S && keepD P call fr ⟨s.pi, H, n + 1⟩ D then evAny P call rows S D g (F + 1) m fr ⟨s.pi, H, n + 1⟩ else .fail 30)
          | none =>
          match pickF s.pi fr (r :: rs) with
          | some c => br c s.pi fun π b => evAny P call rows S D g (F + 1) m fr ⟨π, s.H, s.n⟩
          | none =>
          match (bif single (r :: rs) then none else pickC P call m fr s (r :: rs)) with
          | some (r', v) => altT (plainL fr s r') (bif noLooks r'.i D then frcV v fun v => putK fr r'.o.dst v fun fr => frcN (Nat.lor m (bit r'.i)) fun m => evAny P call rows S ((r', v) :: D) g F m fr s else .fail 29) (allT (r :: rs) fun r =>
            match gdP s.pi fr r.gs with
            | .yes => (evOp P call r.o fr s).bind fun q => match q with
              | (v, s') => bif heldB s'.H S then frcV v fun v => putK fr r.o.dst v fun fr => bif keepD P call fr s' D then frcN (Nat.lor m (bit r.i)) fun m => evAny P call rows S D g F m fr s' else .fail 31 else .fail 26
            | _ => .fail 27)
          | none => allT (r :: rs) fun r =>
            match gdP s.pi fr r.gs with
            | .yes => (evOp P call r.o fr s).bind fun q => match q with
              | (v, s') => bif heldB s'.H S then frcV v fun v => putK fr r.o.dst v fun fr => bif keepD P call fr s' D then frcN (Nat.lor m (bit r.i)) fun m => evAny P call rows S D g F m fr s' else .fail 31 else .fail 26
            | _ => .fail 27
variable [Vars]
def heldS (S : Held) (β : Bl) (w : World) : Prop := ∀ x ∈ S, w.cell? ⟨β x.1, x.2.1, none⟩ = some (x.2.2.den β)
theorem heldS_ext {S : Held} {n : Nat} (hS : S.wf n) {β β' : Bl} (h : Ag n β β') {w : World} : heldS S β' w ↔ heldS S β w := by
  constructor
  · intro hh x hx
    have := hh x hx
    rw [h _ (hS x hx).1, SC.ext h (hS x hx).2] at this
    exact this
  · intro hh x hx
    rw [h _ (hS x hx).1, SC.ext h (hS x hx).2]
    exact hh x hx
theorem heldB_ok {β : Bl} {H : SH} {w : World} {R : HProp} (hw : Holds w (hden β H * R)) : ∀ (S : Held), heldB H S = true → heldS S β w
  | [], h => fun x hx => (by cases hx)
  | (nm, off, c) :: r, h => by
    unfold heldB at h
    split at h
    · rename_i l T hf
      split at h
      · rename_i c' hl
        rw [Bool.cond_eq_ite] at h
        split at h
        · rename_i hc
          have e := SC.beq_eq hc
          subst e
          have hw1 : Holds w (pt (β nm) (.cells (dens β l) T (0, 0)) * (hden β (del H nm) * R)) := focus hf hw
          intro x hx
          rcases List.mem_cons.1 hx with rfl | hx
          · show w.cell? ⟨β nm, off, none⟩ = some (c'.den β)
            rw [hw1.cells]
            simp [dens, hl]
          · exact heldB_ok hw r h x hx
        · cases h
      · cases h
    · cases h
theorem looksS_ok {S : Held} {β : Bl} {m : Nat} {w : World} (hS : heldS S β w) : ∀ (n o : Nat) (l : List SC), looksS S m o n = some l →
    l.length = n ∧ ∀ j c, l[j]? = some c → w.cell? ⟨β m, o + j, none⟩ = some (c.den β)
  | 0, o, l, h => by
    simp [looksS] at h
    subst h
    exact ⟨rfl, fun j c hj => by simp at hj⟩
  | n + 1, o, l, h => by
    unfold looksS at h
    split at h
    · rename_i c l' h1 h2
      simp at h
      subst h
      obtain ⟨g1, g2⟩ := looksS_ok hS n (o + 1) l' h2
      refine ⟨by simp [g1], fun j c' hj => ?_⟩
      cases j with
      | zero => simp at hj; subst hj; exact hS _ (lookS_mem h1)
      | succ j =>
        simp at hj
        have := g2 j c' hj
        rw [show o + (j + 1) = o + 1 + j by omega]; exact this
    · simp at h
theorem run_loadH {P : Program} [Fast P] {S : Held} {β : Bl} {t : TypeId} {x v : SV} (h : loadH P S t x = some v) {w : World} (hS : heldS S β w) :
    (Instr.loadAt t (x.den β)).run P w = .ok (v.den β) w := by
  unfold loadH at h
  split at h
  · rename_i nm off
    unfold Instr.loadAt
    simp only [SV.den, SA.den, SC.den, Instr.sureAddr, Sem.run_bind, Sem.run_pure, Result.andThen_ok]
    split at h
    · rename_i n ha hs
      split at h
      · rename_i l hl
        simp at h
        subst h
        obtain ⟨g1, g2⟩ := looksS_ok hS n off l hl
        refine run_loadVar_agg ha hs (l := l.map (SC.den β)) (by simp [g1]) fun j c hj => ?_
        rw [List.getElem?_map] at hj
        cases hlj : l[j]? with
        | none => rw [hlj] at hj; cases hj
        | some d => rw [hlj] at hj; simp at hj; subst hj; exact g2 j d hlj
      · cases h
    · rename_i ha
      split at h
      · rename_i c hl
        simp at h
        subst h
        exact run_loadVar_one ha (hS _ (lookS_mem hl))
      · cases h
    · simp at h
  · simp at h
theorem quiet_ok {P : Program} [Fast P] {π : Pi} (hπ : facts π) {n : Nat} {β : Bl} {fr : Frm} {a : Act} (hf : FrIs n β fr a.tmps) {ops : List Oper} {S : Held} {S0 : World → Prop} (h0 : ∀ w, S0 w → heldS S β w) {o : Oper} {ps : List Tm} {v : SV} (h : quiet P π ops S fr o = some (ps, v)) (hp : ∀ p ∈ ps, p.tv = true) :
    YieldsIf P ops.toArray S0 o (v.den β) a := by
  obtain ⟨g1, g2, g3⟩ := gd_spec hπ hf (ops := ops) (o := o)
  unfold quiet at h
  unfold YieldsIf
  split at h
  · rename_i hg
    simp at h
    obtain ⟨rfl, rfl⟩ := h
    exact .inr ⟨g2 hg, un_den β⟩
  · rename_i hg
    left
    refine ⟨g1 hg, fun w hS => ?_⟩
    split at h
    · rename_i r hr
      simp only [Option.some.injEq] at h
      subst h
      exact run_pureOp hπ hf hr hp w
    · split at h
      · rename_i t x ho
        split at h
        · rename_i u hu
          simp at h
          obtain ⟨rfl, rfl⟩ := h
          have hx : (opnd fr x).isTop = false := by
            unfold loadH at hu
            split at hu
            · rename_i e; rw [e]; rfl
            · cases hu
          have := run_loadH hu (h0 w hS)
          unfold execOp
          simp only [ho, opnd_den hf x hx, Sem.run_bind, this, Result.andThen_ok, Sem.run_pure]
        · cases h
      · simp at h
  · simp at h
theorem quiet_wf {P : Program} [Fast P] {π : Pi} {n : Nat} {β : Bl} {fr : Frm} {a : Array Value} (hf : FrIs n β fr a) {ops : List Oper} {S : Held} (hS : S.wf n) {o : Oper} {ps : List Tm} {v : SV} (h : quiet P π ops S fr o = some (ps, v)) : v.wf n ∧ v.isTop = false := by
  unfold quiet at h
  split at h
  · simp at h; obtain ⟨_, rfl⟩ := h; exact ⟨un_wf n, rfl⟩
  · split at h
    · rename_i r hr
      simp only [Option.some.injEq] at h
      subst h
      exact ⟨pureOp_wf hf hr, pureOp_notTop hr⟩
    · split at h
      · split at h
        · rename_i hu; simp at h; obtain ⟨_, rfl⟩ := h; exact loadH_wf hu hS
        · cases h
      · cases h
  · cases h
theorem pickQ_ok {P : Program} [Fast P] {π : Pi} {S : Held} {m : Nat} {fr : Frm} : ∀ {l : List Rw} {r : Rw} {ps : List Tm} {v : SV}, pickQ P π S m fr l = some (r, ps, v) →
    r ∈ l ∧ quietR P π S fr r = some (ps, v) ∧ sub m r.conf = true
  | [], _, _, _, h => by cases h
  | x :: t, r, ps, v, h => by
    unfold pickQ at h
    split at h
    · rename_i qs u hq
      rw [Bool.cond_eq_ite] at h
      split at h
      · rename_i hc; cases h; exact ⟨List.mem_cons_self .., hq, hc⟩
      · obtain ⟨a1, a2⟩ := pickQ_ok h; exact ⟨List.mem_cons_of_mem _ a1, a2⟩
    · obtain ⟨a1, a2⟩ := pickQ_ok h; exact ⟨List.mem_cons_of_mem _ a1, a2⟩
theorem both1_leads {L : Bl → Frm × St → Prop} {β : Bl} {a b : Tree (Frm × St)} (h : (both1 a b).Leads L β) : a.Leads L β ∧ b.Leads L β := by
  unfold both1 at h
  rw [Bool.cond_eq_ite] at h
  split at h
  · rename_i hc
    have e := trEq_eq hc
    subst e
    exact ⟨h, h⟩
  · exact h
theorem allT_leads {L : Bl → Frm × St → Prop} {β : Bl} {t : Rw → Tree (Frm × St)} : ∀ {l : List Rw}, (allT l t).Leads L β → ∀ i ∈ l, (t i).Leads L β
  | [], h, i, hi => by cases hi
  | [j], h, i, hi => by
    rcases List.mem_cons.1 hi with rfl | hi
    · exact h
    · cases hi
  | j :: j' :: r, h, i, hi => by
    obtain ⟨h1, h2⟩ := both1_leads h
    rcases List.mem_cons.1 hi with rfl | hi
    · exact h1
    · exact allT_leads h2 i hi
theorem stEq_eq {a b : St} (h : stEq a b = true) : a = b := by
  unfold stEq at h
  rw [Bool.cond_eq_ite] at h
  split at h
  · rename_i h1
    rw [Bool.cond_eq_ite] at h
    split at h
    · rename_i h2
      obtain ⟨p, H, n⟩ := a
      obtain ⟨p', H', n'⟩ := b
      simp only at h1 h2 h
      rw [Nat.eq_of_beq_eq_true h1, shEq_eq h2, piEq_eq h]
    · cases h
  · cases h
theorem svB_ok {n : Nat} {v : SV} (h : svB n v = true) : v.wf n ∧ v.isTop = false := by
  unfold svB at h
  split at h
  · exact ⟨SC.wfB_ok h, rfl⟩
  · exact ⟨lwfB_ok h, rfl⟩
  · exact ⟨fun x hx => (by cases hx), rfl⟩
  · cases h
/-- What is known of the world in a region. -/
def Reg (S : Held) (β0 : Bl) (R : HProp) (w00 : World) (β : Bl) (H : SH) : World → Prop := fun w => Holds w (hden β H * R) ∧ heldS S β0 w ∧ Strm w00 w
theorem calmV_ok {P : Program} [Fast P] [Ab P] [AbOk P] (hn : NoGos P) {call : Caller} (hcall : CallerOk P call) {ops : List Oper} {S : Held} {n0 : Nat} (hS0 : S.wf n0) {β0 β : Bl} {fr : Frm} {s : St} {r : Rw} (ok : RwOk ops r) {v : SV} (h : calmV P call fr s r = some v)
    {a : Act} (hf : FrIs s.n β fr a.tmps) (hπ : facts s.pi) (hwf : hwf s.n s.H) (hB : heldB s.H S = true) (hag : Ag n0 β0 β) {R : HProp} {w00 : World} :
    CalmAt P ops.toArray r.o (v.den β) a (Reg S β0 R w00 β s.H) ∧ v.wf s.n ∧ v.isTop = false := by
  unfold calmV at h
  rw [ok.gs, gdP_eq] at h
  split at h
  · rename_i hg
    split at h
    · rename_i v' s' he
      rw [Bool.cond_eq_ite] at h
      split at h
      · rename_i hs
        have hs := stEq_eq hs
        subst hs
        rw [Bool.cond_eq_ite] at h
        split at h
        · rename_i hv
          simp only [Option.some.injEq] at h
          subst h
          refine ⟨.inl ⟨(gd_spec hπ hf (ops := ops) (o := r.o)).1 hg, fun w hw => ?_⟩, svB_ok hv⟩
          have hl : (evOp P call r.o fr s').Leads (fun β' q => β' = β ∧ q = (v', s')) β := by rw [he]; exact ⟨rfl, rfl⟩
          refine evOp_gives hn hcall hl hf ⟨hπ, hwf, hw.1⟩ fun β' u s'' w' k1 k2 k3 k4 => ?_
          obtain ⟨rfl, e⟩ := k1
          cases e
          exact ⟨rfl, k4.at_.hold, (heldS_ext hS0 hag).1 (heldB_ok k4.at_.hold S hB), hw.2.2.trans k4.st⟩
        · cases h
      · cases h
    · cases h
  · cases h
theorem keepD_ok {P : Program} [Fast P] [Ab P] [AbOk P] (hn : NoGos P) {call : Caller} (hcall : CallerOk P call) {ops : List Oper} {S : Held} {n0 : Nat} (hS0 : S.wf n0) {β0 β : Bl} {fr : Frm} {s : St}
    {a : Act} (hf : FrIs s.n β fr a.tmps) (hπ : facts s.pi) (hwf : hwf s.n s.H) (hB : heldB s.H S = true) (hag : Ag n0 β0 β) {R : HProp} {w00 : World} :
    ∀ {D : Prom}, keepD P call fr s D = true → (∀ d ∈ D, RwOk ops d.1) → ∀ d ∈ D, CalmAt P ops.toArray d.1.o (d.2.den β) a (Reg S β0 R w00 β s.H)
  | [], _, _, d, hd => by cases hd
  | (o, v) :: r, h, hok, d, hd => by
    unfold keepD at h
    split at h
    · rename_i u hu
      rw [Bool.cond_eq_ite] at h
      split at h
      · rename_i he
        have he := svEq_eq he
        subst he
        rcases List.mem_cons.1 hd with rfl | hd
        · exact (calmV_ok hn hcall hS0 (hok _ (List.mem_cons_self ..)) hu hf hπ hwf hB hag).1
        · exact keepD_ok hn hcall hS0 hf hπ hwf hB hag h (fun d hd => hok d (List.mem_cons_of_mem _ hd)) d hd
      · cases h
    · cases h
theorem noLooks_ok {ops : List Oper} {i : Nat} {o : Oper} (hi : ops.toArray[i]? = some o) : ∀ {D : Prom}, noLooks i D = true → (∀ d ∈ D, RwOk ops d.1) → ∀ e ∈ D, ∀ d, o.dst = some d → d ∉ e.1.o.looksAt ops.toArray
  | [], _, _, e, he => by cases he
  | (p, v) :: r, h, hok, e, he => by
    unfold noLooks at h
    rw [Bool.cond_eq_ite] at h
    split at h
    · cases h
    · rename_i h1
      rw [tb_eq] at h1
      rcases List.mem_cons.1 he with rfl | he
      · exact (hok _ (List.mem_cons_self ..)).look i o hi (by simpa using h1)
      · exact noLooks_ok hi h (fun d hd => hok d (List.mem_cons_of_mem _ hd)) e he
theorem pickC_ok {P : Program} [Fast P] [Ab P] {call : Caller} {m : Nat} {fr : Frm} {s : St} : ∀ {l : List Rw} {r : Rw} {v : SV}, pickC P call m fr s l = some (r, v) →
    r ∈ l ∧ calmV P call fr s r = some v ∧ sub m r.conf = true ∧ sub m r.look = true
  | [], _, _, h => by cases h
  | x :: t, r, v, h => by
    unfold pickC at h
    rw [Bool.cond_eq_ite] at h
    split at h
    · rename_i hc
      rw [Bool.and_eq_true] at hc
      split at h
      · rename_i v' hv
        cases h
        exact ⟨List.mem_cons_self .., hv, hc.2, hc.1⟩
      · obtain ⟨a1, a2⟩ := pickC_ok h; exact ⟨List.mem_cons_of_mem _ a1, a2⟩
    · obtain ⟨a1, a2⟩ := pickC_ok h; exact ⟨List.mem_cons_of_mem _ a1, a2⟩
theorem pickO_ok {P : Program} [Fast P] [Ab P] {fr : Frm} {s : St} : ∀ {l : List Rw} {nm : Nat} {o : SO}, pickO P fr s l = some (nm, o) → ∃ t x v, openV P t s.H s.n x = some (nm, o, v)
  | [], _, _, h => by cases h
  | j :: r, nm, o, h => by
    unfold pickO at h
    split at h
    · split at h
      · split at h
        · exact pickO_ok h
        · split at h
          · rename_i hv
            cases h
            exact ⟨_, _, _, hv⟩
          · exact pickO_ok h
      · exact pickO_ok h
    · exact pickO_ok h
theorem AnyA.at_ {P : Program} {md : Region.Mode} {ops : Array Oper} {Q : Exit → Act → World → Prop} {S : World → Prop} {D : List (Oper × Value)} {A : World → Prop} {l : Array Bool} {a : Act} : ∀ {F : Nat}, Region.ready md ops l ≠ [] → (∀ w, A w → ∃ A' : World → Prop, A' w ∧ AnyA P md ops Q S D (F + 1) l a A') → AnyA P md ops Q S D (F + 1) l a A := by
  intro F hne h
  refine ⟨fun hr => absurd hr hne, fun j hj w hw => ?_⟩
  obtain ⟨A', h1, h2⟩ := h w hw
  exact h2.2 j hj w h1
theorem evAny_ok {P : Program} [Fast P] [Ab P] [AbOk P] (hn : NoGos P) {call : Caller} (hcall : CallerOk P call) {ops : List Oper} {S : Held} {n0 : Nat} (hS0 : S.wf n0) {β0 : Bl} (hns : Region.noSelect ops.toArray = true) {L : Bl → Frm × St → Prop} {R : HProp}
    {Q : Exit → Act → World → Prop} (hQ : ∀ c a a' w, Q (.panic c) a w → Q (.panic c) a' w) {w00 : World} :
    ∀ (g F m : Nat) (listed : Array Bool) (fr : Frm) (s : St) (β : Bl) (a : Act) (D : Prom), (evAny P call (mkRows ops) S D g F m fr s).Leads L β → LM ops.length m listed → FrIs s.n β fr a.tmps → a.defers = [] → facts s.pi → hwf s.n s.H → heldB s.H S = true → n0 ≤ s.n → Ag n0 β0 β →
      (∀ d ∈ D, CalmAt P ops.toArray d.1.o (d.2.den β) a (Reg S β0 R w00 β s.H)) → (∀ d ∈ D, d.2.wf s.n) → (∀ d ∈ D, RwOk ops d.1) →
      (∀ β' fr' s' a' w', L β' (fr', s') → FrIs s'.n β' fr' a'.tmps → a'.defers = [] → Ag s.n β β' → s.n ≤ s'.n → At β' s' w' R → Strm w00 w' → Q .normal a' w') →
      AnyA P .any ops.toArray Q (heldS S β0) (D.map fun d => (d.1.o, d.2.den β)) F listed a (Reg S β0 R w00 β s.H)
  | 0, F, m, listed, fr, s, β, a, D, hl, hm, hf, hd, hπ, hwf, hB, hn0, hag, hD, hDw, hDo, hk => hl.elim
  | g + 1, F, m, listed, fr, s, β, a, D, hl, hm, hf, hd, hπ, hwf, hB, hn0, hag, hD, hDw, hDo, hk => by
    have hsel := Region.noSelect_spec hns
    have hDs : ∀ e ∈ D.map (fun d => (d.1.o, d.2.den β)), ∀ cs b, e.1.op ≠ .select cs b := by
      intro e he cs b
      obtain ⟨d, hd', rfl⟩ := List.mem_map.1 he
      exact hsel _ _ cs b (hDo d hd').o
    have hDm : ∀ {i : Nat} {o : Oper}, ops.toArray[i]? = some o → noLooks i D = true → ∀ e ∈ D.map (fun d => (d.1.o, d.2.den β)), ∀ x, o.dst = some x → x ∉ e.1.looksAt ops.toArray := by
      intro i o hi h e he
      obtain ⟨d, hd', rfl⟩ := List.mem_map.1 he
      exact noLooks_ok hi h hDo d hd'
    have hDc : ∀ e ∈ D.map (fun d => (d.1.o, d.2.den β)), CalmAt P ops.toArray e.1 e.2 a (Reg S β0 R w00 β s.H) := by
      intro e he
      obtain ⟨d, hd', rfl⟩ := List.mem_map.1 he
      exact hD d hd'
    have hAS : ∀ w, Reg S β0 R w00 β s.H w → heldS S β0 w := fun w h => h.2.1
    have hlt : ∀ {r : Rw}, RwOk ops r → r.i < ops.length := fun ok => by
      have := (Array.getElem?_eq_some_iff.1 ok.o).1
      simpa using this
    unfold evAny at hl
    split at hl
    · rename_i hr
      have hr' : Region.ready .any ops.toArray listed = [] := by
        cases h : Region.ready .any ops.toArray listed with
        | nil => rfl
        | cons j t =>
          obtain ⟨r, h1, _⟩ := ready_has hm (i := j) (by rw [h]; exact List.mem_cons_self ..)
          rw [hr] at h1
          cases h1
      exact AnyA.done hr' (fun w hw => hk β fr s a w hl hf hd (Ag.refl _ _) (Nat.le_refl _) ⟨hπ, hwf, hw.1⟩ hw.2.2) F
    · rename_i r0 rs hr
      have hne : Region.ready .any ops.toArray listed ≠ [] := by
        intro h
        have := ready_of hm (r := r0) (by rw [hr]; exact List.mem_cons_self ..)
        rw [h] at this
        cases this
      have hmem : ∀ {r : Rw}, r ∈ r0 :: rs → RwOk ops r ∧ r.i ∈ Region.ready .any ops.toArray listed ∧ m.testBit r.i = false := fun {r} h => by
        rw [← hr] at h
        have h' := readyR_iff.1 h
        exact ⟨mkRows_ok h'.1, ready_of hm h, h'.2.1⟩
      cases F with
      | zero => exact hl.elim
      | succ F =>
        simp only at hl
        split at hl
        · rename_i r ps v hq
          rw [Bool.cond_eq_ite] at hl
          split at hl
          · rename_i hnl
            obtain ⟨h1, h2⟩ := needs_leads hπ hl
            rw [frcV_eq, putK_eq, frcN_eq] at h2
            obtain ⟨p1, p3, p4⟩ := pickQ_ok hq
            obtain ⟨ok, hri, _⟩ := hmem p1
            rw [quietR_eq ok] at p3
            obtain ⟨q1, q2⟩ := quiet_wf hf (fun x hx => ⟨Nat.lt_of_lt_of_le (hS0 x hx).1 hn0, SC.wf_mono hn0 (hS0 x hx).2⟩) p3
            refine anyA_quiet (v := v.den β) ok.o hsel (fun c a w h => hQ c _ _ w h) (hDm ok.o hnl) hDs F listed a _ (free_of hm ok p4) hri (quiet_ok hπ hf (fun w hh => (heldS_ext hS0 hag).2 hh) p3 h1) hDc hAS ?_
            refine evAny_ok hn hcall hS0 hns hQ g F _ _ _ s β _ D h2 (hm.set (hlt ok)) (hf.put r.o.dst q1 (.inr rfl)) (by rw [put_defers]; exact hd) hπ hwf hB hn0 hag (fun d hd' => ?_) hDw hDo hk
            exact (hD d hd').put (hDs _ (List.mem_map.2 ⟨d, hd', rfl⟩)) (noLooks_ok ok.o hnl hDo d hd')
          · exact hl.elim
        · split at hl
          · rename_i nm o hq
            rw [frcN_eq, frcO_eq, frcH_eq] at hl
            obtain ⟨t, x, v, ho⟩ := pickO_ok hq
            refine AnyA.at_ hne fun w hw => ?_
            obtain ⟨wb, _, h2, _, _, h5⟩ := run_openV ho hw.1 hwf (fun wb => upd_ag β s.n wb)
            have h6 := hl wb
            rw [Bool.cond_eq_ite] at h6
            split at h6
            · rename_i hc
              rw [Bool.and_eq_true] at hc
              have hf' : FrIs (s.n + 1) (upd β s.n wb) fr a.tmps := hf.mono (Nat.le_succ _) (upd_ag _ _ _)
              have ag' : Ag n0 β0 (upd β s.n wb) := hag.trans (upd_ag β s.n wb) hn0
              have eD : (D.map fun d => (d.1.o, d.2.den β)) = D.map fun d => (d.1.o, d.2.den (upd β s.n wb)) := List.map_congr_left fun d hd' => by rw [SV.ext (upd_ag β s.n wb) (hDw d hd')]
              refine ⟨Reg S β0 R w00 (upd β s.n wb) (put s.H nm o), ⟨h2, hw.2.1, hw.2.2⟩, ?_⟩
              rw [eD]
              exact evAny_ok hn hcall hS0 hns hQ g (F + 1) m listed fr ⟨s.pi, put s.H nm o, s.n + 1⟩ (upd β s.n wb) a D h6 hm hf' hd hπ h5 hc.1 (Nat.le_succ_of_le hn0) ag' (keepD_ok (s := ⟨s.pi, put s.H nm o, s.n + 1⟩) hn hcall hS0 hf' hπ h5 hc.1 ag' hc.2 hDo) (fun d hd' => SV.wf_mono (Nat.le_succ _) (hDw d hd')) hDo
                fun β' fr' s' a' w' j1 j2 j3 j4 j5 j6 j7 => hk β' fr' s' a' w' j1 j2 j3 ((upd_ag β s.n wb).trans j4 (Nat.le_succ _)) (Nat.le_trans (Nat.le_succ _) j5) j6 j7
            · exact h6.elim
          · split at hl
            · rename_i c hc
              obtain ⟨π', h1, h2⟩ := br_leads hl hπ
              exact evAny_ok hn hcall hS0 hns hQ g (F + 1) m listed fr ⟨π', s.H, s.n⟩ β a D h2 hm hf hd h1 hwf hB hn0 hag hD hDw hDo hk
            · have hAll : (allT (r0 :: rs) fun r =>
                  match gdP s.pi fr r.gs with
                  | .yes => (evOp P call r.o fr s).bind fun q => match q with
                    | (v, s') => bif heldB s'.H S then frcV v fun v => putK fr r.o.dst v fun fr => bif keepD P call fr s' D then frcN (Nat.lor m (bit r.i)) fun m => evAny P call (mkRows ops) S D g F m fr s' else .fail 31 else .fail 26
                  | _ => .fail 27).Leads L β → AnyA P .any ops.toArray Q (heldS S β0) (D.map fun d => (d.1.o, d.2.den β)) (F + 1) listed a (Reg S β0 R w00 β s.H) := by
                intro hl
                refine anyA_all rfl hne fun i hi w hw => ?_
                obtain ⟨r, hr1, rfl⟩ := ready_has hm hi
                rw [hr] at hr1
                obtain ⟨ok, _, _⟩ := hmem hr1
                have hl' := allT_leads hl r hr1
                rw [ok.gs, gdP_eq] at hl'
                split at hl'
                · rename_i hg
                  unfold wpOp
                  simp only [ok.o]
                  rw [if_pos ((gd_spec hπ hf (ops := ops) (o := r.o)).1 hg)]
                  left
                  refine evOp_ok hn hcall (bind_leads hl') hf ⟨hπ, hwf, hw.1⟩ fun β' v s' w' k1 k2 k3 k4 => ?_
                  simp only at k1
                  rw [Bool.cond_eq_ite] at k1
                  split at k1
                  · rename_i hB'
                    rw [frcV_eq, putK_eq, Bool.cond_eq_ite] at k1
                    split at k1
                    · rename_i hkd
                      rw [frcN_eq] at k1
                      have ag' : Ag n0 β0 β' := hag.trans k4.ag hn0
                      have hS' := (heldS_ext hS0 ag').1 (heldB_ok k4.at_.hold S hB')
                      have hf' : FrIs s'.n β' (fput fr r.o.dst v) (a.put r.o.dst (v.den β')).tmps := (hf.mono k4.n k4.ag).put r.o.dst k2 (.inr rfl)
                      have eD : (D.map fun d => (d.1.o, d.2.den β)) = D.map fun d => (d.1.o, d.2.den β') := List.map_congr_left fun d hd' => by rw [SV.ext k4.ag (hDw d hd')]
                      have hcD := keepD_ok (R := R) (w00 := w00) hn hcall hS0 hf' k4.at_.pi k4.at_.wf hB' ag' hkd hDo
                      refine ⟨Reg S β0 R w00 β' s'.H, ⟨k4.at_.hold, hS', hw.2.2.trans k4.st⟩, fun w h => h.2.1, ?_, ?_⟩
                      · intro e he
                        rw [eD] at he
                        obtain ⟨d, hd', rfl⟩ := List.mem_map.1 he
                        exact hcD d hd'
                      · rw [eD]
                        exact evAny_ok hn hcall hS0 hns hQ g F _ _ _ s' β' _ D k1 (hm.set (hlt ok)) hf' (by rw [put_defers]; exact hd) k4.at_.pi k4.at_.wf hB' (Nat.le_trans hn0 k4.n) ag' hcD (fun d hd' => SV.wf_mono k4.n (hDw d hd')) hDo
                          fun β'' fr' s'' a' w'' j1 j2 j3 j4 j5 j6 j7 => hk β'' fr' s'' a' w'' j1 j2 j3 (k4.ag.trans j4 k4.n) (Nat.le_trans k4.n j5) j6 j7
                    · exact k1.elim
                  · exact k1.elim
                · exact hl'.elim
              split at hl
              · rename_i r v hq
                have hq : pickC P call m fr s (r0 :: rs) = some (r, v) := by
                  rw [Bool.cond_eq_ite] at hq
                  split at hq
                  · cases hq
                  · exact hq
                rcases altT_leads hl with hl | hl
                case inr => exact hAll hl
                rw [Bool.cond_eq_ite] at hl
                split at hl
                · rename_i hnl
                  rw [frcV_eq, putK_eq, frcN_eq] at hl
                  obtain ⟨p1, p3, p4, p5⟩ := pickC_ok hq
                  obtain ⟨ok, hri, hun⟩ := hmem p1
                  obtain ⟨c1, c2, c3⟩ := calmV_ok (R := R) (w00 := w00) hn hcall hS0 ok p3 hf hπ hwf hB hag
                  have hself := stab_of hm ok p5 ok.o hun
                  refine anyA_take (v := v.den β) ok.o hsel (fun c a w h => hQ c _ _ w h) hself (hDm ok.o hnl) hDs F listed a _ (free_of hm ok p4) hri c1 hDc hAS ?_
                  refine evAny_ok hn hcall hS0 hns hQ g F _ _ _ s β _ ((r, v) :: D) hl (hm.set (hlt ok)) (hf.put r.o.dst c2 (.inr rfl)) (by rw [put_defers]; exact hd) hπ hwf hB hn0 hag (fun d hd' => ?_) (fun d hd' => ?_) (fun d hd' => ?_) hk
                  · rcases List.mem_cons.1 hd' with rfl | hd'
                    · exact c1.put (fun cs b => hsel _ _ cs b ok.o) hself
                    · exact (hD d hd').put (hDs _ (List.mem_map.2 ⟨d, hd', rfl⟩)) (noLooks_ok ok.o hnl hDo d hd')
                  · rcases List.mem_cons.1 hd' with rfl | hd'
                    · exact c2
                    · exact hDw d hd'
                  · rcases List.mem_cons.1 hd' with rfl | hd'
                    · exact ok
                    · exact hDo d hd'
                · exact hl.elim
              · exact hAll hl
end
/-! ### the cells that a region's loads read and that none of its stores writes -/
def keepable : SC → Bool
  | .raw _ => false
  | _ => true
section
variable [Interp] [Rules]
def gather (P : Program) [Fast P] (π : Pi) (ops : List Oper) (H : SH) : List Oper → Frm → Held → List (Nat × Nat × Nat) → Held × List (Nat × Nat × Nat)
  | [], _, S, W => (S, W)
  | o :: rest, fr, S, W =>
    match gd π ops fr o.guard with
    | .no => putK fr o.dst .un fun fr => gather P π ops H rest fr S W
    | .bad => putK fr o.dst .top fun fr => gather P π ops H rest fr S W
    | _ =>
      match pureOp P π fr o with
      | some (_, v) => frcV v fun v => putK fr o.dst v fun fr => gather P π ops H rest fr S W
      | none =>
        match o.op with
        | .load t x =>
          match opnd fr x with
          | .a (.one (.ptr nm off)) =>
            match find H nm with
            | some (.cells l _) =>
              match loadC P t l off, tySize P t with
              | some v, some n => frcV v fun v => putK fr o.dst v fun fr => gather P π ops H rest fr (((l.drop off).take n).zipIdx.map (fun p => (nm, off + p.2, p.1)) ++ S) W
              | _, _ => putK fr o.dst .top fun fr => gather P π ops H rest fr S W
            | _ => putK fr o.dst .top fun fr => gather P π ops H rest fr S W
          | _ => putK fr o.dst .top fun fr => gather P π ops H rest fr S W
        | .store t x _ =>
          match opnd fr x, tySize P t with
          | .a (.one (.ptr nm off)), some n => gather P π ops H rest fr S ((nm, off, n) :: W)
          | _, _ => gather P π ops H rest fr S W
        | _ => putK fr o.dst .top fun fr => gather P π ops H rest fr S W
def struck (W : List (Nat × Nat × Nat)) (nm off : Nat) : Bool := W.any fun q => Nat.beq q.1 nm && (Nat.ble q.2.1 off && Nat.blt off (q.2.1 + q.2.2))
def frcHeld {R : Type} : Held → (Held → R) → R
  | [], k => k []
  | (nm, off, c) :: r, k => frcN off fun off => frcHeld r fun r => k ((nm, off, c) :: r)
theorem frcHeld_eq {R : Type} : ∀ (S : Held) (k : Held → R), frcHeld S k = k S
  | [], k => rfl
  | (nm, off, c) :: r, k => by unfold frcHeld; rw [frcN_eq, frcHeld_eq r]
def gathered (P : Program) [Fast P] (π : Pi) (ops : List Oper) (fr : Frm) (H : SH) : Held :=
  let r := gather P π ops H ops fr [] []
  r.1.filter fun x => keepable x.2.2 && (!struck r.2 x.1 x.2.1 && heldB H [x])
variable [Vars]
theorem gathered_wf {P : Program} [Fast P] {π : Pi} {ops : List Oper} {fr : Frm} {H : SH} {n : Nat} (hH : hwf n H) : (gathered P π ops fr H).wf n := by
  intro x hx
  have h := (List.mem_filter.1 hx).2
  rw [Bool.and_eq_true, Bool.and_eq_true] at h
  obtain ⟨nm, off, c⟩ := x
  have h3 := h.2.2
  unfold heldB at h3
  split at h3
  · rename_i l T hf
    split at h3
    · rename_i c' hl
      rw [Bool.cond_eq_ite] at h3
      split at h3
      · rename_i hc
        have e := SC.beq_eq hc
        subst e
        have := hH _ (find_mem hf)
        exact ⟨this.1, this.2 _ (List.mem_of_getElem? hl)⟩
      · cases h3
    · cases h3
  · cases h3
theorem gathered_held {P : Program} [Fast P] {π : Pi} {ops : List Oper} {fr : Frm} {β : Bl} {H : SH} {w : World} {R : HProp} (hw : Holds w (hden β H * R)) : heldS (gathered P π ops fr H) β w := by
  intro x hx
  have h := (List.mem_filter.1 hx).2
  rw [Bool.and_eq_true, Bool.and_eq_true] at h
  exact heldB_ok hw [x] h.2.2 x (List.mem_singleton.2 rfl)
end
end Go.Proofs.Ytmmpnjcmaodkcaa.Ef
/- What is proved: two states of two ways as one, by the truth that parts them. Conditions: stated with each lemma. -/
namespace Go.Proofs.Ytmmpnjcmaodkcaa.Ef
open Go Go.Proofs.Ytmmpnjcmaodkcaa.Sep
open Go.Proofs.Ytmmpnjcmaodkcaa.Ev (Fast tyAgg tySize run_underlying' run_isAgg' run_sizeOf' run_zeroValue')
set_option linter.unusedVariables false
set_option linter.unusedSimpArgs false
set_option linter.unusedSectionVars false
def mkSel (c x y : Tm) : Tm := bif Tm.beq x y then x else .a2 .sel c (.a2 .pair x y)
def mrgC (c : Tm) (x y : SC) : Option SC :=
  bif SC.beq x y then some x else
  match x, y with
  | .int k t, .int j u => bif sameK k j then some (.int k (mkSel c t u)) else none
  | .bool t, .bool u => some (.bool (mkSel c t u))
  | _, _ => none
def mrgCs (c : Tm) : List SC → List SC → Option (List SC)
  | [], [] => some []
  | x :: r, y :: s =>
    match mrgC c x y, mrgCs c r s with
    | some z, some t => some (z :: t)
    | _, _ => none
  | _, _ => none
def mrgV (c : Tm) (x y : SV) : SV :=
  match x, y with
  | .a (.one x), .a (.one y) => match mrgC c x y with
    | some z => .c z
    | none => .top
  | .a (.agg x), .a (.agg y) => match mrgCs c x y with
    | some z => .a (.agg z)
    | none => .top
  | .tup [], .tup [] => .tup []
  | _, _ => .top
def mrgF (c : Tm) : Fr → Fr → Option Fr
  | .n x l r, .n y l' r' =>
    match mrgF c l l', mrgF c r r' with
    | some p, some q => some (.n (mrgV c x y) p q)
    | _, _ => none
  | .e, .e => some .e
  | _, _ => none
def nsBeq : List Nat → List Nat → Bool
  | [], [] => true
  | a :: r, b :: s => bif Nat.beq a b then nsBeq r s else false
  | _, _ => false
theorem nsBeq_eq : ∀ {r s : List Nat}, nsBeq r s = true → r = s
  | [], [], _ => rfl
  | [], _ :: _, h => by cases h
  | _ :: _, [], h => by cases h
  | a :: r, b :: s, h => by
    unfold nsBeq at h
    rw [Bool.cond_eq_ite] at h
    split at h
    · rename_i hc; rw [Nat.eq_of_beq_eq_true hc, nsBeq_eq h]
    · cases h
def mrgO (c : Tm) (x y : SO) : Option SO :=
  match x, y with
  | .cells l T, .cells m U => bif Nat.beq T U then match mrgCs c l m with
    | some z => some (.cells z T)
    | none => none else none
  | .abs k x ns, .abs j y ms => bif Nat.beq k j && nsBeq ns ms then some (.abs k (mkSel c x y) ns) else none
  | _, _ => none
def mrgH (c : Tm) : SH → SH → Option SH
  | [], [] => some []
  | (n, x) :: r, (m, y) :: s =>
    bif Nat.beq n m then
      match mrgO c x y, mrgH c r s with
      | some z, some t => some ((n, z) :: t)
      | _, _ => none
    else none
  | _, _ => none
theorem mrgC_wf {c : Tm} {x y z : SC} (h : mrgC c x y = some z) {n : Nat} (hx : x.wf n ∨ y.wf n) : z.wf n := by
  unfold mrgC at h
  rw [Bool.cond_eq_ite] at h
  split at h
  · rename_i hb
    simp at h; subst h
    rcases hx with hx | hx
    · exact hx
    · rw [SC.beq_eq hb]; exact hx
  · split at h
    · rw [Bool.cond_eq_ite] at h
      split at h
      · simp at h; subst h; trivial
      · cases h
    · simp at h; subst h; trivial
    · cases h
theorem lwf_tail {n : Nat} {a : SC} {r : List SC} (h : lwf n (a :: r)) : lwf n r := fun e he => h e (List.mem_cons_of_mem _ he)
theorem mrgCs_wf {c : Tm} {n : Nat} : ∀ {x y z : List SC}, mrgCs c x y = some z → (lwf n x ∨ lwf n y) → lwf n z
  | [], [], z, h, hx => by simp [mrgCs] at h; subst h; intro c hc; cases hc
  | [], _ :: _, z, h, hx => by cases h
  | _ :: _, [], z, h, hx => by cases h
  | a :: r, b :: s, z, h, hx => by
    unfold mrgCs at h
    split at h
    · rename_i u v h1 h2
      simp at h; subst h
      intro d hd
      rcases List.mem_cons.1 hd with rfl | hd
      · exact mrgC_wf h1 (hx.imp (fun hx => hx _ (List.mem_cons_self ..)) (fun hx => hx _ (List.mem_cons_self ..)))
      · exact mrgCs_wf h2 (hx.imp lwf_tail lwf_tail) d hd
    · cases h
theorem mrgV_wf (c : Tm) {x y : SV} {n : Nat} (hx : x.wf n ∨ y.wf n) : (mrgV c x y).wf n := by
  unfold mrgV
  split
  · split
    · rename_i h; exact mrgC_wf h hx
    · trivial
  · split
    · rename_i h; exact mrgCs_wf h hx
    · trivial
  · intro x hx; cases hx
  · trivial
theorem mrgO_wf {c : Tm} {n : Nat} {x y z : SO} (h1 : mrgO c x y = some z) (ha : x.wf n ∨ y.wf n) : z.wf n := by
  unfold mrgO at h1
  split at h1
  · rw [Bool.cond_eq_ite] at h1
    split at h1
    · split at h1
      · rename_i hz; simp at h1; subst h1; exact mrgCs_wf hz ha
      · cases h1
    · cases h1
  · rw [Bool.cond_eq_ite] at h1
    split at h1
    · rename_i hk
      rw [Bool.and_eq_true] at hk
      simp at h1; subst h1
      rcases ha with ha | ha
      · exact ha
      · rw [nsBeq_eq hk.2]; exact ha
    · cases h1
  · cases h1
theorem hwf_tail {n : Nat} {a : Nat × SO} {r : SH} (h : hwf n (a :: r)) : hwf n r := fun e he => h e (List.mem_cons_of_mem _ he)
theorem mrgH_wf {c : Tm} {n : Nat} : ∀ {x y z : SH}, mrgH c x y = some z → (hwf n x ∨ hwf n y) → hwf n z
  | [], [], z, h, hx => by simp [mrgH] at h; subst h; intro c hc; cases hc
  | [], _ :: _, z, h, hx => by cases h
  | _ :: _, [], z, h, hx => by cases h
  | (k, a) :: r, (m, b) :: s, z, h, hx => by
    unfold mrgH at h
    rw [Bool.cond_eq_ite] at h
    split at h
    · rename_i hn
      split at h
      · rename_i u v h1 h2
        simp at h; subst h
        intro q hq
        rcases List.mem_cons.1 hq with rfl | hq
        · refine ⟨?_, mrgO_wf h1 (hx.imp (fun hx => (hx _ (List.mem_cons_self ..)).2) (fun hx => (hx _ (List.mem_cons_self ..)).2))⟩
          rcases hx with hx | hx
          · exact (hx _ (List.mem_cons_self ..)).1
          · rw [Nat.eq_of_beq_eq_true hn]; exact (hx _ (List.mem_cons_self ..)).1
        · exact mrgH_wf h2 (hx.imp hwf_tail hwf_tail) q hq
      · cases h
    · cases h
section
variable [Interp] [Vars]
theorem mkSel_den (c x y : Tm) : (mkSel c x y).den = bif c.tv then x.den else y.den := by
  unfold mkSel
  rw [Bool.cond_eq_ite]
  split
  · rename_i h; rw [Tm.beq_eq h]; cases c.tv <;> rfl
  · rfl
/-- What was merged is, by the truth, the one or the other. -/
theorem mrgC_den {c : Tm} {x y z : SC} (h : mrgC c x y = some z) (β : Bl) : z.den β = bif c.tv then x.den β else y.den β := by
  unfold mrgC at h
  rw [Bool.cond_eq_ite] at h
  split at h
  · rename_i hb
    simp at h; subst h
    rw [SC.beq_eq hb]; cases c.tv <;> rfl
  · split at h
    · rename_i k t j u _
      rw [Bool.cond_eq_ite] at h
      split at h
      · rename_i hk
        have := kCode_inj hk
        subst this
        simp at h; subst h
        simp only [SC.den, Tm.v, mkSel_den]
        cases c.tv <;> rfl
      · cases h
    · simp at h; subst h
      simp only [SC.den]
      rw [show ∀ t : Tm, t.tv = t.den.bool from fun _ => rfl, mkSel_den]
      cases c.tv <;> rfl
    · cases h
theorem mrgCs_den {c : Tm} (β : Bl) : ∀ {x y z : List SC}, mrgCs c x y = some z → z.map (SC.den β) = bif c.tv then x.map (SC.den β) else y.map (SC.den β)
  | [], [], z, h => by simp [mrgCs] at h; subst h; cases c.tv <;> rfl
  | [], _ :: _, z, h => by cases h
  | _ :: _, [], z, h => by cases h
  | a :: r, b :: s, z, h => by
    unfold mrgCs at h
    split at h
    · rename_i u v h1 h2
      simp at h; subst h
      simp only [List.map_cons, mrgC_den h1 β, mrgCs_den β h2]
      cases c.tv <;> rfl
    · cases h
theorem mrgV_den (c : Tm) (x y : SV) (β : Bl) (ht : (mrgV c x y).isTop = false) : (mrgV c x y).den β = (bif c.tv then x.den β else y.den β) ∧ x.isTop = false ∧ y.isTop = false := by
  unfold mrgV at ht ⊢
  split at ht
  · split at ht
    · rename_i h; exact ⟨mrgC_den h β, rfl, rfl⟩
    · cases ht
  · split at ht
    · rename_i h
      refine ⟨?_, rfl, rfl⟩
      simp only [SV.den, SA.den, dens, mrgCs_den β h]
      cases c.tv <;> rfl
    · cases ht
  · refine ⟨?_, rfl, rfl⟩
    cases c.tv <;> rfl
  · cases ht
theorem mrgO_den {c : Tm} {x y z : SO} (h : mrgO c x y = some z) (β : Bl) (b : Nat) : z.den β b = bif c.tv then x.den β b else y.den β b := by
  unfold mrgO at h
  split at h
  · rw [Bool.cond_eq_ite] at h
    split at h
    · rename_i hT
      split at h
      · rename_i hz
        simp at h; subst h
        simp only [SO.den, dens, mrgCs_den β hz, Nat.eq_of_beq_eq_true hT]
        cases c.tv <;> rfl
      · cases h
    · cases h
  · rw [Bool.cond_eq_ite] at h
    split at h
    · rename_i hk
      rw [Bool.and_eq_true] at hk
      simp at h; subst h
      simp only [SO.den, mkSel_den, Nat.eq_of_beq_eq_true hk.1, nsBeq_eq hk.2]
      cases c.tv <;> rfl
    · cases h
  · cases h
theorem mrgH_den {c : Tm} (β : Bl) : ∀ {x y z : SH}, mrgH c x y = some z → hden β z = bif c.tv then hden β x else hden β y
  | [], [], z, h => by simp [mrgH] at h; subst h; cases c.tv <;> rfl
  | [], _ :: _, z, h => by cases h
  | _ :: _, [], z, h => by cases h
  | (k, a) :: r, (m, b) :: s, z, h => by
    unfold mrgH at h
    rw [Bool.cond_eq_ite] at h
    split at h
    · rename_i hn
      split at h
      · rename_i u v h1 h2
        simp at h; subst h
        unfold hden
        rw [mrgO_den h1 β, mrgH_den β h2, Nat.eq_of_beq_eq_true hn]
        cases c.tv <;> rfl
      · cases h
    · cases h
theorem mrgF_some {c : Tm} {x y : SV} {l r l' r' z : Fr} (h : mrgF c (.n x l r) (.n y l' r') = some z) : ∃ p q, mrgF c l l' = some p ∧ mrgF c r r' = some q ∧ z = .n (mrgV c x y) p q := by
  unfold mrgF at h
  split at h
  · rename_i p q h1 h2; simp at h; exact ⟨p, q, h1, h2, h.symm⟩
  · cases h
theorem mrgF_get {c : Tm} : ∀ {f g z : Fr}, mrgF c f g = some z → ∀ i, z.get i = mrgV c (f.get i) (g.get i)
  | .e, .e, z, h, i => by simp [mrgF] at h; subst h; rfl
  | .e, .n _ _ _, z, h, i => by cases h
  | .n _ _ _, .e, z, h, i => by cases h
  | .n x l r, .n y l' r', z, h, 0 => by obtain ⟨p, q, h1, h2, rfl⟩ := mrgF_some h; rfl
  | .n x l r, .n y l' r', z, h, j + 1 => by
    obtain ⟨p, q, h1, h2, rfl⟩ := mrgF_some h
    rw [Fr.get_s, Fr.get_s, Fr.get_s]
    cases Nat.beq (j % 2) 0
    · exact mrgF_get h2 _
    · exact mrgF_get h1 _
theorem mrgF_full {c : Tm} : ∀ {D : Nat} {f g z : Fr}, mrgF c f g = some z → (f.Full D ∨ g.Full D) → z.Full D
  | 0, _, _, _, _, _ => trivial
  | D + 1, .e, .e, z, h, k => by rcases k with k | k <;> exact k.elim
  | D + 1, .e, .n _ _ _, z, h, k => by cases h
  | D + 1, .n _ _ _, .e, z, h, k => by cases h
  | D + 1, .n x l r, .n y l' r', z, h, k => by
    obtain ⟨p, q, h1, h2, rfl⟩ := mrgF_some h
    exact ⟨mrgF_full h1 (k.imp (fun k => k.1) (fun k => k.1)), mrgF_full h2 (k.imp (fun k => k.2) (fun k => k.2))⟩
theorem mrgV_un_l (c : Tm) (y : SV) : mrgV c .un y = .un ∨ (mrgV c .un y).isTop = true := by
  cases y with
  | a x => cases x <;> exact .inr rfl
  | tup l => cases l <;> first | exact .inl rfl | exact .inr rfl
  | top => exact .inr rfl
theorem mrgV_un_r (c : Tm) (y : SV) : mrgV c y .un = .un ∨ (mrgV c y .un).isTop = true := by
  cases y with
  | a x => cases x <;> exact .inr rfl
  | tup l => cases l <;> first | exact .inl rfl | exact .inr rfl
  | top => exact .inr rfl
theorem mrgV_top_l (c : Tm) {x : SV} (h : x.isTop = true) (y : SV) : (mrgV c x y).isTop = true := by
  cases x with
  | a x => cases h
  | tup l => cases h
  | top => rfl
theorem mrgV_top_r (c : Tm) {x : SV} (h : x.isTop = true) (y : SV) : (mrgV c y x).isTop = true := by
  cases x with
  | a x => cases h
  | tup l => cases h
  | top =>
    cases y with
    | a z => cases z <;> rfl
    | tup l => cases l <;> rfl
    | top => rfl
/-- The frame of the one that was gone is the merged one's. -/
theorem mrgF_is {c : Tm} {n : Nat} {β : Bl} {f g : Frm} {z : Fr} {a : Array Value} (hz : mrgF c f.t g.t = some z) (hs : g.sz = f.sz) (hf : FrIs n β (bif c.tv then f else g) a) : FrIs n β ⟨f.sz, z⟩ a := by
  have hg := mrgF_get hz
  cases hc : c.tv with
  | true =>
    rw [hc] at hf
    obtain ⟨D, h1, h2⟩ := hf.full
    refine ⟨hf.size, ⟨D, mrgF_full hz (.inl h1), h2⟩, fun i hi => ?_, fun i => ?_, fun i hi ht => ?_⟩
    · rw [show (⟨f.sz, z⟩ : Frm).t = z from rfl, hg i]
      rcases hf.out i hi with e | e
      · rw [show f.t.get i = .un from e]; exact mrgV_un_l c _
      · exact .inr (mrgV_top_l c e _)
    · rw [show (⟨f.sz, z⟩ : Frm).t = z from rfl, hg i]; exact mrgV_wf c (.inl (hf.wf i))
    · rw [show (⟨f.sz, z⟩ : Frm).t = z from rfl, hg i] at ht ⊢
      obtain ⟨e, t1, t2⟩ := mrgV_den c _ _ β ht
      rw [e, hc]
      exact hf.val i hi t1
  | false =>
    rw [hc] at hf
    have hs' : f.sz = g.sz := hs.symm
    obtain ⟨D, h1, h2⟩ := hf.full
    refine ⟨hf.size.trans hs, ⟨D, mrgF_full hz (.inr h1), by show f.sz < _; rw [hs']; exact h2⟩, fun i hi => ?_, fun i => ?_, fun i hi ht => ?_⟩
    · rw [show (⟨f.sz, z⟩ : Frm).t = z from rfl, hg i]
      rcases hf.out i (by show g.sz ≤ i; rw [hs]; exact hi) with e | e
      · rw [show g.t.get i = .un from e]; exact mrgV_un_r c _
      · exact .inr (mrgV_top_r c e _)
    · rw [show (⟨f.sz, z⟩ : Frm).t = z from rfl, hg i]; exact mrgV_wf c (.inr (hf.wf i))
    · rw [show (⟨f.sz, z⟩ : Frm).t = z from rfl, hg i] at ht ⊢
      obtain ⟨e, t1, t2⟩ := mrgV_den c _ _ β ht
      rw [e, hc]
      exact hf.val i (by show i < g.sz; rw [hs]; exact hi) t2
end
end Go.Proofs.Ytmmpnjcmaodkcaa.Ef
/- What is proved: what the second evaluator finds of code and of calls holds of the program. Conditions: the evaluator's own premises. -/
namespace Go.Proofs.Ytmmpnjcmaodkcaa.Ef
open Go Go.Proofs.Ytmmpnjcmaodkcaa.Sep
open Go.Proofs.Ytmmpnjcmaodkcaa.Ev (Fast tyAgg tySize run_underlying' run_isAgg' run_sizeOf' run_zeroValue')
set_option linter.unusedVariables false
set_option linter.unusedSimpArgs false
set_option linter.unusedSectionVars false
abbrev Ex := Exit × Frm × St
abbrev Ctr := Nat → List SV → St → Option Rt
def loopE (body : Frm → St → Tree Ex) : Nat → Frm → St → Tree Ex
  | 0, _, _ => .fail 31
  | m + 1, fr, s => (body fr s).bind fun q => match q with
    | (e, fr, s) => match e with
      | .normal => loopE body m fr s
      | e => .done (e, fr, s)
def merge (π : Pi) (c : Tm) (ta tb : Tree Ex) : Tree Ex :=
  match ta, tb with
  | .done (.normal, fa, sa), .done (.normal, fb, sb) =>
    bif Nat.beq fb.sz fa.sz && Nat.beq sa.n sb.n then
      match mrgF c fa.t fb.t, mrgH c sa.H sb.H with
      | some z, some H => .done (.normal, ⟨fa.sz, z⟩, ⟨π, H, sa.n⟩)
      | _, _ => .ite c (.done (.normal, fa, sa)) (.done (.normal, fb, sb))
    else .ite c (.done (.normal, fa, sa)) (.done (.normal, fb, sb))
  | ta, tb => .ite c ta tb
def toSA : List SV → Option (List SA)
  | [] => some []
  | .a x :: r => match toSA r with
    | some l => some (x :: l)
    | none => none
  | _ => none
def resOf : List SV → Option SV
  | [v] => some v
  | l => match toSA l with
    | some l => some (.tup l)
    | none => none
/-- Two values and heaps as one, by the truth that parts them. -/
def mrgR (π : Pi) (c : Tm) (a b : SV × St) : Option (SV × St) :=
  bif Nat.beq a.2.n b.2.n then
    match mrgV c a.1 b.1, mrgH c a.2.H b.2.H with
    | .top, _ => none
    | v, some H => some (v, ⟨π, H, a.2.n⟩)
    | _, none => none
  else none
def collapse : Pi → Rt → Rt
  | π, .ite c a b =>
    match collapse ((c, true) :: π) a, collapse ((c, false) :: π) b with
    | .done x, .done y => match mrgR π c x y with
      | some z => .done z
      | none => .ite c (.done x) (.done y)
    | a, b => .ite c a b
  | π, .new n t => .new n (collapse π t)
  | _, t => t
section
variable [Interp] [Rules]
def resV (P : Program) [Fast P] [Ab P] (π : Pi) (fr : Frm) (H : SH) : List ResultVar → Option (List Tm × List SV)
  | [] => some ([], [])
  | .tmp t :: r =>
    match fr.get t, resV P π fr H r with
    | .top, _ => none
    | v, some (ps, l) => some (ps, v :: l)
    | _, none => none
  | .cell a t :: r =>
    match loadV P π t H (fr.get a), resV P π fr H r with
    | some (qs, v), some (ps, l) => some (qs ++ ps, v :: l)
    | _, _ => none
def ends (P : Program) [Fast P] [Ab P] (fn : Func) (q : Ex) : Rt :=
  match q with
  | (e, fr, s) =>
    match e with
    | .normal | .ret =>
      match resV P s.pi fr s.H fn.results.toList with
      | some (ps, l) =>
        match resOf l with
        | some v => needs s.pi ps (frcV v fun v => .done (v, s))
        | none => .fail 32
      | none => .fail 33
    | _ => .fail 34
def callIn (P : Program) [Fast P] [Ab P] (ev : Code → Frm → St → Tree Ex) (f : Nat) (args : List SV) (s : St) : Rt :=
  match Fast.func P f with
  | some fn =>
    match fn.body with
    | some c => bif Nat.blt (args.length + (fn.ntmps - args.length)) 4095 then (ev c (Frm.start fn.ntmps args) s).bind (ends P fn) else .fail 35
    | none => .fail 36
  | none => .fail 37
def callBy (P : Program) [Fast P] [Ab P] (Γ : Ctr) (mf : Nat → Bool) (ev : Bool → Code → Frm → St → Tree Ex) : Caller := fun f args s =>
  match Γ f args s with
  | some t => t
  | none => bif mf f then collapse s.pi (callIn P (ev true) f args s) else callIn P (ev false) f args s
def evReg (P : Program) [Fast P] [Ab P] (call : Caller) (ops : List Oper) (draw : Bool) (fr : Frm) (s : St) : Tree (Frm × St) :=
  bif draw then
    (bif Region.noSelect ops.toArray then frcHeld (gathered P s.pi ops fr s.H) fun S => bif heldB s.H S then frcRw (mkRows ops) fun rows => evAny P call rows S [] (6 * ops.length + 8) ops.length 0 fr s else .fail 44 else .fail 38)
  else evList P call ops ops fr s
def evCode (P : Program) [Fast P] [Ab P] (Γ : Ctr) (mf : Nat → Bool) : Nat → Bool → Code → Frm → St → Tree Ex
  | 0, _, _, _, _ => .fail 39
  | g + 1, mg, c, fr, s =>
    match c with
    | .skip => .done (.normal, fr, s)
    | .label _ => .done (.normal, fr, s)
    | .ret => .done (.ret, fr, s)
    | .exit id => .done (.exit id, fr, s)
    | .goto l => .done (.goto l, fr, s)
    | .seq a b => (evCode P Γ mf g mg a fr s).bind fun q => match q with
      | (e, fr, s) => match e with
        | .normal => evCode P Γ mf g mg b fr s
        | e => .done (e, fr, s)
    | .block id c => (evCode P Γ mf g mg c fr s).bind fun q => match q with
      | (e, fr, s) => match e with
        | .exit id' => bif Nat.beq id' id then .done (.normal, fr, s) else .done (.exit id', fr, s)
        | e => .done (e, fr, s)
    | .scope c => (evCode P Γ mf g mg c fr s).bind fun q => match q with
      | (e, fr, s) => match e with
        | .goto l => match findLabel c l with
          | some rest => (evCode P Γ mf g mg rest fr s).bind fun q => match q with
            | (e, fr, s) => match e with
              | .goto _ => .fail 40
              | e => .done (e, fr, s)
          | none => .fail 41
        | e => .done (e, fr, s)
    | .cond x a b =>
      match opnd fr x with
      | .a (.one (.bool c)) =>
        bif mg then
          match dec s.pi c with
          | some t => evCode P Γ mf g mg (bif t then a else b) fr s
          | none => merge s.pi c (evCode P Γ mf g mg a fr ⟨(c, true) :: s.pi, s.H, s.n⟩) (evCode P Γ mf g mg b fr ⟨(c, false) :: s.pi, s.H, s.n⟩)
        else br c s.pi fun π t => evCode P Γ mf g mg (bif t then a else b) fr ⟨π, s.H, s.n⟩
      | _ => .fail 42
    | .loop c => loopE (evCode P Γ mf g mg c) g fr s
    | .region _ ops draw => (evReg P (callBy P Γ mf (evCode P Γ mf g)) ops.toList draw fr s).bind fun q => match q with
      | (fr, s) => .done (.normal, fr, s)
    | _ => .fail 43
/-- **A function, by the evaluator.** -/
def evF (P : Program) [Fast P] [Ab P] (Γ : Ctr) (mf : Nat → Bool) (mg : Bool) (g f : Nat) (args : List SV) (s : St) : Rt := callIn P (evCode P Γ mf g mg) f args s
variable [Vars]
/-- What a table of contracts says holds of the program. -/
def CtrOk (P : Program) (Γ : Ctr) : Prop :=
  ∀ f args s t, Γ f args s = some t → ∀ (L : Bl → SV × St → Prop) β, t.Leads L β → (∀ x ∈ args, x.wf s.n) → (∀ x ∈ args, x.isTop = false) → ∀ (w : World) (R : HProp), At β s w R → ∀ Q : Ending → World → Prop,
    (∀ β' v s' w', L β' (v, s') → v.wf s'.n → v.isTop = false → Out β s w R β' s' w' → Q (.returned (v.den β')) w') → Calls P f (args.map (SV.den β)).toArray w Q
theorem resV_ok {P : Program} [Fast P] [Ab P] [AbOk P] {π : Pi} (hπ : facts π) {n : Nat} {β : Bl} {fr : Frm} {a : Array Value} (hf : FrIs n β fr a) {H : SH} (hH : hwf n H) {w : World} {R : HProp} (hw : Holds w (hden β H * R)) : ∀ (l : List ResultVar) (ps : List Tm) (vs : List SV), resV P π fr H l = some (ps, vs) → (∀ p ∈ ps, p.tv = true) →
    (l.mapM fun
      | .tmp t => pure (a.getD t undef)
      | .cell d t => do loadVar t (← asAddr (a.getD d undef)) : Sem (List Value)).run P w = .ok (vs.map (SV.den β)) w ∧ (∀ v ∈ vs, v.wf n) ∧ ∀ v ∈ vs, v.isTop = false
  | [], ps, vs, h, hp => by simp [resV] at h; obtain ⟨rfl, rfl⟩ := h; exact ⟨rfl, fun v hv => (by cases hv), fun v hv => (by cases hv)⟩
  | .tmp t :: r, ps, vs, h, hp => by
    unfold resV at h
    split at h
    · cases h
    · rename_i ps' l hr hne
      simp only [Option.some.injEq, Prod.mk.injEq] at h
      obtain ⟨rfl, rfl⟩ := h
      obtain ⟨ih, i1, i2⟩ := resV_ok hπ hf hH hw r ps' l hr hp
      have nt : (fr.get t).isTop = false := notTop fun e => by first | exact hne e | exact absurd e (by assumption)
      have e : a.getD t undef = (fr.get t).den β := hf.get t nt
      refine ⟨?_, fun v hv => ?_, fun v hv => ?_⟩
      · rw [List.mapM_cons]
        simp only [Sem.run_bind, Sem.run_pure, Result.andThen_ok, ih, e, List.map_cons]
      · rcases List.mem_cons.1 hv with rfl | hv
        · exact hf.wf t
        · exact i1 v hv
      · rcases List.mem_cons.1 hv with rfl | hv
        · exact nt
        · exact i2 v hv
    · simp at h
  | .cell d t :: r, ps, vs, h, hp => by
    unfold resV at h
    split at h
    · rename_i qs v ps' l hl hr
      simp at h
      obtain ⟨rfl, rfl⟩ := h
      obtain ⟨ih, i1, i2⟩ := resV_ok hπ hf hH hw r ps' l hr (fun p hp' => hp p (by simp [hp']))
      have nt : (fr.get d).isTop = false := by
        unfold loadV at hl
        split at hl
        · rename_i e; rw [e]; rfl
        · rename_i e; rw [e]; rfl
        · cases hl
      have e : a.getD d undef = (fr.get d).den β := hf.get d nt
      have hv := run_loadV (P := P) hπ hl (fun p hp' => hp p (by simp [hp'])) hw
      have hv' : (do loadVar t (← asAddr (a.getD d undef)) : Sem Value).run P w = .ok (v.den β) w := by
        unfold loadV at hl
        split at hl
        · rename_i nm off hx
          rw [e, hx]
          rw [hx] at hv
          exact hv
        · rename_i nm i st o hx
          rw [e, hx]
          rw [hx] at hv
          exact hv
        · simp at hl
      refine ⟨?_, fun u hu => ?_, fun u hu => ?_⟩
      · rw [List.mapM_cons]
        simp only [Sem.run_bind] at hv' ⊢
        simp only [hv', Sem.run_pure, Result.andThen_ok, ih, List.map_cons]
      · rcases List.mem_cons.1 hu with rfl | hu
        · exact loadV_wf hl hH
        · exact i1 u hu
      · rcases List.mem_cons.1 hu with rfl | hu
        · exact loadV_top hl
        · exact i2 u hu
    · simp at h
theorem toSA_den (β : Bl) : ∀ (l : List SV) (r : List SA), toSA l = some r → l.map (SV.den β) = r.map (SA.den β)
  | [], r, h => by simp [toSA] at h; subst h; rfl
  | .a x :: l, r, h => by
    simp only [toSA] at h
    split at h
    · rename_i r' hl
      simp at h
      subst h
      simp only [List.map_cons, toSA_den β l r' hl]
      rfl
    · cases h
  | .tup _ :: l, r, h => by simp [toSA] at h
  | .top :: l, r, h => by simp [toSA] at h
theorem toSA_wf {n : Nat} : ∀ (l : List SV) (r : List SA), toSA l = some r → (∀ v ∈ l, v.wf n) → ∀ x ∈ r, x.wf n
  | [], r, h, hl => by simp [toSA] at h; subst h; intro x hx; cases hx
  | .a x :: l, r, h, hl => by
    simp only [toSA] at h
    split at h
    · rename_i r' hr
      simp at h
      subst h
      intro y hy
      rcases List.mem_cons.1 hy with rfl | hy
      · exact hl _ (List.mem_cons_self ..)
      · exact toSA_wf l r' hr (fun v hv => hl v (List.mem_cons_of_mem _ hv)) y hy
    · cases h
  | .tup _ :: l, r, h, hl => by simp [toSA] at h
  | .top :: l, r, h, hl => by simp [toSA] at h
theorem resOf_wf {n : Nat} {l : List SV} {v : SV} (h : resOf l = some v) (hl : ∀ v ∈ l, v.wf n) (ht : ∀ v ∈ l, v.isTop = false) : v.wf n ∧ v.isTop = false := by
  unfold resOf at h
  split at h
  · simp at h; subst h; exact ⟨hl _ (List.mem_cons_self ..), ht _ (List.mem_cons_self ..)⟩
  · split at h
    · rename_i hr; simp at h; subst h; exact ⟨toSA_wf _ _ hr hl, rfl⟩
    · cases h
theorem results_ok {P : Program} [Fast P] [Ab P] [AbOk P] {π : Pi} (hπ : facts π) {fn : Func} {n : Nat} {β : Bl} {fr : Frm} {a : Array Value} (hf : FrIs n β fr a) {H : SH} (hH : hwf n H) {w : World} {R : HProp} (hw : Holds w (hden β H * R)) {ps : List Tm} {l : List SV} {v : SV} (h : resV P π fr H fn.results.toList = some (ps, l)) (hp : ∀ p ∈ ps, p.tv = true) (hv : resOf l = some v) :
    (results fn a).run P w = .ok (v.den β) w ∧ v.wf n ∧ v.isTop = false := by
  obtain ⟨h1, i1, i2⟩ := resV_ok hπ hf hH hw _ ps l h hp
  refine ⟨?_, resOf_wf hv i1 i2⟩
  suffices key : ∀ r, r = Result.ok (l.map (SV.den β)) w → ((r.andThen fun a w' => Result.ok a.toArray w').andThen fun vs w' => (pure (if h : vs.size = 1 then vs[0] else .tuple vs) : Sem Value).run P w') = .ok (v.den β) w by
    unfold results
    rw [Array.mapM_eq_mapM_toList, Sem.run_bind, Sem.run_map]
    exact key _ h1
  intro r hr
  subst hr
  simp only [Result.andThen_ok]
  unfold resOf at hv
  split at hv
  · rename_i v'
    simp at hv
    subst hv
    simp
  · rename_i hne
    split at hv
    · rename_i r ht
      simp at hv
      subst hv
      have e := toSA_den β l r ht
      have hs : ¬ (l.map (SV.den β)).toArray.size = 1 := by
        intro hh
        have hh' : l.length = 1 := by simpa using hh
        match l, hh' with
        | [v], _ => exact hne v rfl
      rw [dif_neg hs, Sem.run_pure, e]
      rfl
    · cases hv
/-- What the evaluator finds of code holds. -/
def CodeOk (P : Program) (ev : Code → Frm → St → Tree Ex) : Prop :=
  ∀ (c : Code) (fr : Frm) (s : St) (L : Bl → Ex → Prop) (β : Bl) (a : Act) (w : World) (R : HProp) (Q : Exit → Act → World → Prop), (ev c fr s).Leads L β → FrIs s.n β fr a.tmps → a.defers = [] → At β s w R →
    (∀ β' e fr' s' a' w', L β' (e, fr', s') → FrIs s'.n β' fr' a'.tmps → a'.defers = [] → Out β s w R β' s' w' → Q e a' w') → c.wp P Q a w
theorem callIn_ok {P : Program} [Fast P] [Ab P] [AbOk P] {ev : Code → Frm → St → Tree Ex} (hev : CodeOk P ev) : CallerOk P (callIn P ev) := by
  intro f args s L β hl hwf htop w R hw Q hk
  unfold callIn at hl
  split at hl
  · rename_i fn hf
    split at hl
    · rename_i c hc
      rw [Bool.cond_eq_ite] at hl
      split at hl
      · rename_i hlt
        refine calls_of_wp (Fast.func_ok hf) hc ?_
        have hs := start_is (n := s.n) (β := β) (k := fn.ntmps) (args := args) (Nat.le_of_ble_eq_true hlt) hwf htop
        refine hev c _ s _ β _ w R _ (bind_leads hl) hs rfl hw fun β' e fr' s' a' w' h1 h2 hd h3 => ?_
        unfold ends at h1
        have key : ∀ {ps l v}, resV P s'.pi fr' s'.H fn.results.toList = some (ps, l) → resOf l = some v → (needs s'.pi ps (frcV v fun v => Tree.done (v, s'))).Leads L β' → ∃ v, (results fn a'.tmps).run P w' = .ok v w' ∧ Q (.returned v) w' := by
          intro ps l v hr hv hn
          obtain ⟨g1, g2⟩ := needs_leads h3.at_.pi hn
          rw [frcV_eq] at g2
          obtain ⟨r1, r2, r3⟩ := results_ok h3.at_.pi h2 h3.at_.wf h3.at_.hold hr g1 hv
          exact ⟨v.den β', r1, hk β' v s' w' g2 r2 r3 h3⟩
        cases e with
        | normal =>
          simp only at h1
          split at h1
          · rename_i ps l hr
            split at h1
            · rename_i v hv
              obtain ⟨v, k1, k2⟩ := key hr hv h1
              exact ⟨hd, v, k1, k2⟩
            · exact h1.elim
          · exact h1.elim
        | ret =>
          simp only at h1
          split at h1
          · rename_i ps l hr
            split at h1
            · rename_i v hv
              obtain ⟨v, k1, k2⟩ := key hr hv h1
              exact ⟨hd, v, k1, k2⟩
            · exact h1.elim
          · exact h1.elim
        | exit id => exact h1.elim
        | goto l => exact h1.elim
        | panic ch => exact h1.elim
        | outgrown => exact h1.elim
      · exact hl.elim
    · exact hl.elim
  · exact hl.elim
/-- The second says no less of the heap than the first. -/
structure Coarse (β : Bl) (q q' : SV × St) : Prop where
  v : q'.1.den β = q.1.den β
  vw : ∀ n, q.1.wf n → q'.1.wf n
  t : q.1.isTop = false → q'.1.isTop = false
  H : hden β q'.2.H = hden β q.2.H
  n : q'.2.n = q.2.n
  Hw : ∀ n, hwf n q.2.H → hwf n q'.2.H
  pi : facts q.2.pi → facts q'.2.pi
theorem Coarse.refl (β : Bl) (q : SV × St) : Coarse β q q := ⟨rfl, fun _ h => h, fun h => h, rfl, rfl, fun _ h => h, fun h => h⟩
theorem Coarse.trans {β : Bl} {a b c : SV × St} (h : Coarse β a b) (k : Coarse β b c) : Coarse β a c :=
  ⟨k.v.trans h.v, fun n x => k.vw n (h.vw n x), fun x => k.t (h.t x), k.H.trans h.H, k.n.trans h.n, fun n x => k.Hw n (h.Hw n x), fun x => k.pi (h.pi x)⟩
theorem mrgR_ok {π : Pi} (hπ : facts π) {c : Tm} {a b z : SV × St} (h : mrgR π c a b = some z) (β : Bl) : (c.tv = true → Coarse β a z) ∧ (c.tv = false → Coarse β b z) := by
  unfold mrgR at h
  rw [Bool.cond_eq_ite] at h
  split at h
  · rename_i hn
    have hn := Nat.eq_of_beq_eq_true hn
    split at h
    · cases h
    · rename_i H hH hne
      simp only [Option.some.injEq] at h
      subst h
      have nt : (mrgV c a.1 b.1).isTop = false := notTop fun e => by first | exact hne e | exact absurd e (by assumption)
      obtain ⟨e, t1, t2⟩ := mrgV_den c _ _ β nt
      have eH := mrgH_den β hH
      refine ⟨fun hc => ⟨by rw [e, hc]; rfl, fun n h => mrgV_wf c (.inl h), fun _ => nt, by rw [eH, hc]; rfl, rfl, fun n h => mrgH_wf hH (.inl h), fun _ => hπ⟩,
        fun hc => ⟨by rw [e, hc]; rfl, fun n h => mrgV_wf c (.inr h), fun _ => nt, by rw [eH, hc]; rfl, hn, fun n h => mrgH_wf hH (.inr h), fun _ => hπ⟩⟩
    · cases h
  · cases h
theorem collapse_leads : ∀ {t : Rt} {π : Pi} {L : Bl → SV × St → Prop} {β : Bl}, facts π → (collapse π t).Leads L β → t.Leads (fun β' q => ∃ q', Coarse β' q q' ∧ L β' q') β
  | .done x, π, L, β, hπ, h => ⟨x, Coarse.refl _ _, h⟩
  | .new n t, π, L, β, hπ, h => fun b => collapse_leads hπ (h b)
  | .both a b, π, L, β, hπ, h => Tree.Leads.mono (t := .both a b) (fun β' q h => ⟨q, Coarse.refl _ _, h⟩) h
  | .fail i, π, L, β, hπ, h => h.elim
  | .ite c a b, π, L, β, hπ, h => by
    unfold collapse at h
    split at h
    · rename_i x y hx hy
      have ka : c.tv = true → a.Leads (fun β' q => ∃ q', Coarse β' q q' ∧ (β' = β ∧ q' = x)) β := fun hc =>
        collapse_leads (L := fun β' q' => β' = β ∧ q' = x) (facts_cons hπ hc) (by rw [hx]; exact ⟨rfl, rfl⟩)
      have kb : c.tv = false → b.Leads (fun β' q => ∃ q', Coarse β' q q' ∧ (β' = β ∧ q' = y)) β := fun hc =>
        collapse_leads (L := fun β' q' => β' = β ∧ q' = y) (facts_cons hπ hc) (by rw [hy]; exact ⟨rfl, rfl⟩)
      split at h
      · rename_i z hz
        refine ⟨fun hc => Tree.Leads.mono (fun β' q hq => ?_) (ka hc), fun hc => Tree.Leads.mono (fun β' q hq => ?_) (kb hc)⟩
        · obtain ⟨q', c1, rfl, rfl⟩ := hq
          exact ⟨z, c1.trans ((mrgR_ok hπ hz _).1 hc), h⟩
        · obtain ⟨q', c1, rfl, rfl⟩ := hq
          exact ⟨z, c1.trans ((mrgR_ok hπ hz _).2 hc), h⟩
      · refine ⟨fun hc => Tree.Leads.mono (fun β' q hq => ?_) (ka hc), fun hc => Tree.Leads.mono (fun β' q hq => ?_) (kb hc)⟩
        · obtain ⟨q', c1, rfl, rfl⟩ := hq
          exact ⟨q', c1, h.1 hc⟩
        · obtain ⟨q', c1, rfl, rfl⟩ := hq
          exact ⟨q', c1, h.2 hc⟩
    · exact ⟨fun hc => collapse_leads (facts_cons hπ hc) (h.1 hc), fun hc => collapse_leads (facts_cons hπ hc) (h.2 hc)⟩
theorem callBy_ok {P : Program} [Fast P] [Ab P] [AbOk P] {Γ : Ctr} (hΓ : CtrOk P Γ) {mf : Nat → Bool} {ev : Bool → Code → Frm → St → Tree Ex} (hev : ∀ mg, CodeOk P (ev mg)) : CallerOk P (callBy P Γ mf ev) := by
  intro f args s L β hl hwf htop w R hw Q hk
  unfold callBy at hl
  split at hl
  · rename_i t ht
    exact hΓ f args s t ht L β hl hwf htop w R hw Q hk
  · rw [Bool.cond_eq_ite] at hl
    split at hl
    · refine callIn_ok (hev true) f args s _ β (collapse_leads hw.pi hl) hwf htop w R hw Q fun β' v s' w' h1 h2 h3 h4 => ?_
      obtain ⟨⟨v', s''⟩, c, hL⟩ := h1
      have := hk β' v' s'' w' hL (by rw [show s''.n = s'.n from c.n]; exact c.vw _ h2) (c.t h3) ⟨h4.ag, by rw [show s''.n = s'.n from c.n]; exact h4.n, ⟨c.pi h4.at_.pi, by rw [show s''.n = s'.n from c.n]; exact c.Hw _ h4.at_.wf, by rw [show hden β' s''.H = hden β' s'.H from c.H]; exact h4.at_.hold⟩, h4.st⟩
      rw [show v'.den β' = v.den β' from c.v] at this
      exact this
    · exact callIn_ok (hev false) f args s L β hl hwf htop w R hw Q hk
theorem loopE_ok {P : Program} {c : Code} {body : Frm → St → Tree Ex}
    (hb : ∀ (fr : Frm) (s : St) (L : Bl → Ex → Prop) (β : Bl) (a : Act) (w : World) (R : HProp) (Q : Exit → Act → World → Prop), (body fr s).Leads L β → FrIs s.n β fr a.tmps → a.defers = [] → At β s w R →
      (∀ β' e fr' s' a' w', L β' (e, fr', s') → FrIs s'.n β' fr' a'.tmps → a'.defers = [] → Out β s w R β' s' w' → Q e a' w') → c.wp P Q a w) :
    ∀ (m : Nat) (fr : Frm) (s : St) (L : Bl → Ex → Prop) (β : Bl) (a : Act) (w : World) (R : HProp) (Q : Exit → Act → World → Prop), (loopE body m fr s).Leads L β → FrIs s.n β fr a.tmps → a.defers = [] → At β s w R →
      (∀ β' e fr' s' a' w', L β' (e, fr', s') → FrIs s'.n β' fr' a'.tmps → a'.defers = [] → Out β s w R β' s' w' → Q e a' w') → Code.rounds P c Q m a w
  | 0, fr, s, L, β, a, w, R, Q, hl, hf, hd, hw, hk => hl.elim
  | m + 1, fr, s, L, β, a, w, R, Q, hl, hf, hd, hw, hk => by
    rw [rounds_succ]
    refine hb fr s _ β a w R _ (bind_leads hl) hf hd hw fun β' e fr' s' a' w' h1 h2 h3 h4 => ?_
    cases e with
    | normal => exact loopE_ok hb m fr' s' L β' a' w' R Q h1 h2 h3 h4.at_ fun β'' e fr'' s'' a'' w'' k1 k2 k3 k4 => hk β'' e fr'' s'' a'' w'' k1 k2 k3 (h4.trans k4)
    | exit id => exact hk β' _ fr' s' a' w' h1 h2 h3 h4
    | goto l => exact hk β' _ fr' s' a' w' h1 h2 h3 h4
    | ret => exact hk β' _ fr' s' a' w' h1 h2 h3 h4
    | panic ch => exact hk β' _ fr' s' a' w' h1 h2 h3 h4
    | outgrown => exact hk β' _ fr' s' a' w' h1 h2 h3 h4
theorem merge_leads {π : Pi} (hπ : facts π) {c : Tm} {ta tb : Tree Ex} {L : Bl → Ex → Prop} {β : Bl} (h : (merge π c ta tb).Leads L β) :
    (bif c.tv then ta else tb).Leads (fun β' q => L β' q ∨ ∃ (fa fb : Frm) (sa sb : St) (z : Fr) (H : SH), q = (bif c.tv then (.normal, fa, sa) else (.normal, fb, sb)) ∧ mrgF c fa.t fb.t = some z ∧ fb.sz = fa.sz ∧ mrgH c sa.H sb.H = some H ∧ sa.n = sb.n ∧ L β' (.normal, ⟨fa.sz, z⟩, ⟨π, H, sa.n⟩)) β := by
  have plain : ∀ {ta tb : Tree Ex}, (Tree.ite c ta tb).Leads L β → (bif c.tv then ta else tb).Leads (fun β' q => L β' q ∨ ∃ (fa fb : Frm) (sa sb : St) (z : Fr) (H : SH), q = (bif c.tv then (.normal, fa, sa) else (.normal, fb, sb)) ∧ mrgF c fa.t fb.t = some z ∧ fb.sz = fa.sz ∧ mrgH c sa.H sb.H = some H ∧ sa.n = sb.n ∧ L β' (.normal, ⟨fa.sz, z⟩, ⟨π, H, sa.n⟩)) β := by
    intro ta tb h
    cases hc : c.tv with
    | true => exact Tree.Leads.mono (fun _ _ h => .inl h) (h.1 hc)
    | false => exact Tree.Leads.mono (fun _ _ h => .inl h) (h.2 hc)
  unfold merge at h
  split at h
  · rename_i fa sa fb sb
    rw [Bool.cond_eq_ite] at h
    split at h
    · rename_i hb
      rw [Bool.and_eq_true] at hb
      split at h
      · rename_i z H hz hH
        have := h
        cases hc : c.tv with
        | true => exact .inr ⟨fa, fb, sa, sb, z, H, rfl, hz, Nat.eq_of_beq_eq_true hb.1, hH, Nat.eq_of_beq_eq_true hb.2, h⟩
        | false => exact .inr ⟨fa, fb, sa, sb, z, H, rfl, hz, Nat.eq_of_beq_eq_true hb.1, hH, Nat.eq_of_beq_eq_true hb.2, h⟩
      · exact plain h
    · exact plain h
  · exact plain h
theorem wp_scope_goto {P : Program} {c : Code} {Q : Exit → Act → World → Prop} {a : Act} {w : World}
    (h : c.wp P (fun e a w => match e with | .goto l => ∃ rest, findLabel c l = some rest ∧ rest.wp P (Exit.noGoto Q) a w | e => Q e a w) a w) : (Code.scope c).wp P Q a w := by
  intro b k cs
  obtain ⟨e, a₁, w₁, hq, harr⟩ := h b (.inScope c :: k) cs
  cases e with
  | normal => exact ⟨.normal, a₁, w₁, hq, .head step_scope (Steps.trans harr (.one step_inScope))⟩
  | exit id => exact ⟨.exit id, a₁, w₁, hq, fun k' hk => .head step_scope (harr k' (by simp [exitTo, hk]))⟩
  | goto l =>
    obtain ⟨rest, hf, hr⟩ := hq
    have hg : gotoIn l (.inScope c :: k) = some (.code rest :: .inScope c :: k) := by simp [gotoIn, hf]
    have hs := harr _ hg
    obtain ⟨e, a₂, w₂, hq₂, harr₂⟩ := hr b (.inScope c :: k) cs
    cases e with
    | normal => exact ⟨.normal, a₂, w₂, hq₂, .head step_scope (Steps.trans hs (Steps.trans harr₂ (.one step_inScope)))⟩
    | exit id => exact ⟨.exit id, a₂, w₂, hq₂, .of_steps (.head step_scope hs) (fun k' hk => harr₂ k' (by simp [exitTo, hk]) : Arrives P _ b k cs (.exit id) a₂ w₂)⟩
    | goto l => exact hq₂.elim
    | ret => exact ⟨_, a₂, w₂, hq₂, .of_steps (.head step_scope hs) harr₂⟩
    | panic ch => exact ⟨_, a₂, w₂, hq₂, .of_steps (.head step_scope hs) harr₂⟩
    | outgrown => exact ⟨_, a₂, w₂, hq₂, .of_steps (.head step_scope hs) harr₂⟩
  | ret => exact ⟨_, a₁, w₁, hq, .of_steps (.one step_scope) harr⟩
  | panic ch => exact ⟨_, a₁, w₁, hq, .of_steps (.one step_scope) harr⟩
  | outgrown => exact ⟨_, a₁, w₁, hq, .of_steps (.one step_scope) harr⟩
theorem evReg_ok {P : Program} [Fast P] [Ab P] [AbOk P] (hn : NoGos P) (hm : P.follows .mixedOrders = true) {call : Caller} (hcall : CallerOk P call) {id : Nat} {ops : Array Oper} {draw : Bool} {fr : Frm} {s : St} {L : Bl → Frm × St → Prop} {β : Bl} {a : Act} {w : World} {R : HProp} {Q : Exit → Act → World → Prop}
    (hl : (evReg P call ops.toList draw fr s).Leads L β) (hf : FrIs s.n β fr a.tmps) (hd : a.defers = []) (hw : At β s w R)
    (hk : ∀ β' fr' s' a' w', L β' (fr', s') → FrIs s'.n β' fr' a'.tmps → a'.defers = [] → Out β s w R β' s' w' → Q .normal a' w') : (Code.region id ops draw).wp P Q a w := by
  unfold evReg at hl
  cases draw with
  | true =>
    simp only [cond_true] at hl
    rw [Bool.cond_eq_ite] at hl
    split at hl
    · rename_i hns
      rw [frcHeld_eq] at hl
      have hwd : At β s { w with drawn := w.drawn + 1 } R := ⟨hw.pi, hw.wf, hw.hold⟩
      refine wp_region_noPanic ?_
      rw [Bool.cond_eq_ite] at hl
      split at hl
      · rename_i hB
        refine wp_region_any hm ?_
        rw [frcRw_eq] at hl
        have := evAny_ok hn hcall (ops := ops.toList) (S := gathered P s.pi ops.toList fr s.H) (n0 := s.n) (gathered_wf hw.wf) (β0 := β) hns (Q := NoPanic Q) (R := R) (fun c a a' w h => h) (w00 := w) _ _ _ _ fr s β a [] hl (LM.start _) hf hd hw.pi hw.wf hB (Nat.le_refl _) (Ag.refl _ _)
          (fun d hd => by cases hd) (fun d hd => by cases hd) (fun d hd => by cases hd)
          (fun β' fr' s' a' w' k1 k2 k3 k4 k5 k6 k7 => hk β' fr' s' a' w' k1 k2 k3 ⟨k4, k5, k6, k7⟩)
        have h2 := anyA_any _ this ⟨hwd.hold, gathered_held hwd.hold, ⟨rfl, rfl, rfl, Nat.le_refl _⟩⟩
        simpa using h2
      · exact hl.elim
    · exact hl.elim
  | false =>
    simp only [cond_false] at hl
    refine wp_region_list ?_
    have := evList_ok hn hcall (ops := ops.toList) ops.toList fr s β a w hl hf hd hw (Q := Q) (fun β' fr' s' a' w' k1 k2 k3 k4 => hk β' fr' s' a' w' k1 k2 k3 k4)
    simpa using this
theorem evCode_ok {P : Program} [Fast P] [Ab P] [AbOk P] (hn : NoGos P) (hm : P.follows .mixedOrders = true) {Γ : Ctr} (hΓ : CtrOk P Γ) (mf : Nat → Bool) : ∀ g mg, CodeOk P (evCode P Γ mf g mg)
  | 0, mg => fun c fr s L β a w R Q hl hf hd hw hk => hl.elim
  | g + 1, mg => fun c fr s L β a w R Q hl hf hd hw hk => by
    have ih := evCode_ok hn hm hΓ mf g mg
    have hcall := callBy_ok (mf := mf) hΓ (evCode_ok hn hm hΓ mf g)
    unfold evCode at hl
    cases c with
    | skip => exact wp_skip (hk β _ fr s a w hl hf hd (Out.refl hw))
    | label l => exact wp_label (hk β _ fr s a w hl hf hd (Out.refl hw))
    | ret => exact wp_ret (hk β _ fr s a w hl hf hd (Out.refl hw))
    | exit id => exact wp_exit (hk β _ fr s a w hl hf hd (Out.refl hw))
    | goto l => exact wp_goto (hk β _ fr s a w hl hf hd (Out.refl hw))
    | seq x y =>
      refine wp_seq (ih x fr s _ β a w R _ (bind_leads hl) hf hd hw fun β' e fr' s' a' w' h1 h2 h3 h4 => ?_)
      cases e with
      | normal => exact ih y fr' s' L β' a' w' R Q h1 h2 h3 h4.at_ fun β'' e fr'' s'' a'' w'' k1 k2 k3 k4 => hk β'' e fr'' s'' a'' w'' k1 k2 k3 (h4.trans k4)
      | exit id => exact hk β' _ fr' s' a' w' h1 h2 h3 h4
      | goto l => exact hk β' _ fr' s' a' w' h1 h2 h3 h4
      | ret => exact hk β' _ fr' s' a' w' h1 h2 h3 h4
      | panic ch => exact hk β' _ fr' s' a' w' h1 h2 h3 h4
      | outgrown => exact hk β' _ fr' s' a' w' h1 h2 h3 h4
    | block id c =>
      refine wp_block (ih c fr s _ β a w R _ (bind_leads hl) hf hd hw fun β' e fr' s' a' w' h1 h2 h3 h4 => ?_)
      cases e with
      | exit id' =>
        simp only at h1
        simp only [Exit.inBlock]
        cases hid : Nat.beq id' id with
        | true =>
          rw [hid] at h1
          rw [if_pos (Nat.eq_of_beq_eq_true hid)]
          exact hk β' _ fr' s' a' w' h1 h2 h3 h4
        | false =>
          rw [hid] at h1
          rw [if_neg (fun h => by rw [h, Nat.beq_refl] at hid; cases hid)]
          exact hk β' _ fr' s' a' w' h1 h2 h3 h4
      | normal => exact hk β' _ fr' s' a' w' h1 h2 h3 h4
      | goto l => exact hk β' _ fr' s' a' w' h1 h2 h3 h4
      | ret => exact hk β' _ fr' s' a' w' h1 h2 h3 h4
      | panic ch => exact hk β' _ fr' s' a' w' h1 h2 h3 h4
      | outgrown => exact hk β' _ fr' s' a' w' h1 h2 h3 h4
    | scope c =>
      refine wp_scope_goto (ih c fr s _ β a w R _ (bind_leads hl) hf hd hw fun β' e fr' s' a' w' h1 h2 h3 h4 => ?_)
      cases e with
      | goto l =>
        simp only at h1
        split at h1
        · rename_i rest hrest
          refine ⟨rest, hrest, ih rest fr' s' _ β' a' w' R _ (bind_leads h1) h2 h3 h4.at_ fun β'' e fr'' s'' a'' w'' k1 k2 k3 k4 => ?_⟩
          cases e with
          | goto l => exact k1.elim
          | exit id => exact hk β'' _ fr'' s'' a'' w'' k1 k2 k3 (h4.trans k4)
          | normal => exact hk β'' _ fr'' s'' a'' w'' k1 k2 k3 (h4.trans k4)
          | ret => exact hk β'' _ fr'' s'' a'' w'' k1 k2 k3 (h4.trans k4)
          | panic ch => exact hk β'' _ fr'' s'' a'' w'' k1 k2 k3 (h4.trans k4)
          | outgrown => exact hk β'' _ fr'' s'' a'' w'' k1 k2 k3 (h4.trans k4)
        · exact h1.elim
      | exit id => exact hk β' _ fr' s' a' w' h1 h2 h3 h4
      | normal => exact hk β' _ fr' s' a' w' h1 h2 h3 h4
      | ret => exact hk β' _ fr' s' a' w' h1 h2 h3 h4
      | panic ch => exact hk β' _ fr' s' a' w' h1 h2 h3 h4
      | outgrown => exact hk β' _ fr' s' a' w' h1 h2 h3 h4
    | cond x c1 c2 =>
      simp only at hl
      split at hl
      · rename_i c hx
        have ec : a.eval x = .bool c.tv := (opnd_is hf hx rfl).1
        rw [Bool.cond_eq_ite] at hl
        split at hl
        · split at hl
          · rename_i t hd'
            have := dec_ok hw.pi hd'
            rw [this] at ec
            cases t with
            | true => exact wp_cond_true ec (ih c1 fr s L β a w R Q hl hf hd hw hk)
            | false => exact wp_cond_false ec (ih c2 fr s L β a w R Q hl hf hd hw hk)
          · have hm2 := merge_leads hw.pi hl
            have fin : ∀ (s1 : St), Out β s w R β s1 w → ∀ cc : Code, (evCode P Γ mf g mg cc fr s1).Leads (fun β' q => L β' q ∨ ∃ (fa fb : Frm) (sa sb : St) (z : Fr) (H : SH), q = (bif c.tv then (.normal, fa, sa) else (.normal, fb, sb)) ∧ mrgF c fa.t fb.t = some z ∧ fb.sz = fa.sz ∧ mrgH c sa.H sb.H = some H ∧ sa.n = sb.n ∧ L β' (.normal, ⟨fa.sz, z⟩, ⟨s.pi, H, sa.n⟩)) β → cc.wp P Q a w := by
              intro s1 h1 cc hcc
              refine ih cc fr s1 _ β a w R Q hcc (hf.mono h1.n h1.ag) hd h1.at_ fun β' e fr' s' a' w' k1 k2 k3 k4 => ?_
              rcases k1 with k1 | ⟨fa, fb, sa, sb, z, H, hq, hz, hsz, hH, hnn, hL⟩
              · exact hk β' e fr' s' a' w' k1 k2 k3 (h1.trans k4)
              · have k5 := h1.trans k4
                cases hc : c.tv with
                | true =>
                  rw [hc] at hq
                  simp only [cond_true, Prod.mk.injEq] at hq
                  obtain ⟨rfl, rfl, rfl⟩ := hq
                  have e1 : hden β' H = hden β' s'.H := by rw [mrgH_den β' hH, hc]; rfl
                  exact hk β' _ _ _ a' w' hL (mrgF_is hz hsz (by rw [hc]; exact k2)) k3 ⟨k5.ag, k5.n, ⟨hw.pi, mrgH_wf hH (.inl k5.at_.wf), by show Holds w' (hden β' H * R); rw [e1]; exact k5.at_.hold⟩, k5.st⟩
                | false =>
                  rw [hc] at hq
                  simp only [cond_false, Prod.mk.injEq] at hq
                  obtain ⟨rfl, rfl, rfl⟩ := hq
                  have e1 : hden β' H = hden β' s'.H := by rw [mrgH_den β' hH, hc]; rfl
                  refine hk β' _ _ _ a' w' hL (mrgF_is hz hsz (by rw [hc]; show FrIs sa.n β' fr' a'.tmps; rw [hnn]; exact k2)) k3 ⟨k5.ag, by show s.n ≤ sa.n; rw [hnn]; exact k5.n, ⟨hw.pi, by show hwf sa.n H; rw [hnn]; exact mrgH_wf hH (.inr k5.at_.wf), by show Holds w' (hden β' H * R); rw [e1]; exact k5.at_.hold⟩, k5.st⟩
            cases hc : c.tv with
            | true =>
              rw [hc] at ec hm2
              rw [hc] at fin
              exact wp_cond_true ec (fin _ (Out.pi hw (facts_cons hw.pi hc)) c1 hm2)
            | false =>
              rw [hc] at ec hm2
              rw [hc] at fin
              exact wp_cond_false ec (fin _ (Out.pi hw (facts_cons hw.pi hc)) c2 hm2)
        · obtain ⟨π', h1, h2⟩ := br_leads hl hw.pi
          cases ht : c.tv with
          | true =>
            rw [ht] at h2 ec
            exact wp_cond_true ec (ih c1 fr _ L β a w R Q h2 hf hd ⟨h1, hw.wf, hw.hold⟩ fun β'' e fr'' s'' a'' w'' k1 k2 k3 k4 => hk β'' e fr'' s'' a'' w'' k1 k2 k3 ((Out.pi hw h1).trans k4))
          | false =>
            rw [ht] at h2 ec
            exact wp_cond_false ec (ih c2 fr _ L β a w R Q h2 hf hd ⟨h1, hw.wf, hw.hold⟩ fun β'' e fr'' s'' a'' w'' k1 k2 k3 k4 => hk β'' e fr'' s'' a'' w'' k1 k2 k3 ((Out.pi hw h1).trans k4))
      · exact hl.elim
    | loop c => exact wp_loop_rounds g (loopE_ok (fun fr s L β a w R Q => ih c fr s L β a w R Q) g fr s L β a w R Q hl hf hd hw hk)
    | region id ops draw =>
      exact evReg_ok hn hm hcall (bind_leads hl) hf hd hw fun β' fr' s' a' w' k1 k2 k3 k4 => hk β' _ fr' s' a' w' k1 k2 k3 k4
    | rangeFunc f p x y => exact hl.elim
    | refuse why => exact hl.elim
/-- **What the evaluator finds of a function holds of its calls.** -/
theorem evF_ok {P : Program} [Fast P] [Ab P] [AbOk P] (hn : NoGos P) (hm : P.follows .mixedOrders = true) {Γ : Ctr} (hΓ : CtrOk P Γ) {mf : Nat → Bool} {mg : Bool} {g : Nat} : CallerOk P (evF P Γ mf mg g) := callIn_ok (evCode_ok hn hm hΓ mf g mg)
end
end Go.Proofs.Ytmmpnjcmaodkcaa.Ef
/- What is proved: patterns of states: what fits a pattern is one of its instances. Conditions: stated with each lemma. -/
namespace Go.Proofs.Ytmmpnjcmaodkcaa.Ef
open Go Go.Proofs.Ytmmpnjcmaodkcaa.Sep
open Go.Proofs.Ytmmpnjcmaodkcaa.Ev (Fast)
set_option linter.unusedVariables false
set_option linter.unusedSimpArgs false
set_option linter.unusedSectionVars false
/-! ### terms put in for variables -/
def fstX : Tm → Tm
  | .a2 .pair x _ => x
  | t => .a1 .fst t
def sndX : Tm → Tm
  | .a2 .pair _ y => y
  | t => .a1 .snd t
def isI : Tm → Bool
  | .lit _ => true
  | .a1 (.wrap _) _ => true
  | .a2 .add _ _ => true
  | .a2 .sub _ _ => true
  | .a2 .mul _ _ => true
  | .a2 .rem _ _ => true
  | _ => false
def addX : Tm → Tm → Tm
  | .lit a, .lit b => .lit (a + b)
  | .a2 .add x (.lit a), .lit b => .a2 .add x (.lit (a + b))
  | x, .lit b => bif intBeq b 0 && isI x then x else .a2 .add x (.lit b)
  | .lit a, y => bif intBeq a 0 && isI y then y else .a2 .add y (.lit a)
  | .a2 .add x (.lit a), y => .a2 .add (.a2 .add x y) (.lit a)
  | x, y => .a2 .add x y
def subX : Tm → Tm → Tm
  | .lit a, .lit b => .lit (a - b)
  | .a2 .add x (.lit a), .lit b => .a2 .add x (.lit (a - b))
  | x, .lit b => .a2 .add x (.lit (-b))
  | x, y => .a2 .sub x y
def mulX : Tm → Tm → Tm
  | .lit a, .lit b => .lit (a * b)
  | .a2 .add x (.lit a), .lit b => .a2 .add (.a2 .mul x (.lit b)) (.lit (a * b))
  | x, .lit b => .a2 .mul x (.lit b)
  | .lit a, y => .a2 .mul y (.lit a)
  | x, y => .a2 .mul x y
def selX : Tm → Tm → Tm
  | .bl true, .a2 .pair x y => x
  | .bl false, .a2 .pair x y => y
  | c, z => .a2 .sel c z
def lkT : List (Nat × Tm) → Nat → Option Tm
  | [], _ => none
  | (j, t) :: r, i => bif Nat.beq j i then some t else lkT r i
theorem lkT_cons (j : Nat) (t : Tm) (r : List (Nat × Tm)) (i : Nat) : lkT ((j, t) :: r) i = bif Nat.beq j i then some t else lkT r i := by
  first
    | rfl
    | (show Bool.rec (motive := fun _ => Option Tm) (lkT r i) (some t) (Nat.beq j i) = _
       cases Nat.beq j i <;> rfl)
section
variable [Interp] [Rules]
def Tm.sub (σ : List (Nat × Tm)) : Tm → Tm
  | .lit n => .lit n
  | .bl b => .bl b
  | .var i => match lkT σ i with
    | some t => t
    | none => .var i
  | .a1 f x =>
    match f with
    | .not => mkNot (x.sub σ)
    | .fst => fstX (x.sub σ)
    | .snd => sndX (x.sub σ)
    | .wrap k => match x.sub σ with
      | .lit n => .lit (k.wrap n)
      | t => .a1 (.wrap k) t
    | .usr n => Rules.k1 n (x.sub σ)
  | .a2 f x y =>
    match f with
    | .add => addX (x.sub σ) (y.sub σ)
    | .sub => subX (x.sub σ) (y.sub σ)
    | .mul => mulX (x.sub σ) (y.sub σ)
    | .eq => mkEq (x.sub σ) (y.sub σ)
    | .lt => mkLt (x.sub σ) (y.sub σ)
    | .sel => selX (x.sub σ) (y.sub σ)
    | .usr n => Rules.k2 n (x.sub σ) (y.sub σ)
    | f => .a2 f (x.sub σ) (y.sub σ)
/-- The variables with these values. -/
@[reducible] def subV [V : Vars] (σ : List (Nat × Tm)) (τ : List (Nat × SC)) (β : Bl) : Vars :=
  ⟨fun i => match lkT σ i with
    | some t => t.den
    | none => Vars.ρ i, fun i => match (τ.find? fun q => Nat.beq q.1 i) with
    | some q => q.2.den β
    | none => Vars.ω i, Vars.ad⟩
variable [V : Vars]
theorem isI_den {x : Tm} (h : isI x = true) : x.den = .i x.v := by
  unfold isI at h
  split at h <;> first | rfl | cases h
theorem addX_den (x y : Tm) : (addX x y).den = .i (x.v + y.v) := by
  unfold addX
  split <;> first
    | rfl
    | (show U.i _ = U.i _; congr 1; simp only [Tm.v, Tm.den, F2.den, U.int]; omega)
    | (rw [Bool.cond_eq_ite]; split
       · rename_i h
         rw [Bool.and_eq_true] at h
         have h1 := intBeq_eq h.1
         subst h1
         rw [isI_den h.2]
         simp [lit_v]
       · first | rfl | (show U.i _ = U.i _; congr 1; exact Int.add_comm _ _))
theorem subX_den (x y : Tm) : (subX x y).den = .i (x.v - y.v) := by
  unfold subX
  split <;> first
    | rfl
    | (show U.i _ = U.i _; congr 1; simp only [Tm.v, Tm.den, F2.den, U.int]; omega)
theorem mulX_den (x y : Tm) : (mulX x y).den = .i (x.v * y.v) := by
  unfold mulX
  split <;> first
    | rfl
    | (show U.i _ = U.i _; congr 1; exact (Int.add_mul _ _ _).symm)
    | (show U.i _ = U.i _; congr 1; exact Int.mul_comm _ _)
theorem mkEq_den (x y : Tm) : (mkEq x y).den = .b (x.v == y.v) := by
  have h := mkEq_tv x y
  have : ∃ b, (mkEq x y).den = .b b := by
    unfold mkEq
    split <;> first
      | exact ⟨_, rfl⟩
      | (rw [Bool.cond_eq_ite]; split <;> exact ⟨_, rfl⟩)
  obtain ⟨b, hb⟩ := this
  rw [hb, ← h, Tm.tv, hb]
  rfl
theorem mkLt_den (x y : Tm) : (mkLt x y).den = .b (decide (x.v < y.v)) := by
  have h := mkLt_tv x y
  have : ∃ b, (mkLt x y).den = .b b := by
    unfold mkLt
    split <;> first
      | exact ⟨_, rfl⟩
      | (rw [Bool.cond_eq_ite]; split <;> exact ⟨_, rfl⟩)
  obtain ⟨b, hb⟩ := this
  rw [hb, ← h, Tm.tv, hb]
  rfl
theorem mkNot_den (x : Tm) : (mkNot x).den = .b (!x.tv) := by
  have h := mkNot_tv x
  have : ∃ b, (mkNot x).den = .b b := by
    unfold mkNot
    split <;> exact ⟨_, rfl⟩
  obtain ⟨b, hb⟩ := this
  rw [hb, ← h, Tm.tv, hb]
  rfl
theorem fstX_den (x : Tm) : (fstX x).den = x.den.fst := by unfold fstX; split <;> rfl
theorem sndX_den (x : Tm) : (sndX x).den = x.den.snd := by unfold sndX; split <;> rfl
theorem selX_den (x y : Tm) : (selX x y).den = F2.sel.den x.den y.den := by unfold selX; split <;> rfl
theorem sub_den (σ : List (Nat × Tm)) (τ : List (Nat × SC)) (β : Bl) : ∀ t : Tm, (t.sub σ).den = @Tm.den _ (subV σ τ β) t
  | .lit n => rfl
  | .bl b => rfl
  | .var i => by
    show (match lkT σ i with | some t => t | none => .var i).den = (match lkT σ i with | some t => t.den | none => Vars.ρ i)
    cases lkT σ i <;> rfl
  | .a1 f x => by
    have ih := sub_den σ τ β x
    unfold Tm.sub
    cases f with
    | not => dsimp only; rw [mkNot_den, Tm.tv, ih]; rfl
    | fst => dsimp only; rw [fstX_den, ih]; rfl
    | snd => dsimp only; rw [sndX_den, ih]; rfl
    | wrap k =>
      dsimp only
      have e : ∀ t : Tm, (match t with | .lit n => Tm.lit (k.wrap n) | t => .a1 (.wrap k) t).den = .i (k.wrap t.den.int) := by
        intro t; cases t <;> rfl
      rw [e, ih]; rfl
    | usr n => dsimp only; rw [Rules.k1_ok, ih]; rfl
  | .a2 f x y => by
    have ihx := sub_den σ τ β x
    have ihy := sub_den σ τ β y
    unfold Tm.sub
    cases f <;> dsimp only <;> first
      | (rw [addX_den, Tm.v, Tm.v, ihx, ihy]; rfl)
      | (rw [subX_den, Tm.v, Tm.v, ihx, ihy]; rfl)
      | (rw [mulX_den, Tm.v, Tm.v, ihx, ihy]; rfl)
      | (rw [mkEq_den, Tm.v, Tm.v, ihx, ihy]; rfl)
      | (rw [mkLt_den, Tm.v, Tm.v, ihx, ihy]; rfl)
      | (rw [selX_den, ihx, ihy]; rfl)
      | (rw [Rules.k2_ok, ihx, ihy]; rfl)
      | (simp only [Tm.den, ihx, ihy]; done)
end
/-! ### names and cells put in -/
def lkN : List (Nat × Nat) → Nat → Nat
  | [], i => i
  | (j, t) :: r, i => bif Nat.beq j i then t else lkN r i
def nmP (ν : List (Nat × Nat)) (p : Nat × Nat) : Nat × Nat := (lkN ν p.1, p.2)
section
variable [Interp] [Rules]
def SC.sub (σ : List (Nat × Tm)) (τ : List (Nat × SC)) (ν : List (Nat × Nat)) : SC → SC
  | .int k t => .int k (t.sub σ)
  | .bool t => .bool (t.sub σ)
  | .ptr nm o => .ptr (lkN ν nm) o
  | .ptrR nm b t st o => .ptrR (lkN ν nm) (b.sub σ) (t.sub σ) st o
  | .nil => .nil
  | .slice nm o l c => .slice (lkN ν nm) o (l.sub σ) (c.sub σ)
  | .sliceQ nm b l c => .sliceQ (lkN ν nm) (b.sub σ) (l.sub σ) (c.sub σ)
  | .sliceN nm l cn => .sliceN (lkN ν nm) (l.sub σ) (lkN ν cn)
  | .snil => .snil
  | .func f a c => .func f (a.map (nmP ν)) (c.map (nmP ν))
  | .nilF => .nilF
  | .raw v => .raw v
  | .any i => match (τ.find? fun q => Nat.beq q.1 i) with
    | some q => q.2
    | none => .any i
def subN (ν : List (Nat × Nat)) (β : Bl) : Bl := fun m => β (lkN ν m)
variable [V : Vars]
theorem sub_v (σ : List (Nat × Tm)) (τ : List (Nat × SC)) (β : Bl) (t : Tm) : (t.sub σ).v = @Tm.v _ (subV σ τ β) t := by
  unfold Tm.v; rw [sub_den σ τ β]
theorem sub_tv (σ : List (Nat × Tm)) (τ : List (Nat × SC)) (β : Bl) (t : Tm) : (t.sub σ).tv = @Tm.tv _ (subV σ τ β) t := by
  unfold Tm.tv; rw [sub_den σ τ β]
theorem subC_den (σ : List (Nat × Tm)) (τ : List (Nat × SC)) (ν : List (Nat × Nat)) (β : Bl) (c : SC) : (c.sub σ τ ν).den β = @SC.den _ (subV σ τ β) (subN ν β) c := by
  cases c with
  | int k t => simp only [SC.sub, SC.den, sub_v σ τ β]
  | bool t => simp only [SC.sub, SC.den, sub_tv σ τ β]
  | ptr nm o => rfl
  | ptrR nm b t st o => simp only [SC.sub, SC.den, sub_v σ τ β]; rfl
  | nil => rfl
  | slice nm o l c => simp only [SC.sub, SC.den, sub_v σ τ β]; rfl
  | sliceQ nm b l c => simp only [SC.sub, SC.den, sub_v σ τ β]; rfl
  | sliceN nm l cn => simp only [SC.sub, SC.den, sub_v σ τ β]; rfl
  | snil => rfl
  | func f a c =>
    simp only [SC.sub, SC.den]
    rw [List.map_map, List.map_map]
    rfl
  | nilF => rfl
  | raw v => rfl
  | any i =>
    simp only [SC.sub]
    show _ = (match (τ.find? fun q => Nat.beq q.1 i) with | some q => q.2.den β | none => Vars.ω i)
    cases τ.find? fun q => Nat.beq q.1 i <;> rfl
end
/-! ### what is bound by a pattern: found, then held against -/
structure Mt where
  σ : List (Nat × Tm)
  τ : List (Nat × SC)
  ν : List (Nat × Nat)
def bdT (base : Nat) (m : Mt) (i : Nat) (t : Tm) : Mt :=
  bif Nat.blt i base then m else match lkT m.σ i with
  | some _ => m
  | none => match m with
    | ⟨σ, τ, ν⟩ => ⟨(i, t) :: σ, τ, ν⟩
def hasN : List (Nat × Nat) → Nat → Bool
  | [], _ => false
  | (j, _) :: r, i => bif Nat.beq j i then true else hasN r i
def bdN (m : Mt) (i j : Nat) : Mt :=
  bif hasN m.ν i then m else match m with
  | ⟨σ, τ, ν⟩ => ⟨σ, τ, (i, j) :: ν⟩
def bdA (m : Mt) (i : Nat) (c : SC) : Mt :=
  match (m.τ.find? fun q => Nat.beq q.1 i) with
  | some _ => m
  | none => match m with
    | ⟨σ, τ, ν⟩ => ⟨σ, (i, c) :: τ, ν⟩
def mtT (base : Nat) : Tm → Tm → Mt → Mt
  | .var i, t, m => bdT base m i t
  | .a1 f x, .a1 g y, m => bif Nat.beq f.code g.code then mtT base x y m else m
  | .a2 f x x', .a2 g y y', m => bif Nat.beq f.code g.code then mtT base x' y' (mtT base x y m) else m
  | .a2 f x y, .lit c, m => bif Nat.beq f.code 101 then mtT base y (.lit (c / 8)) (mtT base x (.lit (c % 4)) m) else m
  | _, _, m => m
def mtPs : List (Nat × Nat) → List (Nat × Nat) → Mt → Mt
  | (a, _) :: r, (b, _) :: s, m => mtPs r s (bdN m a b)
  | _, _, m => m
def mtC (base : Nat) : SC → SC → Mt → Mt
  | .int _ t, .int _ u, m => mtT base t u m
  | .bool t, .bool u, m => mtT base t u m
  | .ptr a _, .ptr b _, m => bdN m a b
  | .slice a _ l c, .slice b _ l' c', m => mtT base c c' (mtT base l l' (bdN m a b))
  | .sliceQ a o l c, .sliceQ b p l' c', m => mtT base c c' (mtT base l l' (mtT base o p (bdN m a b)))
  | .sliceN a l cn, .sliceN b l' cn', m => mtT base l l' (bdN (bdN m a b) cn cn')
  | .func _ a c, .func _ b d, m => mtPs c d (mtPs a b m)
  | .any i, c, m => bdA m i c
  | _, _, m => m
def mtCs (base : Nat) : List SC → List SC → Mt → Mt
  | x :: r, y :: s, m => mtCs base r s (mtC base x y m)
  | _, _, m => m
def mtNs : List Nat → List Nat → Mt → Mt
  | a :: r, b :: s, m => mtNs r s (bdN m a b)
  | _, _, m => m
/-- Objects that hold of less hold of more; what a pattern's terms are to be held against. -/
class Wk [Interp] [Rules] where
  weak : Pi → Nat → Tm → Tm → Bool
  weak_ok : ∀ [Vars] {π k x y}, facts π → weak π k x y = true → ∀ ns b h, Interp.ob k x.den ns b h → Interp.ob k y.den ns b h
  hint : Nat → Tm → Tm → List (Tm × Tm)
def mtPr (base : Nat) : List (Tm × Tm) → Mt → Mt
  | [], m => m
  | (x, y) :: r, m => mtPr base r (mtT base x y m)
def lkA (τ : List (Nat × SC)) (i : Nat) : Option SC :=
  match (τ.find? fun q => Nat.beq q.1 i) with
  | some q => some q.2
  | none => none
/-- The object that may be there at a cell of that number. -/
def findOpt (j : Nat) : SH → Option (Nat × Tm × Tm)
  | [] => none
  | (nm, .opt c _ x i _) :: r => bif Nat.beq i j then some (nm, c, x) else findOpt j r
  | _ :: r => findOpt j r
def mtOpt [Interp] [Rules] [Wk] (base : Nat) (nm : Nat) (c' : Tm) (k : Nat) (x' : Tm) (i : Nat) (z : Bool) (H : SH) (m : Mt) : Mt :=
  match c'.sub m.σ with
  | .bl true => m
  | _ =>
    match lkA m.τ i with
    | some .nil => bif z then mtT base c' (.bl true) m else m
    | some (.ptr nm2 0) =>
      match find H nm2 with
      | some (.abs k2 x []) => bif Nat.beq k k2 then bdN (mtPr base (Wk.hint k x' x) (mtT base c' (.bl false) m)) nm nm2 else m
      | _ => m
    | some (.any j) =>
      match findOpt j H with
      | some (nm2, c2, x) => bdN (mtPr base (Wk.hint k x' x) (mtT base c' c2 m)) nm nm2
      | none => m
    | _ => m
def mtH [Interp] [Rules] [Wk] (base : Nat) : SH → SH → Mt → Mt
  | [], _, m => m
  | (nm, .opt c' k x' i z) :: r, H, m => mtH base r H (mtOpt base nm c' k x' i z H m)
  | (nm, o) :: r, H, m =>
    match find H (lkN m.ν nm), o with
    | some (.cells l _), .cells l' _ => mtH base r H (mtCs base l' l m)
    | some (.abs _ x ns), .abs k x' ns' => mtH base r H (mtNs ns' ns (mtPr base (Wk.hint k x' x) m))
    | some (.row l _ _ cn), .row l' _ _ cn' => mtH base r H (bdN (mtCs base l' l m) cn' cn)
    | _, _ => m
def mtVs (base : Nat) : List (Nat × SV) → Frm → Mt → Mt
  | [], _, m => m
  | (i, v) :: r, f, m =>
    match v, f.get i with
    | .a (.one c), .a (.one d) => mtVs base r f (mtC base c d m)
    | .a (.agg c), .a (.agg d) => mtVs base r f (mtCs base c d m)
    | _, _ => mtVs base r f m
def csBeq : List SC → List SC → Bool
  | [], [] => true
  | x :: r, y :: s => bif SC.beq x y then csBeq r s else false
  | _, _ => false
theorem csBeq_eq : ∀ {r s : List SC}, csBeq r s = true → r = s
  | [], [], _ => rfl
  | [], _ :: _, h => by cases h
  | _ :: _, [], h => by cases h
  | a :: r, b :: s, h => by
    unfold csBeq at h
    rw [Bool.cond_eq_ite] at h
    split at h
    · rename_i hc; rw [SC.beq_eq hc, csBeq_eq h]
    · cases h
section
variable [Interp] [Rules] [Wk]
def chO (π : Pi) (m : Mt) (o' o : SO) : Bool :=
  match o', o with
  | .cells l' T', .cells l T => bif Nat.beq T' T then csBeq (l'.map (SC.sub m.σ m.τ m.ν)) l else false
  | .abs k' x' ns', .abs k x ns => bif Nat.beq k' k then (bif nsBeq (ns'.map (lkN m.ν)) ns then (bif Tm.beq (x'.sub m.σ) x then true else Wk.weak π k x (x'.sub m.σ)) else false) else false
  | .row l' T' sz' cn', .row l T sz cn => bif Nat.beq T' T && (Nat.beq sz' sz && Nat.beq (lkN m.ν cn') cn) then csBeq (l'.map (SC.sub m.σ m.τ m.ν)) l else false
  | _, _ => false
def anyIs (τ : List (Nat × SC)) (i j : Nat) : Bool :=
  match lkA τ i with
  | some (.any j') => Nat.beq j j'
  | none => Nat.beq j i
  | _ => false
/-- An object that may be there: it is not, or it is, or it may be. -/
def chOpt (π : Pi) (m : Mt) (nm : Nat) (c' : Tm) (k : Nat) (x' : Tm) (i : Nat) (z : Bool) (H : SH) : Option SH :=
  match c'.sub m.σ with
  | .bl true => bif z then (match lkA m.τ i with | some .nil => some H | _ => none) else some H
  | .bl false =>
    match lkA m.τ i with
    | some (.ptr nm2 0) =>
      bif Nat.beq nm2 (lkN m.ν nm) then
        match find H nm2 with
        | some (.abs k2 x []) => bif Nat.beq k2 k && (bif Tm.beq (x'.sub m.σ) x then true else Wk.weak π k x (x'.sub m.σ)) then some (del H nm2) else none
        | _ => none
      else none
    | _ => none
  | c =>
    match find H (lkN m.ν nm) with
    | some (.opt c2 k2 x j z2) =>
      bif (Tm.beq c c2 && (Nat.beq k2 k && boolBeq z2 z)) && (Tm.beq (x'.sub m.σ) x && anyIs m.τ i j) then some (del H (lkN m.ν nm)) else none
    | _ => none
def chOne (π : Pi) (m : Mt) (nm : Nat) (o' : SO) (H : SH) : Option SH :=
  match o' with
  | .opt c' k x' i z => chOpt π m nm c' k x' i z H
  | o' =>
    match find H (lkN m.ν nm) with
    | some o => bif chO π m o' o then some (del H (lkN m.ν nm)) else none
    | none => none
def chH (π : Pi) (m : Mt) : SH → SH → Option SH
  | [], H => some H
  | (nm, o') :: r, H =>
    match chOne π m nm o' H with
    | some H' => chH π m r H'
    | none => none
def chV (m : Mt) (v' v : SV) : Bool :=
  match v', v with
  | .a (.one c), .a (.one d) => SC.beq (c.sub m.σ m.τ m.ν) d
  | .a (.agg c), .a (.agg d) => csBeq (c.map (SC.sub m.σ m.τ m.ν)) d
  | _, _ => false
/-- The same, or numbers that are known to be the same. -/
def chW (π : Pi) (m : Mt) (v' v : SV) : Bool :=
  bif chV m v' v then true else
  match v', v with
  | .a (.one (.int k' t')), .a (.one (.int k t)) => bif sameK k' k then pv π true (mkEq (t'.sub m.σ) t) else false
  | _, _ => false
def chVs (π : Pi) (m : Mt) : List (Nat × SV) → Frm → Bool
  | [], _ => true
  | (i, v) :: r, f => bif chW π m v (f.get i) then chVs π m r f else false
/-- Known, or proved. -/
def kn (π : Pi) (b : Bool) (t : Tm) : Bool :=
  match look π t with
  | some c => boolBeq c b
  | none => pv π b t
def chPi (π : Pi) (m : Mt) : Pi → Bool
  | [] => true
  | (c, b) :: r => bif kn π b (c.sub m.σ) then chPi π m r else false
variable [V : Vars]
theorem chO_ok {π : Pi} (hπ : facts π) {m : Mt} {o' o : SO} (h : chO π m o' o = true) (β : Bl) (b : Nat) : ∀ h, o.den β b h → @SO.den _ (subV m.σ m.τ β) (subN m.ν β) b o' h := by
  intro hp hh
  unfold chO at h
  split at h
  · rename_i l' T' l T
    rw [Bool.cond_eq_ite] at h
    split at h
    · rename_i hT
      have hT := Nat.eq_of_beq_eq_true hT
      have e := csBeq_eq h
      subst hT e
      have e2 : dens β (l'.map (SC.sub m.σ m.τ m.ν)) = @dens _ (subV m.σ m.τ β) (subN m.ν β) l' := by
        unfold dens
        rw [List.map_map]
        congr 1
        apply List.map_congr_left
        intro c _
        exact subC_den _ _ _ _ c
      show pt b (.cells (@dens _ (subV m.σ m.τ β) (subN m.ν β) l') T' (0, 0)) hp
      rw [← e2]; exact hh
    · cases h
  · rename_i k' x' ns' k x ns
    rw [Bool.cond_eq_ite] at h
    split at h
    · rename_i hk
      have hk := Nat.eq_of_beq_eq_true hk
      subst hk
      rw [Bool.cond_eq_ite] at h
      split at h
      · rename_i hn
        have hn := nsBeq_eq hn
        subst hn
        have e1 : (ns'.map (lkN m.ν)).map β = ns'.map (subN m.ν β) := by rw [List.map_map]; rfl
        have hh' : Interp.ob k' x.den (ns'.map (subN m.ν β)) b hp := by
          rw [← e1]; exact hh
        show Interp.ob k' (@Tm.den _ (subV m.σ m.τ β) x') (ns'.map (subN m.ν β)) b hp
        rw [← sub_den m.σ m.τ β x']
        rw [Bool.cond_eq_ite] at h
        split at h
        · rename_i hx
          rw [Tm.beq_eq hx]; exact hh'
        · exact Wk.weak_ok hπ h _ _ _ hh'
      · cases h
    · cases h
  · rename_i l' T' sz' cn' l T sz cn
    rw [Bool.cond_eq_ite] at h
    split at h
    · rename_i hb
      simp only [Bool.and_eq_true] at hb
      have b1 := Nat.eq_of_beq_eq_true hb.1
      have b2 := Nat.eq_of_beq_eq_true hb.2.1
      have b3 := Nat.eq_of_beq_eq_true hb.2.2
      have e := csBeq_eq h
      subst b1 b2 b3 e
      obtain ⟨rest, ⟨g1, g2⟩, g3⟩ := hh
      rw [List.length_map] at g1
      refine ⟨rest, ⟨g1, g2⟩, ?_⟩
      have e2 : dens β (l'.map (SC.sub m.σ m.τ m.ν) ++ rest.map .raw) = @dens _ (subV m.σ m.τ β) (subN m.ν β) (l' ++ rest.map .raw) := by
        unfold dens
        rw [List.map_append, List.map_append, List.map_map, List.map_map, List.map_map]
        congr 2
        apply List.map_congr_left
        intro c _
        exact subC_den _ _ _ _ c
      rw [← e2]; exact g3
    · cases h
  · cases h
theorem lkA_den {m : Mt} {β : Bl} {i : Nat} : @Vars.ω _ (subV m.σ m.τ β) i = match lkA m.τ i with
    | some c => c.den β
    | none => Vars.ω i := by
  show (match (m.τ.find? fun q => Nat.beq q.1 i) with
    | some q => q.2.den β
    | none => Vars.ω i) = _
  unfold lkA
  cases (m.τ.find? fun q => Nat.beq q.1 i) <;> rfl
theorem chOpt_ok {π : Pi} (hπ : facts π) {m : Mt} {β : Bl} {w : World} {R : HProp} {nm : Nat} {c' : Tm} {k : Nat} {x' : Tm} {i : Nat} {z : Bool} {H rest : SH} (h : chOpt π m nm c' k x' i z H = some rest) (hw : Holds w (hden β H * R)) :
    Holds w (@SO.den _ (subV m.σ m.τ β) (subN m.ν β) (β (lkN m.ν nm)) (.opt c' k x' i z) * (hden β rest * R)) := by
  have ec : @Tm.tv _ (subV m.σ m.τ β) c' = (c'.sub m.σ).tv := (sub_tv m.σ m.τ β c').symm
  have ex : @Tm.den _ (subV m.σ m.τ β) x' = (x'.sub m.σ).den := (sub_den m.σ m.τ β x').symm
  show Holds w ((bif @Tm.tv _ (subV m.σ m.τ β) c' then andP (z = true → @Vars.ω _ (subV m.σ m.τ β) i = .pointer none) emp else andP (@Vars.ω _ (subV m.σ m.τ β) i = .pointer (some ⟨β (lkN m.ν nm), 0, none⟩)) (Interp.ob k (@Tm.den _ (subV m.σ m.τ β) x') [] (β (lkN m.ν nm)))) * (hden β rest * R))
  rw [ec, ex, lkA_den]
  unfold chOpt at h
  have one : ∀ {p : Prop}, p → Holds w (hden β rest * R) → Holds w (andP p emp * (hden β rest * R)) := fun hp hh =>
    holds_and_mk hp (by rw [star_empl]; exact hh)
  split at h
  · rename_i hc
    rw [hc]
    rw [Bool.cond_eq_ite] at h
    split at h
    · split at h
      · rename_i hl
        have h := Option.some.inj h
        subst h
        rw [hl]
        exact one (fun _ => rfl) hw
      · cases h
    · rename_i hz
      have h := Option.some.inj h
      subst h
      exact one (fun h => absurd h hz) hw
  · rename_i hc
    rw [hc]
    split at h
    · rename_i nm2 hl
      rw [Bool.cond_eq_ite] at h
      split at h
      · rename_i hn
        have hn := Nat.eq_of_beq_eq_true hn
        subst hn
        split at h
        · rename_i k2 x hf
          rw [Bool.cond_eq_ite] at h
          split at h
          · rename_i hb
            rw [Bool.and_eq_true] at hb
            have hk := Nat.eq_of_beq_eq_true hb.1
            subst hk
            have h := Option.some.inj h
            subst h
            rw [hl]
            refine holds_and_mk rfl ?_
            refine (focus hf hw).mono (star_mono (fun h hp => ?_) (fun _ r => r))
            have hb2 := hb.2
            rw [Bool.cond_eq_ite] at hb2
            split at hb2
            · rename_i hx; rw [Tm.beq_eq hx]; exact hp
            · exact Wk.weak_ok hπ hb2 _ _ _ hp
          · cases h
        · cases h
      · cases h
    · cases h
  · split at h
    · rename_i c2 k2 x j z2 hf
      rw [Bool.cond_eq_ite] at h
      split at h
      · rename_i hb
        simp only [Bool.and_eq_true] at hb
        obtain ⟨⟨b1, b2, b3⟩, b4, b5⟩ := hb
        have b1 := Tm.beq_eq b1
        have b2 := Nat.eq_of_beq_eq_true b2
        have b3 := boolBeq_eq b3
        have b4 := Tm.beq_eq b4
        subst b2 b3
        have h := Option.some.inj h
        subst h
        rw [b1, b4]
        have ew : (match lkA m.τ i with | some c => c.den β | none => Vars.ω i) = Vars.ω j := by
          unfold anyIs at b5
          split at b5
          · rename_i j' hl; rw [hl, Nat.eq_of_beq_eq_true b5]; rfl
          · rename_i hl; rw [hl, Nat.eq_of_beq_eq_true b5]
          · cases b5
        rw [ew]
        exact focus hf hw
      · cases h
    · cases h
theorem chOne_ok {π : Pi} (hπ : facts π) {m : Mt} {β : Bl} {w : World} {R : HProp} {nm : Nat} {o' : SO} {H rest : SH} (h : chOne π m nm o' H = some rest) (hw : Holds w (hden β H * R)) :
    Holds w (@SO.den _ (subV m.σ m.τ β) (subN m.ν β) (β (lkN m.ν nm)) o' * (hden β rest * R)) := by
  unfold chOne at h
  split at h
  · exact chOpt_ok hπ h hw
  · split at h
    · rename_i o hf
      rw [Bool.cond_eq_ite] at h
      split at h
      · rename_i ho
        have h := Option.some.inj h
        subst h
        exact (focus hf hw).mono (star_mono (chO_ok hπ ho β _) fun _ x => x)
      · cases h
    · cases h
theorem chH_ok {π : Pi} (hπ : facts π) {m : Mt} {β : Bl} {w : World} {R : HProp} : ∀ {T H rest : SH}, chH π m T H = some rest → Holds w (hden β H * R) → Holds w (@hden _ (subV m.σ m.τ β) (subN m.ν β) T * (hden β rest * R))
  | [], H, rest, h, hw => by
    simp only [chH, Option.some.injEq] at h
    subst h
    refine hw.cast ?_
    show _ = emp * (hden β H * R)
    rw [star_empl]
  | (nm, o') :: r, H, rest, h, hw => by
    unfold chH at h
    split at h
    · rename_i H' ho
      have h2 := chOne_ok hπ ho hw
      have h3 := chH_ok hπ h (R := @SO.den _ (subV m.σ m.τ β) (subN m.ν β) (β (lkN m.ν nm)) o' * R) (h2.cast (by ac_rfl))
      refine h3.cast ?_
      show _ = (@SO.den _ (subV m.σ m.τ β) (subN m.ν β) (β (lkN m.ν nm)) o' * @hden _ (subV m.σ m.τ β) (subN m.ν β) r) * (hden β rest * R)
      ac_rfl
    · cases h
theorem chV_ok {m : Mt} {v' v : SV} (h : chV m v' v = true) (β : Bl) : v.den β = @SV.den _ (subV m.σ m.τ β) (subN m.ν β) v' ∧ v.isTop = false := by
  unfold chV at h
  split at h
  · rename_i c d
    refine ⟨?_, rfl⟩
    have e := SC.beq_eq h
    subst e
    exact subC_den _ _ _ _ c
  · rename_i c d
    refine ⟨?_, rfl⟩
    have e := csBeq_eq h
    subst e
    show Value.agg (dens β _) = .agg (@dens _ (subV m.σ m.τ β) (subN m.ν β) c)
    congr 1
    unfold dens
    rw [List.map_map]
    congr 1
    apply List.map_congr_left
    intro c _
    exact subC_den _ _ _ _ c
  · cases h
theorem chW_ok {π : Pi} (hπ : facts π) {m : Mt} {v' v : SV} (h : chW π m v' v = true) (β : Bl) : v.den β = @SV.den _ (subV m.σ m.τ β) (subN m.ν β) v' ∧ v.isTop = false := by
  unfold chW at h
  rw [Bool.cond_eq_ite] at h
  split at h
  · rename_i h1; exact chV_ok h1 β
  · split at h
    · rename_i k' t' k t _
      rw [Bool.cond_eq_ite] at h
      split at h
      · rename_i hk
        have hk := kCode_inj hk
        subst hk
        have h2 := pv_ok hπ h
        rw [mkEq_tv] at h2
        have h2 := of_decide_eq_true h2
        refine ⟨?_, rfl⟩
        show Value.int _ t.v = .int _ (@Tm.v _ (subV m.σ m.τ β) t')
        rw [← h2, sub_v m.σ m.τ β]
      · cases h
    · cases h
theorem kn_ok {π : Pi} (hπ : facts π) {b : Bool} {t : Tm} (h : kn π b t = true) : t.tv = b := by
  unfold kn at h
  split at h
  · rename_i c hc
    rw [look_ok hπ hc, boolBeq_eq h]
  · exact pv_ok hπ h
theorem chPi_ok {π : Pi} (hπ : facts π) {m : Mt} (β : Bl) : ∀ {l : Pi}, chPi π m l = true → @facts _ (subV m.σ m.τ β) l
  | [], _ => fun q hq => (by cases hq)
  | (c, b) :: r, h => by
    unfold chPi at h
    rw [Bool.cond_eq_ite] at h
    split at h
    · rename_i hc
      have h1 := kn_ok hπ hc
      rw [sub_tv m.σ m.τ β] at h1
      intro q hq
      rcases List.mem_cons.1 hq with rfl | hq
      · exact h1
      · exact chPi_ok hπ β h q hq
    · cases h
end
end Go.Proofs.Ytmmpnjcmaodkcaa.Ef
/- What is proved: the rule for loops of unknown length: states at the loops' heads, each a pattern; what is between two of them by the second evaluator. Conditions: that each way from a pattern comes to a pattern at less, or to an end that is asked for. -/
namespace Go.Proofs.Ytmmpnjcmaodkcaa.Ef
open Go Go.Proofs.Ytmmpnjcmaodkcaa.Sep
open Go.Proofs.Ytmmpnjcmaodkcaa.Ev (Fast)
set_option linter.unusedVariables false
set_option linter.unusedSimpArgs false
set_option linter.unusedSectionVars false
def Tree.allB {α : Type} (p : α → Bool) : Tree α → Bool
  | .done x => p x
  | .ite _ a b => bif a.allB p then b.allB p else false
  | .new _ t => t.allB p
  | .both a b => bif a.allB p then b.allB p else false
  | .fail _ => false
theorem allB_leads [Interp] [Vars] {α : Type} {p : α → Bool} : ∀ {t : Tree α} {β : Bl}, t.allB p = true → t.Leads (fun _ x => p x = true) β
  | .done x, β, h => h
  | .ite c a b, β, h => by
    unfold Tree.allB at h
    rw [Bool.cond_eq_ite] at h
    split at h
    · rename_i ha; exact ⟨fun _ => allB_leads ha, fun _ => allB_leads h⟩
    · cases h
  | .new n t, β, h => fun b => allB_leads (t := t) h
  | .both a b, β, h => by
    unfold Tree.allB at h
    rw [Bool.cond_eq_ite] at h
    split at h
    · rename_i ha; exact ⟨allB_leads ha, allB_leads h⟩
    · cases h
  | .fail _, β, h => by cases h
inductive Lv where
  | at (k : Nat)
  | ex (e : Exit)
abbrev Ls := Lv × Frm × St
def keyOf : Code → Option Nat
  | .region id _ _ => some id
  | .seq a b => match keyOf a with
    | some k => some k
    | none => keyOf b
  | .block _ c => keyOf c
  | .scope c => keyOf c
  | .loop c => keyOf c
  | .cond _ a b => match keyOf a with
    | some k => some k
    | none => keyOf b
  | _ => none
def isK (k : Nat) (c : Code) : Bool :=
  match keyOf c with
  | some j => Nat.beq j k
  | none => false
def hasKey (k : Nat) : Code → Bool
  | .seq a b => bif hasKey k a then true else hasKey k b
  | .block _ c => hasKey k c
  | .scope c => hasKey k c
  | .cond _ a b => bif hasKey k a then true else hasKey k b
  | .loop c => isK k c
  | _ => false
def memN : List Nat → Nat → Bool
  | [], _ => false
  | j :: r, i => bif Nat.beq j i then true else memN r i
def anyKey (ks : List Nat) : Code → Bool
  | .seq a b => bif anyKey ks a then true else anyKey ks b
  | .block _ c => anyKey ks c
  | .scope c => anyKey ks c
  | .cond _ a b => bif anyKey ks a then true else anyKey ks b
  | .loop c => match keyOf c with
    | some k => memN ks k
    | none => false
  | _ => false
def lift (t : Tree Ex) : Tree Ls := t.bind fun q => match q with
  | (e, fr, s) => .done (.ex e, fr, s)
/-- No loop of the first part is met from the second. -/
def late (a : Code) (t : Tree Ls) : Tree Ls := t.bind fun q => match q with
  | (.at k, fr, s) => bif hasKey k a then .fail 50 else .done (.at k, fr, s)
  | (.ex e, fr, s) => .done (.ex e, fr, s)
section
variable [Interp] [Rules]
def evS (P : Program) [Fast P] [Ab P] (Γ : Ctr) (mf : Nat → Bool) (g : Nat) (ks : List Nat) : Code → Option Nat → Frm → St → Tree Ls
  | .seq a b, none, fr, s => (evS P Γ mf g ks a none fr s).bind fun q => match q with
    | (.ex .normal, fr, s) => late a (evS P Γ mf g ks b none fr s)
    | q => .done q
  | .seq a b, some k, fr, s =>
    bif hasKey k a then (evS P Γ mf g ks a (some k) fr s).bind fun q => match q with
      | (.ex .normal, fr, s) => late a (evS P Γ mf g ks b none fr s)
      | q => .done q
    else late a (evS P Γ mf g ks b (some k) fr s)
  | .block id c, st, fr, s => (evS P Γ mf g ks c st fr s).bind fun q => match q with
    | (.ex (.exit id'), fr, s) => bif Nat.beq id' id then .done (.ex .normal, fr, s) else .done (.ex (.exit id'), fr, s)
    | q => .done q
  | .scope c, st, fr, s => (evS P Γ mf g ks c st fr s).bind fun q => match q with
    | (.ex (.goto _), fr, s) => .fail 51
    | q => .done q
  | .cond x a b, none, fr, s =>
    bif anyKey ks (.cond x a b) then
      match opnd fr x with
      | .a (.one (.bool c)) => br c s.pi fun π t => bif t then evS P Γ mf g ks a none fr ⟨π, s.H, s.n⟩ else late a (evS P Γ mf g ks b none fr ⟨π, s.H, s.n⟩)
      | _ => .fail 52
    else lift (evCode P Γ mf g false (.cond x a b) fr s)
  | .cond x a b, some k, fr, s => bif hasKey k a then evS P Γ mf g ks a (some k) fr s else late a (evS P Γ mf g ks b (some k) fr s)
  | .loop c, none, fr, s =>
    match keyOf c with
    | some k => bif memN ks k then .done (.at k, fr, s) else lift (evCode P Γ mf g false (.loop c) fr s)
    | none => lift (evCode P Γ mf g false (.loop c) fr s)
  | .loop c, some k, fr, s => (evCode P Γ mf g false c fr s).bind fun q => match q with
    | (.normal, fr, s) => .done (.at k, fr, s)
    | (e, fr, s) => .done (.ex e, fr, s)
  | c, none, fr, s => lift (evCode P Γ mf g false c fr s)
  | _, some _, _, _ => .fail 53
end
/-- What has to hold at a loop's head, of so many rounds at most. -/
def wpAt (P : Program) (m k : Nat) : Code → (Exit → Act → World → Prop) → Act → World → Prop
  | .seq a b, Q => if hasKey k a = true then wpAt P m k a (Exit.then (b.wp P Q) Q) else wpAt P m k b Q
  | .block id c, Q => wpAt P m k c (Exit.inBlock id Q)
  | .scope c, Q => wpAt P m k c (Exit.noGoto Q)
  | .cond _ a b, Q => if hasKey k a = true then wpAt P m k a Q else wpAt P m k b Q
  | .loop c, Q => Code.rounds P c Q m
  | _, _ => fun _ _ => False
section
variable [Interp] [Rules] [Vars]
theorem lift_leads {L : Bl → Ls → Prop} {t : Tree Ex} {β : Bl} (h : (lift t).Leads L β) : t.Leads (fun β' q => L β' (.ex q.1, q.2.1, q.2.2)) β := Tree.Leads.mono (fun β' q h => h) (bind_leads h)
theorem late_leads {L : Bl → Ls → Prop} {a : Code} {t : Tree Ls} {β : Bl} (h : (late a t).Leads L β) : t.Leads (fun β' q => L β' q ∧ ∀ k, q.1 = .at k → hasKey k a = false) β := by
  refine Tree.Leads.mono (fun β' q h => ?_) (bind_leads h)
  obtain ⟨lv, fr, s⟩ := q
  cases lv with
  | ex e => exact ⟨h, fun k hk => by cases hk⟩
  | «at» k =>
    simp only at h
    rw [Bool.cond_eq_ite] at h
    split at h
    · exact h.elim
    · rename_i hk
      exact ⟨h, fun k' hk' => by cases hk'; simpa using hk⟩
/-- Where a way that comes to loop k' goes on. -/
def Goes (P : Program) (st : Option Nat) (m : Nat) (c : Code) (Q : Exit → Act → World → Prop) (a : Act) (w : World) (k' : Nat) : Prop :=
  (st = some k' → wpAt P m k' c Q a w) ∧ (st ≠ some k' → ∃ m', wpAt P m' k' c Q a w)
theorem Goes.imp {P : Program} {st : Option Nat} {m : Nat} {c d : Code} {Q Q' : Exit → Act → World → Prop} {a : Act} {w : World} {k' : Nat} (h : ∀ m, wpAt P m k' c Q a w → wpAt P m k' d Q' a w) (g : Goes P st m c Q a w k') : Goes P st m d Q' a w k' :=
  ⟨fun e => h _ (g.1 e), fun e => let ⟨m', x⟩ := g.2 e; ⟨m', h _ x⟩⟩
theorem Goes.none {P : Program} {m : Nat} {c : Code} {Q : Exit → Act → World → Prop} {a : Act} {w : World} {k' : Nat} {st : Option Nat} (g : Goes P st m c Q a w k') : Goes P none m c Q a w k' := by
  refine ⟨fun e => (by cases e), fun _ => ?_⟩
  by_cases h : st = some k'
  · exact ⟨m, g.1 h⟩
  · exact g.2 h
variable {P : Program} [Fast P] [Ab P] [AbOk P]
theorem evS_ok (hn : NoGos P) (hm : P.follows .mixedOrders = true) {Γ : Ctr} (hΓ : CtrOk P Γ) {mf : Nat → Bool} {g : Nat} {ks : List Nat} (m : Nat) :
    ∀ (c : Code) (st : Option Nat) (fr : Frm) (s : St) (L : Bl → Ls → Prop) (β : Bl) (a : Act) (w : World) (R : HProp) (Q : Exit → Act → World → Prop), (evS P Γ mf g ks c st fr s).Leads L β → FrIs s.n β fr a.tmps → a.defers = [] → At β s w R →
      (∀ β' e fr' s' a' w', L β' (.ex e, fr', s') → FrIs s'.n β' fr' a'.tmps → a'.defers = [] → Out β s w R β' s' w' → Q e a' w') →
      (∀ β' k' fr' s' a' w', L β' (.at k', fr', s') → hasKey k' c = true → FrIs s'.n β' fr' a'.tmps → a'.defers = [] → Out β s w R β' s' w' → Goes P st m c Q a' w' k') →
      (st = none → c.wp P Q a w) ∧ (∀ k, st = some k → hasKey k c = true → wpAt P (m + 1) k c Q a w) := by
  have leaf : ∀ (c : Code) (fr : Frm) (s : St) (L : Bl → Ls → Prop) (β : Bl) (a : Act) (w : World) (R : HProp) (Q : Exit → Act → World → Prop), (lift (evCode P Γ mf g false c fr s)).Leads L β → FrIs s.n β fr a.tmps → a.defers = [] → At β s w R →
      (∀ β' e fr' s' a' w', L β' (.ex e, fr', s') → FrIs s'.n β' fr' a'.tmps → a'.defers = [] → Out β s w R β' s' w' → Q e a' w') → c.wp P Q a w :=
    fun c fr s L β a w R Q hl hf hd hw hex => evCode_ok hn hm hΓ mf g false c fr s _ β a w R Q (lift_leads hl) hf hd hw fun β' e fr' s' a' w' h1 h2 h3 h4 => hex β' e fr' s' a' w' h1 h2 h3 h4
  intro c
  induction c with
  | seq x y ihx ihy =>
    intro st fr s L β a w R Q hl hf hd hw hex hat
    have tail : ∀ (st0 : Option Nat) {β' : Bl} {fr' : Frm} {s' : St} {a' : Act} {w' : World}, (late x (evS P Γ mf g ks y none fr' s')).Leads L β' → FrIs s'.n β' fr' a'.tmps → a'.defers = [] → Out β s w R β' s' w' → y.wp P Q a' w' := by
      intro st0 β' fr' s' a' w' h1 h2 h3 h4
      refine (ihy none fr' s' _ β' a' w' R Q (late_leads h1) h2 h3 h4.at_ (fun β'' e fr'' s'' a'' w'' k1 k2 k3 k4 => hex β'' e fr'' s'' a'' w'' k1.1 k2 k3 (h4.trans k4)) fun β'' k' fr'' s'' a'' w'' k1 kk k2 k3 k4 => ?_).1 rfl
      have hx : hasKey k' x = false := k1.2 k' rfl
      have := hat β'' k' fr'' s'' a'' w'' k1.1 (by unfold hasKey; rw [hx]; exact kk) k2 k3 (h4.trans k4)
      refine Goes.none (Goes.imp (fun m h => ?_) this)
      unfold wpAt at h
      rw [if_neg (by rw [hx]; simp)] at h
      exact h
    cases st with
    | none =>
      refine ⟨fun _ => ?_, fun k hk => by cases hk⟩
      unfold evS at hl
      refine wp_seq ((ihx none fr s _ β a w R _ (bind_leads hl) hf hd hw (fun β' e fr' s' a' w' h1 h2 h3 h4 => ?_) fun β' k' fr' s' a' w' h1 hk h2 h3 h4 => ?_).1 rfl)
      · cases e with
        | normal => exact tail none h1 h2 h3 h4
        | exit id => exact hex β' _ fr' s' a' w' h1 h2 h3 h4
        | goto l => exact hex β' _ fr' s' a' w' h1 h2 h3 h4
        | ret => exact hex β' _ fr' s' a' w' h1 h2 h3 h4
        | panic ch => exact hex β' _ fr' s' a' w' h1 h2 h3 h4
        | outgrown => exact hex β' _ fr' s' a' w' h1 h2 h3 h4
      · have := hat β' k' fr' s' a' w' h1 (by unfold hasKey; rw [hk]; rfl) h2 h3 h4
        refine Goes.imp (fun m h => ?_) this
        unfold wpAt at h
        rw [if_pos hk] at h
        exact h
    | some k =>
      refine ⟨(fun h => by cases h), fun k1 hk1 hkey => ?_⟩
      cases hk1
      unfold evS at hl
      rw [Bool.cond_eq_ite] at hl
      unfold wpAt
      split at hl
      · rename_i hkx
        rw [if_pos hkx]
        refine (ihx (some k) fr s _ β a w R _ (bind_leads hl) hf hd hw (fun β' e fr' s' a' w' h1 h2 h3 h4 => ?_) fun β' k' fr' s' a' w' h1 hk h2 h3 h4 => ?_).2 k rfl hkx
        · cases e with
          | normal => exact tail (some k) h1 h2 h3 h4
          | exit id => exact hex β' _ fr' s' a' w' h1 h2 h3 h4
          | goto l => exact hex β' _ fr' s' a' w' h1 h2 h3 h4
          | ret => exact hex β' _ fr' s' a' w' h1 h2 h3 h4
          | panic ch => exact hex β' _ fr' s' a' w' h1 h2 h3 h4
          | outgrown => exact hex β' _ fr' s' a' w' h1 h2 h3 h4
        · have := hat β' k' fr' s' a' w' h1 (by unfold hasKey; rw [hk]; rfl) h2 h3 h4
          refine Goes.imp (fun m h => ?_) this
          unfold wpAt at h
          rw [if_pos hk] at h
          exact h
      · rename_i hkx
        rw [if_neg hkx]
        have hkx' : hasKey k x = false := by simpa using hkx
        refine (ihy (some k) fr s _ β a w R Q (late_leads hl) hf hd hw (fun β' e fr' s' a' w' h1 h2 h3 h4 => hex β' e fr' s' a' w' h1.1 h2 h3 h4) fun β' k' fr' s' a' w' h1 hk h2 h3 h4 => ?_).2 k rfl (by unfold hasKey at hkey; rw [hkx'] at hkey; exact hkey)
        have hx : hasKey k' x = false := h1.2 k' rfl
        have := hat β' k' fr' s' a' w' h1.1 (by unfold hasKey; rw [hx]; exact hk) h2 h3 h4
        refine Goes.imp (fun m h => ?_) this
        unfold wpAt at h
        rw [if_neg (by rw [hx]; simp)] at h
        exact h
  | block id c ih =>
    intro st fr s L β a w R Q hl hf hd hw hex hat
    unfold evS at hl
    have := ih st fr s _ β a w R (Exit.inBlock id Q) (bind_leads hl) hf hd hw (fun β' e fr' s' a' w' h1 h2 h3 h4 => by
      cases e with
      | exit id' =>
        simp only at h1
        simp only [Exit.inBlock]
        cases hid : Nat.beq id' id with
        | true =>
          rw [hid] at h1
          rw [if_pos (Nat.eq_of_beq_eq_true hid)]
          exact hex β' _ fr' s' a' w' h1 h2 h3 h4
        | false =>
          rw [hid] at h1
          rw [if_neg (fun h => by rw [h, Nat.beq_refl] at hid; cases hid)]
          exact hex β' _ fr' s' a' w' h1 h2 h3 h4
      | normal => exact hex β' _ fr' s' a' w' h1 h2 h3 h4
      | goto l => exact hex β' _ fr' s' a' w' h1 h2 h3 h4
      | ret => exact hex β' _ fr' s' a' w' h1 h2 h3 h4
      | panic ch => exact hex β' _ fr' s' a' w' h1 h2 h3 h4
      | outgrown => exact hex β' _ fr' s' a' w' h1 h2 h3 h4) (fun β' k' fr' s' a' w' h1 hk h2 h3 h4 => hat β' k' fr' s' a' w' h1 hk h2 h3 h4)
    exact ⟨fun h => wp_block (this.1 h), fun k hk hkey => this.2 k hk hkey⟩
  | scope c ih =>
    intro st fr s L β a w R Q hl hf hd hw hex hat
    unfold evS at hl
    have := ih st fr s _ β a w R (Exit.noGoto Q) (bind_leads hl) hf hd hw (fun β' e fr' s' a' w' h1 h2 h3 h4 => by
      cases e with
      | goto l => exact h1.elim
      | exit id => exact hex β' _ fr' s' a' w' h1 h2 h3 h4
      | normal => exact hex β' _ fr' s' a' w' h1 h2 h3 h4
      | ret => exact hex β' _ fr' s' a' w' h1 h2 h3 h4
      | panic ch => exact hex β' _ fr' s' a' w' h1 h2 h3 h4
      | outgrown => exact hex β' _ fr' s' a' w' h1 h2 h3 h4) (fun β' k' fr' s' a' w' h1 hk h2 h3 h4 => hat β' k' fr' s' a' w' h1 hk h2 h3 h4)
    exact ⟨fun h => wp_scope_straight (this.1 h), fun k hk hkey => this.2 k hk hkey⟩
  | cond x c1 c2 ih1 ih2 =>
    intro st fr s L β a w R Q hl hf hd hw hex hat
    have hat1 : ∀ β' k' fr' s' a' w', L β' (.at k', fr', s') → hasKey k' c1 = true → FrIs s'.n β' fr' a'.tmps → a'.defers = [] → Out β s w R β' s' w' → Goes P st m c1 Q a' w' k' := by
      intro β' k' fr' s' a' w' h1 hk h2 h3 h4
      have := hat β' k' fr' s' a' w' h1 (by unfold hasKey; rw [hk]; rfl) h2 h3 h4
      refine Goes.imp (fun m h => ?_) this
      unfold wpAt at h
      rw [if_pos hk] at h
      exact h
    have hat2 : ∀ β' k' fr' s' a' w', L β' (.at k', fr', s') → hasKey k' c1 = false → hasKey k' c2 = true → FrIs s'.n β' fr' a'.tmps → a'.defers = [] → Out β s w R β' s' w' → Goes P st m c2 Q a' w' k' := by
      intro β' k' fr' s' a' w' h1 hx hk h2 h3 h4
      have := hat β' k' fr' s' a' w' h1 (by unfold hasKey; rw [hx]; exact hk) h2 h3 h4
      refine Goes.imp (fun m h => ?_) this
      unfold wpAt at h
      rw [if_neg (by rw [hx]; simp)] at h
      exact h
    cases st with
    | none =>
      refine ⟨fun _ => ?_, fun k hk => by cases hk⟩
      unfold evS at hl
      rw [Bool.cond_eq_ite] at hl
      split at hl
      · split at hl
        · rename_i c hx
          have ec : a.eval x = .bool c.tv := (opnd_is hf hx rfl).1
          obtain ⟨π', p1, p2⟩ := br_leads hl hw.pi
          have hw' : At β ⟨π', s.H, s.n⟩ w R := ⟨p1, hw.wf, hw.hold⟩
          have o1 := Out.pi hw p1
          cases ht : c.tv with
          | true =>
            rw [ht] at p2 ec
            exact wp_cond_true ec ((ih1 none fr _ L β a w R Q p2 hf hd hw' (fun β' e fr' s' a' w' h1 h2 h3 h4 => hex β' e fr' s' a' w' h1 h2 h3 (o1.trans h4)) (fun β' k' fr' s' a' w' h1 hk h2 h3 h4 => hat1 β' k' fr' s' a' w' h1 hk h2 h3 (o1.trans h4))).1 rfl)
          | false =>
            rw [ht] at p2 ec
            exact wp_cond_false ec ((ih2 none fr _ _ β a w R Q (late_leads p2) hf hd hw' (fun β' e fr' s' a' w' h1 h2 h3 h4 => hex β' e fr' s' a' w' h1.1 h2 h3 (o1.trans h4)) (fun β' k' fr' s' a' w' h1 hk h2 h3 h4 => hat2 β' k' fr' s' a' w' h1.1 (h1.2 k' rfl) hk h2 h3 (o1.trans h4))).1 rfl)
        · exact hl.elim
      · exact leaf _ fr s L β a w R Q hl hf hd hw hex
    | some k =>
      refine ⟨(fun h => by cases h), fun k1 hk1 hkey => ?_⟩
      cases hk1
      unfold evS at hl
      rw [Bool.cond_eq_ite] at hl
      unfold wpAt
      split at hl
      · rename_i hkx
        rw [if_pos hkx]
        exact (ih1 (some k) fr s L β a w R Q hl hf hd hw hex hat1).2 k rfl hkx
      · rename_i hkx
        rw [if_neg hkx]
        have hkx' : hasKey k c1 = false := by simpa using hkx
        exact (ih2 (some k) fr s _ β a w R Q (late_leads hl) hf hd hw (fun β' e fr' s' a' w' h1 h2 h3 h4 => hex β' e fr' s' a' w' h1.1 h2 h3 h4) (fun β' k' fr' s' a' w' h1 hk h2 h3 h4 => hat2 β' k' fr' s' a' w' h1.1 (h1.2 k' rfl) hk h2 h3 h4)).2 k rfl (by unfold hasKey at hkey; rw [hkx'] at hkey; exact hkey)
  | loop c ih =>
    intro st fr s L β a w R Q hl hf hd hw hex hat
    cases st with
    | none =>
      refine ⟨fun _ => ?_, fun k hk => by cases hk⟩
      unfold evS at hl
      split at hl
      · rename_i k hkey
        rw [Bool.cond_eq_ite] at hl
        split at hl
        · obtain ⟨m', h⟩ := (hat β k fr s a w hl (by unfold hasKey isK; rw [hkey]; exact Nat.beq_refl k) hf hd (Out.refl hw)).2 (by simp)
          exact wp_loop_rounds m' h
        · exact leaf _ fr s L β a w R Q hl hf hd hw hex
      · exact leaf _ fr s L β a w R Q hl hf hd hw hex
    | some k =>
      refine ⟨(fun h => by cases h), fun k1 hk1 hkey => ?_⟩
      cases hk1
      unfold evS at hl
      show Code.rounds P c Q (m + 1) a w
      rw [rounds_succ]
      refine evCode_ok hn hm hΓ mf g false c fr s _ β a w R _ (bind_leads hl) hf hd hw fun β' e fr' s' a' w' h1 h2 h3 h4 => ?_
      cases e with
      | normal => exact (hat β' k fr' s' a' w' h1 hkey h2 h3 h4).1 rfl
      | exit id => exact hex β' _ fr' s' a' w' h1 h2 h3 h4
      | goto l => exact hex β' _ fr' s' a' w' h1 h2 h3 h4
      | ret => exact hex β' _ fr' s' a' w' h1 h2 h3 h4
      | panic ch => exact hex β' _ fr' s' a' w' h1 h2 h3 h4
      | outgrown => exact hex β' _ fr' s' a' w' h1 h2 h3 h4
  | skip | label _ | ret | exit _ | goto _ | region _ _ _ | rangeFunc _ _ _ _ _ _ | refuse _ =>
    intro st fr s L β a w R Q hl hf hd hw hex hat
    cases st with
    | none => exact ⟨fun _ => leaf _ fr s L β a w R Q hl hf hd hw hex, fun k hk => by cases hk⟩
    | some k => exact hl.elim
end
/-! ### a pattern at a loop's head -/
structure Cut where
  key : Nat
  fr : List (Nat × SV)
  sz : Nat
  H : SH
  n : Nat
  pi : Pi
  B : Int
  me : Tm
def Fr.tops : Nat → Fr
  | 0 => .e
  | d + 1 => .n .top (Fr.tops d) (Fr.tops d)
theorem Fr.tops_full : ∀ d, (Fr.tops d).Full d
  | 0 => trivial
  | d + 1 => ⟨tops_full d, tops_full d⟩
theorem Fr.tops_get : ∀ (d i : Nat), (Fr.tops d).get i = .un ∨ ((Fr.tops d).get i).isTop = true
  | 0, _ => .inl rfl
  | d + 1, 0 => .inr rfl
  | d + 1, k + 1 => by
    rw [show Fr.tops (d + 1) = .n .top (Fr.tops d) (Fr.tops d) from rfl, Fr.get_s]
    cases Nat.beq (k % 2) 0 <;> exact tops_get d _
theorem Fr.tops_top : ∀ (d i : Nat), i + 1 < 2 ^ d → ((Fr.tops d).get i).isTop = true
  | 0, _, h => by simp at h
  | d + 1, 0, _ => rfl
  | d + 1, k + 1, h => by
    rw [Nat.pow_succ] at h
    rw [show Fr.tops (d + 1) = .n .top (Fr.tops d) (Fr.tops d) from rfl, Fr.get_s]
    cases Nat.beq (k % 2) 0 <;> exact tops_top d _ (by omega)
def putAll : Fr → List (Nat × SV) → Fr
  | f, [] => f
  | f, (i, v) :: r => putAll (f.set i v) r
def cutF (c : Cut) : Frm := ⟨c.sz, putAll (Fr.tops (dep c.sz)) c.fr⟩
def cutS (c : Cut) : St := ⟨c.pi, c.H, c.n⟩
def ixB (sz : Nat) : List (Nat × SV) → Bool
  | [] => true
  | (i, _) :: r => bif Nat.blt i sz then ixB sz r else false
def Cut.wfB (c : Cut) : Bool := Nat.blt c.sz 4095 && (ixB c.sz c.fr && (hwfB c.n c.H && vwfB c.n c.fr))
theorem putAll_full {D : Nat} : ∀ (l : List (Nat × SV)) (f : Fr), f.Full D → (putAll f l).Full D
  | [], f, h => h
  | (i, v) :: r, f, h => putAll_full r _ (Fr.set_full _ _ _ _ h)
theorem putAll_get : ∀ (l : List (Nat × SV)) (f : Fr) (D : Nat), f.Full D → (∀ q ∈ l, q.1 + 1 < 2 ^ D) → ∀ i, ((putAll f l).get i = f.get i ∧ ∀ v, (i, v) ∉ l) ∨ (i, (putAll f l).get i) ∈ l
  | [], f, D, h, hl, i => .inl ⟨rfl, fun v hv => by cases hv⟩
  | (j, v) :: r, f, D, h, hl, i => by
    rcases putAll_get r (f.set j v) D (Fr.set_full _ _ _ _ h) (fun q hq => hl q (List.mem_cons_of_mem _ hq)) i with ⟨h1, h2⟩ | h1
    · by_cases e : i = j
      · subst e
        right
        show (i, (putAll (f.set i v) r).get i) ∈ _
        rw [h1, Fr.get_set_eq D _ _ _ h (hl _ (List.mem_cons_self ..))]
        exact List.mem_cons_self ..
      · left
        refine ⟨?_, fun u hu => ?_⟩
        · show (putAll (f.set j v) r).get i = _
          rw [h1, Fr.get_set_ne _ _ _ _ e]
        · rcases List.mem_cons.1 hu with hu | hu
          · cases hu; exact e rfl
          · exact h2 u hu
    · exact .inr (List.mem_cons_of_mem _ h1)
theorem ixB_ok {sz : Nat} : ∀ {l : List (Nat × SV)}, ixB sz l = true → ∀ q ∈ l, q.1 < sz
  | [], _, q, hq => by cases hq
  | (i, v) :: r, h, q, hq => by
    unfold ixB at h
    rw [Bool.cond_eq_ite] at h
    split at h
    · rename_i hi
      rcases List.mem_cons.1 hq with rfl | hq
      · exact Nat.le_of_ble_eq_true hi
      · exact ixB_ok h q hq
    · cases h
def allGe (base : Nat) : List (Nat × Tm) → Bool
  | [] => true
  | (i, _) :: r => bif Nat.blt i base then false else allGe base r
theorem allGe_ok {base : Nat} : ∀ {l : List (Nat × Tm)}, allGe base l = true → ∀ i, i < base → lkT l i = none
  | [], _, _, _ => rfl
  | (j, t) :: r, h, i, hi => by
    unfold allGe at h
    rw [Bool.cond_eq_ite] at h
    split at h
    · cases h
    · rename_i hj
      rw [lkT_cons]
      have hne : Nat.beq j i = false := by
        cases hh : Nat.beq j i with
        | false => rfl
        | true =>
          have := Nat.eq_of_beq_eq_true hh
          exfalso; apply hj
          exact Nat.ble_eq_true_of_le (show j + 1 ≤ base by omega)
      rw [hne]
      exact allGe_ok h i hi
section
variable [Interp] [Rules] [Wk]
/-- What a state binds of a pattern. -/
def cutM (base : Nat) (c : Cut) (fr : Frm) (s : St) : Mt := mtH base c.H s.H (mtVs base c.fr fr ⟨[], [], []⟩)
def frcMt {R : Type} (m : Mt) (k : Mt → R) : R := match m with | ⟨σ, τ, ν⟩ => k ⟨σ, τ, ν⟩
theorem frcMt_eq {R : Type} (m : Mt) (k : Mt → R) : frcMt m k = k m := rfl
def fits (base : Nat) (c : Cut) (fr : Frm) (s : St) (p : Mt → Bool) : Bool :=
  bif Nat.beq fr.sz c.sz then frcMt (cutM base c fr s) fun m =>
    bif allGe base m.σ then
    bif chVs s.pi m c.fr fr then
    match chH s.pi m c.H s.H with
    | some _ => bif chPi s.pi m c.pi then p m else false
    | none => false
    else false else false else false
variable [V : Vars]
theorem chVs_ok {π : Pi} (hπ : facts π) {m : Mt} {β : Bl} {fr : Frm} : ∀ {l : List (Nat × SV)}, chVs π m l fr = true → ∀ q ∈ l, (fr.get q.1).den β = @SV.den _ (subV m.σ m.τ β) (subN m.ν β) q.2 ∧ (fr.get q.1).isTop = false
  | [], _, q, hq => by cases hq
  | (i, v) :: r, h, q, hq => by
    unfold chVs at h
    rw [Bool.cond_eq_ite] at h
    split at h
    · rename_i hv
      rcases List.mem_cons.1 hq with rfl | hq
      · exact chW_ok hπ hv β
      · exact chVs_ok hπ h q hq
    · cases h
theorem fits_ok {base : Nat} {c : Cut} {fr : Frm} {s : St} {p : Mt → Bool} (h : fits base c fr s p = true) (hc : c.wfB = true) {β : Bl} {a : Act} {w : World} {R : HProp} (hf : FrIs s.n β fr a.tmps) (hw : At β s w R) :
    ∃ m : Mt, p m = true ∧ (∀ i, i < base → (subV m.σ m.τ β).ρ i = V.ρ i) ∧ @FrIs _ (subV m.σ m.τ β) c.n (subN m.ν β) (cutF c) a.tmps ∧ @At _ (subV m.σ m.τ β) (subN m.ν β) (cutS c) w R := by
  unfold fits at h
  rw [Bool.cond_eq_ite] at h
  split at h
  · rename_i hsz
    have hsz := Nat.eq_of_beq_eq_true hsz
    rw [frcMt_eq] at h
    generalize cutM base c fr s = m at h
    rw [Bool.cond_eq_ite] at h
    split at h
    · rename_i hge
      rw [Bool.cond_eq_ite] at h
      split at h
      · rename_i hvs
        split at h
        · rename_i rest hH
          rw [Bool.cond_eq_ite] at h
          split at h
          · rename_i hpi
            unfold Cut.wfB at hc
            rw [Bool.and_eq_true, Bool.and_eq_true, Bool.and_eq_true] at hc
            obtain ⟨c1, c2, c3, c4⟩ := hc
            have c1 : c.sz < 4095 := Nat.le_of_ble_eq_true c1
            have hlt := dep_ok c1
            have hix := ixB_ok c2
            have hvw := vwfB_ok c4
            have hg := putAll_get c.fr (Fr.tops (dep c.sz)) (dep c.sz) (Fr.tops_full _) (fun q hq => by have := hix q hq; omega)
            refine ⟨m, h, fun i hi => ?_, @FrIs.mk _ (subV m.σ m.τ β) c.n (subN m.ν β) (cutF c) a.tmps ?_ ⟨dep c.sz, putAll_full _ _ (Fr.tops_full _), hlt⟩ (fun i hi => ?_) (fun i => ?_) (fun i hi ht => ?_), @At.mk _ (subV m.σ m.τ β) (subN m.ν β) (cutS c) w R (chPi_ok hw.pi β hpi) (hwfB_ok c3) ?_⟩
            · show (match lkT m.σ i with | some t => t.den | none => Vars.ρ i) = _
              rw [allGe_ok hge i hi]
            · exact hf.size.trans hsz
            · rcases hg i with ⟨h1, _⟩ | h1
              · show (putAll (Fr.tops (dep c.sz)) c.fr).get i = .un ∨ ((putAll (Fr.tops (dep c.sz)) c.fr).get i).isTop = true
                rw [h1]
                exact Fr.tops_get _ _
              · have := hix _ h1
                have hi' : c.sz ≤ i := hi
                exact absurd this (by simp only; omega)
            · rcases hg i with ⟨h1, _⟩ | h1
              · show ((putAll _ _).get i).wf _
                rw [h1]
                rcases Fr.tops_get (dep c.sz) i with e | e
                · rw [e]; exact un_wf _
                · cases hx : (Fr.tops (dep c.sz)).get i <;> rw [hx] at e <;> first | trivial | cases e
              · exact (hvw _ h1).1
            · have hi' : i < c.sz := hi
              rcases hg i with ⟨h1, _⟩ | h1
              · exfalso
                have e : ((putAll (Fr.tops (dep c.sz)) c.fr).get i).isTop = false := ht
                rw [h1, Fr.tops_top _ _ (by omega)] at e
                cases e
              · obtain ⟨e1, e2⟩ := chVs_ok hw.pi (β := β) hvs _ h1
                show a.tmps[i]? = some (@SV.den _ (subV m.σ m.τ β) (subN m.ν β) ((putAll (Fr.tops (dep c.sz)) c.fr).get i))
                rw [← e1]
                exact hf.val i (by rw [hsz]; exact hi') e2
            · have h1 := chH_ok hw.pi (R := R) hH hw.hold
              have h2 : Holds w (hden β rest * (@hden _ (subV m.σ m.τ β) (subN m.ν β) c.H * R)) := h1.cast (by ac_rfl)
              exact h2.drop
          · cases h
        · cases h
      · cases h
    · cases h
  · cases h
end
/-! ### the whole -/
def posOf : List Nat → Nat → Nat
  | [], _ => 0
  | j :: r, i => bif Nat.beq j i then 0 else posOf r i + 1
section
variable [Interp] [Rules] [Wk]
def anyB {α : Type} (p : α → Bool) : List α → Bool
  | [] => false
  | x :: r => bif p x then true else anyB p r
theorem anyB_ok {α : Type} {p : α → Bool} : ∀ {l : List α}, anyB p l = true → ∃ x ∈ l, p x = true
  | [], h => by cases h
  | x :: r, h => by
    unfold anyB at h
    rw [Bool.cond_eq_ite] at h
    split at h
    · rename_i hx; exact ⟨x, List.mem_cons_self .., hx⟩
    · obtain ⟨y, hy, h2⟩ := anyB_ok h; exact ⟨y, List.mem_cons_of_mem _ hy, h2⟩
/-- A way comes to one of the patterns; to the loop that it comes from at less. -/
def okOne (ks : List Nat) (base : Nat) (from_ : Option Cut) (k : Nat) (fr : Frm) (s : St) (c : Cut) : Bool :=
  bif Nat.beq c.key k then fits base c fr s fun m =>
    match from_ with
    | none => true
    | some c0 => bif Nat.beq c0.key k then intBeq c0.B c.B && (pv s.pi true (mkLt c0.me (c.me.sub m.σ)) && pv s.pi true (mkLt c0.me (.lit c0.B))) else Nat.blt (posOf ks c0.key) (posOf ks k) else false
def okAt (ks : List Nat) (base : Nat) (Θ : List Cut) (from_ : Option Cut) (k : Nat) (fr : Frm) (s : St) : Bool :=
  anyB (okOne ks base from_ k fr s) Θ
/-- Where ways part before patterns are held against: at a loop's head, whether a slot is less than a number. -/
abbrev Spl := List (Nat × Nat × Int)
def Spl.find : Spl → Nat → Option (Nat × Int)
  | [], _ => none
  | (k, x) :: r, i => bif Nat.beq k i then some x else Spl.find r i
def okA (sp : Spl) (ks : List Nat) (base : Nat) (Θ : List Cut) (from_ : Option Cut) (k : Nat) (fr : Frm) (s : St) : Bool :=
  match sp.find k with
  | none => okAt ks base Θ from_ k fr s
  | some (i, b) =>
    match fr.get i with
    | .a (.one (.int _ t)) =>
      match dec s.pi (mkLt t (.lit b)) with
      | some _ => okAt ks base Θ from_ k fr s
      | none => bif okAt ks base Θ from_ k fr ⟨(mkLt t (.lit b), true) :: s.pi, s.H, s.n⟩ then okAt ks base Θ from_ k fr ⟨(mkLt t (.lit b), false) :: s.pi, s.H, s.n⟩ else false
    | _ => false
def okL (sp : Spl) (ks : List Nat) (base : Nat) (Θ : List Cut) (fin : Exit → Frm → St → Bool) (from_ : Option Cut) (q : Ls) : Bool :=
  match q with
  | (.at k, fr, s) => okA sp ks base Θ from_ k fr s
  | (.ex e, fr, s) => fin e fr s
def chkCut (P : Program) [Fast P] [Ab P] (Γ : Ctr) (mf : Nat → Bool) (g : Nat) (sp : Spl) (ks : List Nat) (base : Nat) (Θ : List Cut) (fin : Exit → Frm → St → Bool) (body : Code) (c : Cut) : Bool :=
  c.wfB && (hasKey c.key body && (evS P Γ mf g ks body (some c.key) (cutF c) (cutS c)).allB (okL sp ks base Θ fin (some c)))
/-! ### the same, where it is told which pattern each way comes to -/
def nthC : List Cut → Nat → Option Cut
  | [], _ => none
  | c :: r, i => match i with
    | 0 => some c
    | j + 1 => nthC r j
def okAtH (ks : List Nat) (base : Nat) (Θ : List Cut) (from_ : Option Cut) (k : Nat) (fr : Frm) (s : St) (h : List Nat) : Option (List Nat) :=
  match h with
  | [] => none
  | i :: r =>
    match nthC Θ i with
    | some c => bif okOne ks base from_ k fr s c then some r else none
    | none => none
def okAH (sp : Spl) (ks : List Nat) (base : Nat) (Θ : List Cut) (from_ : Option Cut) (k : Nat) (fr : Frm) (s : St) (h : List Nat) : Option (List Nat) :=
  match sp.find k with
  | none => okAtH ks base Θ from_ k fr s h
  | some (i, b) =>
    match fr.get i with
    | .a (.one (.int _ t)) =>
      match dec s.pi (mkLt t (.lit b)) with
      | some _ => okAtH ks base Θ from_ k fr s h
      | none => match okAtH ks base Θ from_ k fr ⟨(mkLt t (.lit b), true) :: s.pi, s.H, s.n⟩ h with
        | some h => okAtH ks base Θ from_ k fr ⟨(mkLt t (.lit b), false) :: s.pi, s.H, s.n⟩ h
        | none => none
    | _ => none
def okLH (sp : Spl) (ks : List Nat) (base : Nat) (Θ : List Cut) (fin : Exit → Frm → St → Bool) (from_ : Option Cut) (q : Ls) (h : List Nat) : Option (List Nat) :=
  match q with
  | (.at k, fr, s) => okAH sp ks base Θ from_ k fr s h
  | (.ex e, fr, s) => bif fin e fr s then some h else none
def allH {α : Type} (p : α → List Nat → Option (List Nat)) : Tree α → List Nat → Option (List Nat)
  | .done x, h => p x h
  | .ite _ a b, h => match allH p a h with
    | some h => allH p b h
    | none => none
  | .new _ t, h => allH p t h
  | .both a b, h => match allH p a h with
    | some h => allH p b h
    | none => none
  | .fail _, _ => none
theorem allH_ok {α : Type} {p : α → List Nat → Option (List Nat)} {q : α → Bool} (hq : ∀ x h h', p x h = some h' → q x = true) : ∀ {t : Tree α} {h h' : List Nat}, allH p t h = some h' → t.allB q = true
  | .done x, h, h', e => hq x h h' e
  | .ite c a b, h, h', e => by
    unfold allH at e
    split at e
    · rename_i h1 e1
      show (bif a.allB q then b.allB q else false) = true
      rw [allH_ok hq e1, allH_ok hq e]; rfl
    · cases e
  | .new n t, h, h', e => allH_ok (t := t) hq e
  | .both a b, h, h', e => by
    unfold allH at e
    split at e
    · rename_i h1 e1
      show (bif a.allB q then b.allB q else false) = true
      rw [allH_ok hq e1, allH_ok hq e]; rfl
    · cases e
  | .fail _, _, _, e => by cases e
theorem nthC_mem : ∀ {l : List Cut} {i : Nat} {c : Cut}, nthC l i = some c → c ∈ l
  | [], i, c, h => by cases h
  | d :: r, i, c, h => by
    unfold nthC at h
    split at h
    · cases h; exact List.mem_cons_self ..
    · exact List.mem_cons_of_mem _ (nthC_mem h)
theorem anyB_mem {α : Type} {p : α → Bool} : ∀ {l : List α} {x : α}, x ∈ l → p x = true → anyB p l = true
  | [], x, h, _ => by cases h
  | y :: r, x, h, hp => by
    unfold anyB
    rw [Bool.cond_eq_ite]
    split
    · rfl
    · rename_i hn
      rcases List.mem_cons.1 h with rfl | h
      · exact absurd hp hn
      · exact anyB_mem h hp
theorem okAtH_ok {ks : List Nat} {base : Nat} {Θ : List Cut} {from_ : Option Cut} {k : Nat} {fr : Frm} {s : St} {h h' : List Nat} (e : okAtH ks base Θ from_ k fr s h = some h') : okAt ks base Θ from_ k fr s = true := by
  unfold okAtH at e
  split at e
  · cases e
  · split at e
    · rename_i c hc
      rw [Bool.cond_eq_ite] at e
      split at e
      · rename_i ho; exact anyB_mem (nthC_mem hc) ho
      · cases e
    · cases e
theorem okAH_ok {sp : Spl} {ks : List Nat} {base : Nat} {Θ : List Cut} {from_ : Option Cut} {k : Nat} {fr : Frm} {s : St} {h h' : List Nat} (e : okAH sp ks base Θ from_ k fr s h = some h') : okA sp ks base Θ from_ k fr s = true := by
  unfold okAH at e
  unfold okA
  cases hf : sp.find k with
  | none =>
    rw [hf] at e
    exact okAtH_ok e
  | some ib =>
    obtain ⟨i, b⟩ := ib
    rw [hf] at e
    dsimp only at e ⊢
    generalize fr.get i = g at e ⊢
    split at e
    · rename_i t
      cases hd : dec s.pi (mkLt t (.lit b)) with
      | some c =>
        rw [hd] at e
        exact okAtH_ok e
      | none =>
        rw [hd] at e
        dsimp only at e ⊢
        split at e
        · rename_i h1 e1
          rw [okAtH_ok e1, okAtH_ok e]; rfl
        · cases e
    · cases e
theorem okLH_ok {sp : Spl} {ks : List Nat} {base : Nat} {Θ : List Cut} {fin : Exit → Frm → St → Bool} {from_ : Option Cut} (q : Ls) (h h' : List Nat) (e : okLH sp ks base Θ fin from_ q h = some h') : okL sp ks base Θ fin from_ q = true := by
  obtain ⟨l, fr, s⟩ := q
  cases l with
  | «at» k => exact okAH_ok (show okAH sp ks base Θ from_ k fr s h = some h' from e)
  | ex x =>
    have e : (bif fin x fr s then some h else none) = some h' := e
    rw [Bool.cond_eq_ite] at e
    split at e
    · rename_i hf; exact hf
    · cases e
def chkCutH (P : Program) [Fast P] [Ab P] (Γ : Ctr) (mf : Nat → Bool) (g : Nat) (sp : Spl) (ks : List Nat) (base : Nat) (Θ : List Cut) (fin : Exit → Frm → St → Bool) (body : Code) (c : Cut) (h : List Nat) : Bool :=
  c.wfB && (hasKey c.key body && (match allH (okLH sp ks base Θ fin (some c)) (evS P Γ mf g ks body (some c.key) (cutF c) (cutS c)) h with
    | some _ => true
    | none => false))
theorem chkCutH_ok {P : Program} [Fast P] [Ab P] {Γ : Ctr} {mf : Nat → Bool} {g : Nat} {sp : Spl} {ks : List Nat} {base : Nat} {Θ : List Cut} {fin : Exit → Frm → St → Bool} {body : Code} {c : Cut} (h : List Nat)
    (e : chkCutH P Γ mf g sp ks base Θ fin body c h = true) : chkCut P Γ mf g sp ks base Θ fin body c = true := by
  unfold chkCutH at e
  unfold chkCut
  rw [Bool.and_eq_true, Bool.and_eq_true] at e
  obtain ⟨e1, e2, e3⟩ := e
  rw [e1, e2, Bool.true_and, Bool.true_and]
  split at e3
  · rename_i h' hh
    exact allH_ok okLH_ok hh
  · cases e3
theorem allHL {sp : Spl} {ks : List Nat} {base : Nat} {Θ : List Cut} {fin : Exit → Frm → St → Bool} {from_ : Option Cut} {t : Tree Ls} (h : List Nat)
    (e : (match allH (okLH sp ks base Θ fin from_) t h with
      | some _ => true
      | none => false) = true) : t.allB (okL sp ks base Θ fin from_) = true := by
  split at e
  · rename_i h' hh
    exact allH_ok okLH_ok hh
  · cases e
def meas [Vars] (c : Cut) : Nat := (c.B - c.me.v).toNat
/-- What holds at a loop's head. -/
def Inv [V0 : Vars] (base : Nat) (Θ : List Cut) (w0 : World) (R : HProp) (k m : Nat) (a : Act) (w : World) : Prop :=
  ∃ c ∈ Θ, c.key = k ∧ ∃ (V : Vars) (β : Bl), (∀ i, i < base → V.ρ i = V0.ρ i) ∧ @FrIs _ V c.n β (cutF c) a.tmps ∧ a.defers = [] ∧ @At _ V β (cutS c) w R ∧ Strm w0 w ∧ @meas _ V c < m
/-- What holds at the end. -/
def Fin [V0 : Vars] (base : Nat) (fin : Exit → Frm → St → Bool) (w0 : World) (R : HProp) (e : Exit) (a : Act) (w : World) : Prop :=
  ∃ (V : Vars) (β : Bl) (fr : Frm) (s : St), (∀ i, i < base → V.ρ i = V0.ρ i) ∧ fin e fr s = true ∧ @FrIs _ V s.n β fr a.tmps ∧ a.defers = [] ∧ @At _ V β s w R ∧ Strm w0 w
variable {P : Program} [Fast P] [Ab P] [okP : ∀ [Vars], AbOk P]
theorem okAt_inv [V0 : Vars] {ks : List Nat} {base : Nat} {Θ : List Cut} (hwf : ∀ c ∈ Θ, c.wfB = true) {from_ : Option Cut} {k : Nat} {fr : Frm} {s : St} {V : Vars} {β : Bl} {a : Act} {w w0 : World} {R : HProp}
    (h : okAt ks base Θ from_ k fr s = true) (hV : ∀ i, i < base → V.ρ i = V0.ρ i) (hf : @FrIs _ V s.n β fr a.tmps) (hd : a.defers = []) (hw : @At _ V β s w R) (hs : Strm w0 w) :
    ∃ m, Inv (V0 := V0) base Θ w0 R k (m + 1) a w ∧ ∀ c0, from_ = some c0 → (c0.key = k → m < @meas _ V c0) ∧ (c0.key ≠ k → posOf ks c0.key < posOf ks k) := by
  obtain ⟨c, hc, h1⟩ := anyB_ok h
  unfold okOne at h1
  rw [Bool.cond_eq_ite] at h1
  split at h1
  · rename_i hk
    have hk := Nat.eq_of_beq_eq_true hk
    obtain ⟨m, hp, g1, g2, g3⟩ := @fits_ok _ _ _ V base c fr s _ h1 (hwf c hc) β a w R hf hw
    refine ⟨@meas _ (@subV _ V m.σ m.τ β) c, ⟨c, hc, hk, @subV _ V m.σ m.τ β, _, fun i hi => (g1 i hi).trans (hV i hi), g2, hd, g3, hs, Nat.lt_succ_self _⟩, fun c0 e => ?_⟩
    subst e
    simp only at hp
    rw [Bool.cond_eq_ite] at hp
    split at hp
    · rename_i hk0
      have hk0 := Nat.eq_of_beq_eq_true hk0
      refine ⟨fun _ => ?_, fun h => absurd hk0 h⟩
      rw [Bool.and_eq_true, Bool.and_eq_true] at hp
      obtain ⟨b1, b2, b3⟩ := hp
      have b1 := intBeq_eq b1
      have b2 := @pv_ok _ _ V s.pi hw.pi _ _ b2
      have b3 := @pv_ok _ _ V s.pi hw.pi _ _ b3
      rw [@mkLt_tv _ V] at b2 b3
      rw [@lit_v _ V] at b3
      have b2 := of_decide_eq_true b2
      have b3 := of_decide_eq_true b3
      rw [@sub_v _ _ V m.σ m.τ β] at b2
      unfold meas
      omega
    · rename_i hk0
      exact ⟨fun h => absurd (by rw [h]; exact Nat.beq_refl k) hk0, fun _ => Nat.le_of_ble_eq_true hp⟩
  · cases h1
theorem okA_inv [V0 : Vars] {sp : Spl} {ks : List Nat} {base : Nat} {Θ : List Cut} (hwf : ∀ c ∈ Θ, c.wfB = true) {from_ : Option Cut} {k : Nat} {fr : Frm} {s : St} {V : Vars} {β : Bl} {a : Act} {w w0 : World} {R : HProp}
    (h : okA sp ks base Θ from_ k fr s = true) (hV : ∀ i, i < base → V.ρ i = V0.ρ i) (hf : @FrIs _ V s.n β fr a.tmps) (hd : a.defers = []) (hw : @At _ V β s w R) (hs : Strm w0 w) :
    ∃ m, Inv (V0 := V0) base Θ w0 R k (m + 1) a w ∧ ∀ c0, from_ = some c0 → (c0.key = k → m < @meas _ V c0) ∧ (c0.key ≠ k → posOf ks c0.key < posOf ks k) := by
  unfold okA at h
  split at h
  · exact okAt_inv (V0 := V0) hwf h hV hf hd hw hs
  · rename_i i b _
    split at h
    · rename_i t _
      split at h
      · exact okAt_inv (V0 := V0) hwf h hV hf hd hw hs
      · rw [Bool.cond_eq_ite] at h
        split at h
        · rename_i h1
          cases hb : @Tm.tv _ V (mkLt t (.lit b)) with
          | true => exact okAt_inv (V0 := V0) hwf h1 hV hf hd ⟨facts_cons hw.pi hb, hw.wf, hw.hold⟩ hs
          | false => exact okAt_inv (V0 := V0) hwf h hV hf hd ⟨facts_cons hw.pi hb, hw.wf, hw.hold⟩ hs
        · cases h
    · cases h
/-! ### objects that may be there, where it is known whether they are -/
def repC (i : Nat) (d : SC) : SC → SC
  | .any j => bif Nat.beq j i then d else .any j
  | c => c
def repH (i : Nat) (d : SC) : SH → SH
  | [] => []
  | (m, .cells l T) :: r => (m, .cells (l.map (repC i d)) T) :: repH i d r
  | q :: r => q :: repH i d r
def nrm1 (π : Pi) (nm : Nat) (H : SH) : SH :=
  match find H nm with
  | some (.opt c k x i z) =>
    match dec π c with
    | some false => repH i (.ptr nm 0) (put H nm (.abs k x []))
    | some true => bif z then repH i .nil (del H nm) else del H nm
    | none => H
  | _ => H
def nrm (π : Pi) : List Nat → SH → SH
  | [], H => H
  | nm :: r, H => nrm π r (nrm1 π nm H)
omit okP in
theorem repC_den [Vars] {β : Bl} {i : Nat} {d : SC} (hd : d.den β = Vars.ω i) (c : SC) : (repC i d c).den β = c.den β := by
  unfold repC
  split
  · rename_i j
    rw [Bool.cond_eq_ite]
    split
    · rename_i h; rw [hd, ← Nat.eq_of_beq_eq_true h]; rfl
    · rfl
  · rfl
omit okP in
theorem repH_den [Vars] {β : Bl} {i : Nat} {d : SC} (hd : d.den β = Vars.ω i) : ∀ H : SH, hden β (repH i d H) = hden β H
  | [] => rfl
  | (m, .cells l T) :: r => by
    show (pt (β m) (.cells (dens β (l.map (repC i d))) T (0, 0)) * hden β (repH i d r) : HProp) = pt (β m) (.cells (dens β l) T (0, 0)) * hden β r
    rw [repH_den hd r]
    congr 3
    unfold dens
    rw [List.map_map]
    congr 1
    exact List.map_congr_left fun c _ => repC_den hd c
  | (m, .abs k x ns) :: r => by
    show (SO.den β (β m) (.abs k x ns) * hden β (repH i d r) : HProp) = SO.den β (β m) (.abs k x ns) * hden β r
    rw [repH_den hd r]
  | (m, .row l T sz cn) :: r => by
    show (SO.den β (β m) (.row l T sz cn) * hden β (repH i d r) : HProp) = SO.den β (β m) (.row l T sz cn) * hden β r
    rw [repH_den hd r]
  | (m, .opt c k x j z) :: r => by
    show (SO.den β (β m) (.opt c k x j z) * hden β (repH i d r) : HProp) = SO.den β (β m) (.opt c k x j z) * hden β r
    rw [repH_den hd r]
omit okP in
theorem repH_wf {n i : Nat} {d : SC} (hd : d.wf n) : ∀ {H : SH}, hwf n H → hwf n (repH i d H)
  | [], _ => fun q hq => (by cases hq)
  | (m, .cells l T) :: r, h => by
    intro q hq
    rcases List.mem_cons.1 hq with rfl | hq
    · refine ⟨(h _ (List.mem_cons_self ..)).1, ?_⟩
      intro c hc
      obtain ⟨e, he, rfl⟩ := List.mem_map.1 hc
      have := (h _ (List.mem_cons_self ..)).2 e he
      unfold repC
      split
      · rw [Bool.cond_eq_ite]
        split
        · exact hd
        · trivial
      · exact this
    · exact repH_wf hd (fun q hq => h q (List.mem_cons_of_mem _ hq)) q hq
  | (m, .abs k x ns) :: r, h => by
    intro q hq
    rcases List.mem_cons.1 hq with rfl | hq
    · exact h _ (List.mem_cons_self ..)
    · exact repH_wf hd (fun q hq => h q (List.mem_cons_of_mem _ hq)) q hq
  | (m, .row l T sz cn) :: r, h => by
    intro q hq
    rcases List.mem_cons.1 hq with rfl | hq
    · exact h _ (List.mem_cons_self ..)
    · exact repH_wf hd (fun q hq => h q (List.mem_cons_of_mem _ hq)) q hq
  | (m, .opt c k x j z) :: r, h => by
    intro q hq
    rcases List.mem_cons.1 hq with rfl | hq
    · exact h _ (List.mem_cons_self ..)
    · exact repH_wf hd (fun q hq => h q (List.mem_cons_of_mem _ hq)) q hq
omit okP in
theorem nrm1_ok [Vars] {π : Pi} (hπ : facts π) {n nm : Nat} {H : SH} (hH : hwf n H) {β : Bl} {w : World} {R : HProp} (hw : Holds w (hden β H * R)) : hwf n (nrm1 π nm H) ∧ Holds w (hden β (nrm1 π nm H) * R) := by
  unfold nrm1
  split
  · rename_i c k x i z hf
    have h1 : Holds w ((bif c.tv then andP (z = true → Vars.ω i = .pointer none) emp else andP (Vars.ω i = .pointer (some ⟨β nm, 0, none⟩)) (Interp.ob k x.den [] (β nm))) * (hden β (del H nm) * R)) := focus hf hw
    have hd : hwf n (del H nm) := fun q hq => hH q (del_mem hq)
    have hnm := (hH _ (find_mem hf)).1
    split
    · rename_i hc
      rw [dec_ok hπ hc] at h1
      obtain ⟨e, h2⟩ := holds_and h1
      refine ⟨repH_wf (show (SC.ptr nm 0).wf n from hnm) (put_wf hH (fun m hm => by cases hm)), ?_⟩
      rw [repH_den (show (SC.ptr nm 0).den β = _ from e.symm)]
      exact unfocus hf (o1 := .abs k x []) h2
    · rename_i hc
      rw [dec_ok hπ hc] at h1
      obtain ⟨e, h2⟩ := holds_and h1
      rw [star_empl] at h2
      rw [Bool.cond_eq_ite]
      split
      · rename_i hz
        refine ⟨repH_wf (show (SC.nil).wf n from trivial) hd, ?_⟩
        rw [repH_den (show (SC.nil).den β = _ from (e hz).symm)]
        exact h2
      · exact ⟨hd, h2⟩
    · exact ⟨hH, hw⟩
  · exact ⟨hH, hw⟩
omit okP in
theorem nrm_ok [Vars] {π : Pi} (hπ : facts π) {n : Nat} : ∀ {l : List Nat} {H : SH} (hH : hwf n H) {β : Bl} {w : World} {R : HProp} (hw : Holds w (hden β H * R)), hwf n (nrm π l H) ∧ Holds w (hden β (nrm π l H) * R)
  | [], H, hH, β, w, R, hw => ⟨hH, hw⟩
  | nm :: r, H, hH, β, w, R, hw => by
    obtain ⟨h1, h2⟩ := nrm1_ok hπ (nm := nm) hH hw
    exact nrm_ok hπ h1 h2
/-- From a pattern on all ways are good, with what is known and a heap: by one check, or by more. -/
def PartP (P : Program) [Fast P] [Ab P] (Γ : Ctr) (mf : Nat → Bool) (g : Nat) (sp : Spl) (ks : List Nat) (base : Nat) (Θ : List Cut) (fin : Exit → Frm → St → Bool) (body : Code) (c : Cut) (π : Pi) (H : SH) : Prop :=
  ∀ (V : Vars) (β : Bl) (w : World) (R : HProp), @facts _ V π → hwf c.n H → Holds w (@hden _ V β H * R) →
    ∃ (π' : Pi) (H' : SH), @facts _ V π' ∧ hwf c.n H' ∧ Holds w (@hden _ V β H' * R) ∧ (evS P Γ mf g ks body (some c.key) (cutF c) ⟨π', H', c.n⟩).allB (okL sp ks base Θ fin (some c)) = true
def oneB (P : Program) [Fast P] [Ab P] (Γ : Ctr) (mf : Nat → Bool) (g : Nat) (sp : Spl) (ks : List Nat) (base : Nat) (Θ : List Cut) (fin : Exit → Frm → St → Bool) (body : Code) (c : Cut) (π : Pi) (H : SH) (h : List Nat) : Bool :=
  match allH (okLH sp ks base Θ fin (some c)) (evS P Γ mf g ks body (some c.key) (cutF c) ⟨π, H, c.n⟩) h with
  | some _ => true
  | none => false
omit okP in
theorem PartP.one {Γ : Ctr} {mf : Nat → Bool} {g : Nat} {sp : Spl} {ks : List Nat} {base : Nat} {Θ : List Cut} {fin : Exit → Frm → St → Bool} {body : Code} {c : Cut} {π : Pi} {H : SH} (h : List Nat)
    (e : oneB P Γ mf g sp ks base Θ fin body c π H h = true) : PartP P Γ mf g sp ks base Θ fin body c π H := fun _ _ _ _ hV hH hw => ⟨π, H, hV, hH, hw, allHL h e⟩
omit okP in
theorem PartP.two {Γ : Ctr} {mf : Nat → Bool} {g : Nat} {sp : Spl} {ks : List Nat} {base : Nat} {Θ : List Cut} {fin : Exit → Frm → St → Bool} {body : Code} {c : Cut} {π : Pi} {H : SH} {t : Tm}
    (h1 : PartP P Γ mf g sp ks base Θ fin body c ((t, true) :: π) H) (h2 : PartP P Γ mf g sp ks base Θ fin body c ((t, false) :: π) H) : PartP P Γ mf g sp ks base Θ fin body c π H := by
  intro V β w R hV hH hw
  cases ht : @Tm.tv _ V t with
  | true => exact h1 V β w R (facts_cons hV ht) hH hw
  | false => exact h2 V β w R (facts_cons hV ht) hH hw
omit okP in
/-- The same of the heap in which it is known which objects are there. -/
theorem PartP.nrm {Γ : Ctr} {mf : Nat → Bool} {g : Nat} {sp : Spl} {ks : List Nat} {base : Nat} {Θ : List Cut} {fin : Exit → Frm → St → Bool} {body : Code} {c : Cut} {π : Pi} {H : SH} (l : List Nat)
    (h : PartP P Γ mf g sp ks base Θ fin body c π (nrm π l H)) : PartP P Γ mf g sp ks base Θ fin body c π H := by
  intro V β w R hV hH hw
  obtain ⟨h1, h2⟩ := @nrm_ok _ _ _ V π hV c.n l H hH β w R hw
  exact h V β w R hV h1 h2
def CutP (P : Program) [Fast P] [Ab P] (Γ : Ctr) (mf : Nat → Bool) (g : Nat) (sp : Spl) (ks : List Nat) (base : Nat) (Θ : List Cut) (fin : Exit → Frm → St → Bool) (body : Code) (c : Cut) : Prop :=
  c.wfB = true ∧ hasKey c.key body = true ∧ PartP P Γ mf g sp ks base Θ fin body c c.pi c.H
omit okP in
theorem CutP.of {Γ : Ctr} {mf : Nat → Bool} {g : Nat} {sp : Spl} {ks : List Nat} {base : Nat} {Θ : List Cut} {fin : Exit → Frm → St → Bool} {body : Code} {c : Cut}
    (h : chkCut P Γ mf g sp ks base Θ fin body c = true) : CutP P Γ mf g sp ks base Θ fin body c := by
  unfold chkCut at h
  rw [Bool.and_eq_true, Bool.and_eq_true] at h
  exact ⟨h.1, h.2.1, fun V β w R hV hH hw => ⟨c.pi, c.H, hV, hH, hw, h.2.2⟩⟩
/-- **From each pattern on, the rest comes to an end that is asked for.** -/
theorem cuts_ok [V0 : Vars] (hn : NoGos P) (hm : P.follows .mixedOrders = true) {Γ : Ctr} (hΓ : ∀ V : Vars, @CtrOk _ V P Γ) {mf : Nat → Bool} {g : Nat} {sp : Spl} {ks : List Nat} {base : Nat} {Θ : List Cut} {fin : Exit → Frm → St → Bool} {body : Code}
    (chk : ∀ c ∈ Θ, CutP P Γ mf g sp ks base Θ fin body c) (w0 : World) (R : HProp) :
    ∀ (N : Nat) (k m : Nat) (a : Act) (w : World), ks.length - posOf ks k < N → Inv (V0 := V0) base Θ w0 R k m a w → wpAt P m k body (Fin (V0 := V0) base fin w0 R) a w := by
  have hwf : ∀ c ∈ Θ, c.wfB = true := fun c hc => (chk c hc).1
  have posle : ∀ (l : List Nat) (k : Nat), posOf l k ≤ l.length := by
    intro l k
    induction l with
    | nil => exact Nat.le_refl _
    | cons j r ih => unfold posOf; cases Nat.beq j k <;> simp <;> omega
  intro N
  induction N with
  | zero => intro k m a w h; exact absurd h (Nat.not_lt_zero _)
  | succ N ihN =>
    intro k m
    induction m with
    | zero => intro a w _ hi; obtain ⟨c, hc, _, V, β, _, _, _, _, _, h⟩ := hi; exact absurd h (Nat.not_lt_zero _)
    | succ m ihm =>
      intro a w hN hi
      obtain ⟨c, hc, hk, V, β, hV, hf, hd, hw, hs, hlt⟩ := hi
      obtain ⟨c1, c2, hP⟩ := chk c hc
      obtain ⟨π, H', hπ, hH', hold', c3⟩ := hP V β w R hw.pi hw.wf hw.hold
      have hw : @At _ V β ⟨π, H', c.n⟩ w R := ⟨hπ, hH', hold'⟩
      subst hk
      refine (@evS_ok _ _ V P _ _ (@okP V) hn hm Γ (hΓ V) mf g ks m body (some c.key) (cutF c) ⟨π, H', c.n⟩ _ β a w R _ (@allB_leads _ V _ _ _ β c3) hf hd hw ?_ ?_).2 c.key rfl c2
      · intro β' e fr' s' a' w' h1 h2 h3 h4
        exact ⟨V, β', fr', s', hV, h1, h2, h3, h4.at_, hs.trans h4.st⟩
      · intro β' k' fr' s' a' w' h1 hkk h2 h3 h4
        have h1' : okA sp ks base Θ (some c) k' fr' s' = true := h1
        obtain ⟨m', i1, i2⟩ := okA_inv (V0 := V0) hwf h1' hV h2 h3 h4.at_ (hs.trans h4.st)
        obtain ⟨i3, i4⟩ := i2 c rfl
        refine ⟨fun e => ?_, fun e => ?_⟩
        · cases e
          refine ihm a' w' hN ?_
          obtain ⟨c', hc', x1, x2, x3, x4, x5, x6, x7, x8, x9⟩ := i1
          have := i3 rfl
          exact ⟨c', hc', x1, x2, x3, x4, x5, x6, x7, x8, by omega⟩
        · have hne : c.key ≠ k' := fun h => e (by rw [h])
          have := i4 hne
          have := posle ks k'
          exact ⟨m' + 1, ihN k' (m' + 1) a' w' (by omega) i1⟩
/-- **A function with loops, by patterns.** -/
theorem calls_of_cutsP [V0 : Vars] (hn : NoGos P) (hm : P.follows .mixedOrders = true) {Γ : Ctr} (hΓ : ∀ V : Vars, @CtrOk _ V P Γ) {mf : Nat → Bool} {g : Nat} {sp : Spl} {ks : List Nat} {base : Nat} {Θ : List Cut} {f : Nat} {fn : Func} {body : Code} {okV : SV → St → Bool}
    (hfn : Fast.func P f = some fn) (hb : fn.body = some body) {args : List SV} {s : St}
    (hsz : Nat.blt (args.length + (fn.ntmps - args.length)) 4095 = true)
    (chk0 : (evS P Γ mf g ks body none (Frm.start fn.ntmps args) s).allB (okL sp ks base Θ (fun e fr s => (ends P fn (e, fr, s)).allB fun q => okV q.1 q.2) none) = true)
    (chk : ∀ c ∈ Θ, CutP P Γ mf g sp ks base Θ (fun e fr s => (ends P fn (e, fr, s)).allB fun q => okV q.1 q.2) body c)
    {β : Bl} {w : World} {R : HProp} (hwf : ∀ x ∈ args, x.wf s.n) (htop : ∀ x ∈ args, x.isTop = false) (hw : At β s w R) :
    Calls P f (args.map (SV.den β)).toArray w fun e w' => ∃ (V : Vars) (β' : Bl) (v : SV) (s' : St), (∀ i, i < base → V.ρ i = V0.ρ i) ∧ okV v s' = true ∧ e = .returned (@SV.den _ V β' v) ∧ @At _ V β' s' w' R ∧ Strm w w' := by
  have hwf' : ∀ c ∈ Θ, c.wfB = true := fun c hc => (chk c hc).1
  refine calls_of_wp (Fast.func_ok hfn) hb ?_
  have hst := start_is (n := s.n) (β := β) (k := fn.ntmps) (args := args) (Nat.le_of_ble_eq_true hsz) hwf htop
  have key : ∀ {e : Exit} {a' : Act} {w' : World}, Fin (V0 := V0) base (fun e fr s => (ends P fn (e, fr, s)).allB fun q => okV q.1 q.2) w R e a' w' → bodyPost P fn (fun e w' => ∃ (V : Vars) (β' : Bl) (v : SV) (s' : St), (∀ i, i < base → V.ρ i = V0.ρ i) ∧ okV v s' = true ∧ e = .returned (@SV.den _ V β' v) ∧ @At _ V β' s' w' R ∧ Strm w w') e a' w' := by
    rintro e a' w' ⟨V, β', fr, s', hV, hfin, hf, hd, hw', hs⟩
    have hl := @allB_leads _ V _ _ _ β' hfin
    unfold ends at hl
    have core : ∀ {ps l v}, resV P s'.pi fr s'.H fn.results.toList = some (ps, l) → resOf l = some v → @Tree.Leads _ V _ (fun _ q => okV q.1 q.2 = true) (needs s'.pi ps (frcV v fun v => Tree.done (v, s'))) β' → ∃ v, (results fn a'.tmps).run P w' = .ok v w' ∧ ∃ (V : Vars) (β' : Bl) (u : SV) (s' : St), (∀ i, i < base → V.ρ i = V0.ρ i) ∧ okV u s' = true ∧ Ending.returned v = .returned (@SV.den _ V β' u) ∧ @At _ V β' s' w' R ∧ Strm w w' := by
      intro ps l v hr hv hn'
      obtain ⟨g1, g2⟩ := @needs_leads _ _ V _ _ hw'.pi _ _ β' _ hn'
      rw [frcV_eq] at g2
      obtain ⟨r1, r2, r3⟩ := @results_ok _ _ V P _ _ (@okP V) s'.pi hw'.pi fn s'.n β' fr a'.tmps hf s'.H hw'.wf w' R hw'.hold ps l v hr g1 hv
      exact ⟨_, r1, V, β', v, s', hV, g2, rfl, hw', hs⟩
    cases e with
    | normal =>
      simp only at hl
      split at hl
      · rename_i ps l hr
        split at hl
        · rename_i v hv
          obtain ⟨v, k1, k2⟩ := core hr hv hl
          exact ⟨hd, v, k1, k2⟩
        · exact hl.elim
      · exact hl.elim
    | ret =>
      simp only at hl
      split at hl
      · rename_i ps l hr
        split at hl
        · rename_i v hv
          obtain ⟨v, k1, k2⟩ := core hr hv hl
          exact ⟨hd, v, k1, k2⟩
        · exact hl.elim
      · exact hl.elim
    | exit id => exact hl.elim
    | goto l => exact hl.elim
    | panic ch => exact hl.elim
    | outgrown => exact hl.elim
  refine Code.wp_mono (fun e a w h => key h) ?_
  refine (evS_ok hn hm (hΓ V0) 0 body none (Frm.start fn.ntmps args) s _ β ⟨(args.map (SV.den β)).toArray ++ Array.replicate (fn.ntmps - (args.map (SV.den β)).toArray.size) undef, []⟩ w R _ (allB_leads chk0) hst rfl hw ?_ ?_).1 rfl
  · intro β' e fr' s' a' w' h1 h2 h3 h4
    exact ⟨V0, β', fr', s', fun _ _ => rfl, h1, h2, h3, h4.at_, h4.st⟩
  · intro β' k' fr' s' a' w' h1 hkk h2 h3 h4
    have h1' : okA sp ks base Θ none k' fr' s' = true := h1
    obtain ⟨m', i1, _⟩ := okA_inv (V0 := V0) (V := V0) hwf' h1' (fun _ _ => rfl) h2 h3 h4.at_ h4.st
    exact ⟨(fun e => by cases e), fun _ => ⟨m' + 1, cuts_ok (V0 := V0) (okP := @okP) hn hm hΓ chk w R (ks.length + 1) k' (m' + 1) a' w' (by omega) i1⟩⟩
/-- The same, each pattern by one check. -/
theorem calls_of_cuts [V0 : Vars] (hn : NoGos P) (hm : P.follows .mixedOrders = true) {Γ : Ctr} (hΓ : ∀ V : Vars, @CtrOk _ V P Γ) {mf : Nat → Bool} {g : Nat} {sp : Spl} {ks : List Nat} {base : Nat} {Θ : List Cut} {f : Nat} {fn : Func} {body : Code} {okV : SV → St → Bool}
    (hfn : Fast.func P f = some fn) (hb : fn.body = some body) {args : List SV} {s : St}
    (hsz : Nat.blt (args.length + (fn.ntmps - args.length)) 4095 = true)
    (chk0 : (evS P Γ mf g ks body none (Frm.start fn.ntmps args) s).allB (okL sp ks base Θ (fun e fr s => (ends P fn (e, fr, s)).allB fun q => okV q.1 q.2) none) = true)
    (chk : ∀ c ∈ Θ, chkCut P Γ mf g sp ks base Θ (fun e fr s => (ends P fn (e, fr, s)).allB fun q => okV q.1 q.2) body c = true)
    {β : Bl} {w : World} {R : HProp} (hwf : ∀ x ∈ args, x.wf s.n) (htop : ∀ x ∈ args, x.isTop = false) (hw : At β s w R) :
    Calls P f (args.map (SV.den β)).toArray w fun e w' => ∃ (V : Vars) (β' : Bl) (v : SV) (s' : St), (∀ i, i < base → V.ρ i = V0.ρ i) ∧ okV v s' = true ∧ e = .returned (@SV.den _ V β' v) ∧ @At _ V β' s' w' R ∧ Strm w w' :=
  calls_of_cutsP (okP := @okP) hn hm hΓ hfn hb hsz chk0 (fun c hc => CutP.of (chk c hc)) hwf htop hw
end
end Go.Proofs.Ytmmpnjcmaodkcaa.Ef
