/- What is proved: what the second evaluator finds of one operation, of a region in the text's order, holds. Conditions: the evaluator's own premises. -/
import Derived.Test.YtfapicccijbanaaTf
import Derived.LoopN
import Derived.ScopeJumps
namespace Go.Proofs.Ytfapicccijbanaa.Ef
open Go Go.Proofs.Ytfapicccijbanaa.Sep
open Go.Proofs.Ytfapicccijbanaa.Ev (Fast tyAgg tySize run_underlying' run_isAgg' run_sizeOf' run_zeroValue')
set_option linter.unusedVariables false
set_option linter.unusedSimpArgs false
set_option linter.unusedSectionVars false
/-- What the evaluator finds: an end; two ways; a new block; two orders. -/
inductive Tree (α : Type) where
  | done (x : α)
  | ite (c : Tm) (a b : Tree α)
  | new (n : Nat) (t : Tree α)
  | both (a b : Tree α)
  | fail (why : Nat)
def Tree.bind {α γ : Type} : Tree α → (α → Tree γ) → Tree γ
  | .done x, k => k x
  | .ite c a b, k => .ite c (a.bind k) (b.bind k)
  | .new n t, k => .new n (t.bind k)
  | .both a b, k => .both (a.bind k) (b.bind k)
  | .fail i, _ => .fail i
/-- What is known on the way, the heap, the next name. -/
structure St where
  pi : Pi
  H : SH
  n : Nat
section
variable [Interp] [Vars]
def Tree.Leads {α : Type} (L : Bl → α → Prop) : Tree α → Bl → Prop
  | .done x, β => L β x
  | .ite c a b, β => (c.tv = true → a.Leads L β) ∧ (c.tv = false → b.Leads L β)
  | .new n t, β => ∀ b, t.Leads L (upd β n b)
  | .both a b, β => a.Leads L β ∧ b.Leads L β
  | .fail _, _ => False
theorem bind_leads {α γ : Type} {L : Bl → γ → Prop} {k : α → Tree γ} : ∀ {t : Tree α} {β : Bl}, (t.bind k).Leads L β → t.Leads (fun β x => (k x).Leads L β) β
  | .done x, β, h => h
  | .ite c a b, β, h => ⟨fun hc => bind_leads (h.1 hc), fun hc => bind_leads (h.2 hc)⟩
  | .new n t, β, h => fun b => bind_leads (h b)
  | .both a b, β, h => ⟨bind_leads h.1, bind_leads h.2⟩
  | .fail _, _, h => h
theorem Tree.Leads.mono {α : Type} {L L' : Bl → α → Prop} (hL : ∀ β x, L β x → L' β x) : ∀ {t : Tree α} {β : Bl}, t.Leads L β → t.Leads L' β
  | .done x, β, h => hL _ _ h
  | .ite c a b, β, h => ⟨fun hc => mono hL (h.1 hc), fun hc => mono hL (h.2 hc)⟩
  | .new n t, β, h => fun b => mono hL (h b)
  | .both a b, β, h => ⟨mono hL h.1, mono hL h.2⟩
  | .fail _, _, h => h
end
/-! ### what is handed on is laid open first -/
section
variable {R : Type}
def frcN (n : Nat) (k : Nat → R) : R := match n with | 0 => k 0 | m + 1 => k (m + 1)
def frcI (n : Int) (k : Int → R) : R := match n with | .ofNat m => k (.ofNat m) | .negSucc m => k (.negSucc m)
def frcT (t : Tm) (k : Tm → R) : R :=
  match t with
  | .lit n => frcI n fun n => k (.lit n)
  | .bl true => k (.bl true)
  | .bl false => k (.bl false)
  | .var i => k (.var i)
  | .a1 f x => k (.a1 f x)
  | .a2 f x y => k (.a2 f x y)
def frcC (c : SC) (k : SC → R) : R :=
  match c with
  | .int j t => frcT t fun t => k (.int j t)
  | .bool t => frcT t fun t => k (.bool t)
  | .slice nm o l c => frcT l fun l => frcT c fun c => k (.slice nm o l c)
  | .ptr nm o => frcN o fun o => k (.ptr nm o)
  | c => k c
def frcCs : List SC → (List SC → R) → R
  | [], k => k []
  | c :: r, k => frcC c fun c => frcCs r fun r => k (c :: r)
def frcA (x : SA) (k : SA → R) : R :=
  match x with
  | .one c => frcC c fun c => k (.one c)
  | .agg l => frcCs l fun l => k (.agg l)
def frcAs : List SA → (List SA → R) → R
  | [], k => k []
  | c :: r, k => frcA c fun c => frcAs r fun r => k (c :: r)
def frcV (v : SV) (k : SV → R) : R :=
  match v with
  | .a x => frcA x fun x => k (.a x)
  | .tup l => frcAs l fun l => k (.tup l)
  | .top => k .top
def frcVs : List SV → (List SV → R) → R
  | [], k => k []
  | v :: r, k => frcV v fun v => frcVs r fun r => k (v :: r)
def frcO (o : SO) (k : SO → R) : R :=
  match o with
  | .cells l T => frcCs l fun l => k (.cells l T)
  | .abs j x ns => frcT x fun x => k (.abs j x ns)
def frcH : SH → (SH → R) → R
  | [], k => k []
  | q :: r, k => frcH r fun r => k (q :: r)
def Fr.setK : Fr → Nat → SV → (Fr → R) → R
  | .e, _, _, k => k .e
  | .n v l r, i, x, k =>
    match i with
    | 0 => k (.n x l r)
    | j + 1 => bif Nat.beq (j % 2) 0 then l.setK (j / 2) x fun l => k (.n v l r) else r.setK (j / 2) x fun r => k (.n v l r)
def putK (fr : Frm) (d : Option Tmp) (v : SV) (k : Frm → R) : R :=
  match d with
  | none => k fr
  | some d => match fr with
    | ⟨sz, t⟩ => bif Nat.blt d sz then t.setK d v fun t => k ⟨sz, t⟩ else k ⟨sz, t⟩
theorem frcN_eq (n : Nat) (k : Nat → R) : frcN n k = k n := by cases n <;> rfl
theorem frcI_eq (n : Int) (k : Int → R) : frcI n k = k n := by cases n <;> rfl
theorem frcT_eq (t : Tm) (k : Tm → R) : frcT t k = k t := by
  cases t <;> first | exact frcI_eq _ _ | rfl | (rename_i b; cases b <;> rfl)
theorem frcC_eq (c : SC) (k : SC → R) : frcC c k = k c := by
  unfold frcC
  split <;> simp only [frcT_eq, frcN_eq]
theorem frcCs_eq : ∀ (l : List SC) (k : List SC → R), frcCs l k = k l
  | [], k => rfl
  | c :: r, k => by unfold frcCs; rw [frcC_eq, frcCs_eq r]
theorem frcA_eq (x : SA) (k : SA → R) : frcA x k = k x := by
  cases x with
  | one c => exact frcC_eq c fun c => k (.one c)
  | agg l => exact frcCs_eq l fun l => k (.agg l)
theorem frcAs_eq : ∀ (l : List SA) (k : List SA → R), frcAs l k = k l
  | [], k => rfl
  | c :: r, k => by unfold frcAs; rw [frcA_eq, frcAs_eq r]
theorem frcV_eq (v : SV) (k : SV → R) : frcV v k = k v := by
  cases v with
  | a x => exact frcA_eq x fun x => k (.a x)
  | tup l => exact frcAs_eq l fun l => k (.tup l)
  | top => rfl
theorem frcVs_eq : ∀ (l : List SV) (k : List SV → R), frcVs l k = k l
  | [], k => rfl
  | c :: r, k => by unfold frcVs; rw [frcV_eq, frcVs_eq r]
theorem frcO_eq (o : SO) (k : SO → R) : frcO o k = k o := by
  cases o with
  | cells l T => exact frcCs_eq l fun l => k (.cells l T)
  | abs j x ns => exact frcT_eq x fun x => k (.abs j x ns)
theorem frcH_eq : ∀ (H : SH) (k : SH → R), frcH H k = k H
  | [], k => rfl
  | q :: r, k => by unfold frcH; rw [frcH_eq r]
theorem Fr.setK_eq : ∀ (f : Fr) (i : Nat) (x : SV) (k : Fr → R), f.setK i x k = k (f.set i x)
  | .e, _, _, _ => rfl
  | .n v l r, 0, x, k => rfl
  | .n v l r, j + 1, x, k => by
    unfold Fr.setK Fr.set
    dsimp only
    cases Nat.beq (j % 2) 0 <;> simp only [cond_true, cond_false] <;> rw [Fr.setK_eq]
theorem putK_eq (fr : Frm) (d : Option Tmp) (v : SV) (k : Frm → R) : putK fr d v k = k (fput fr d v) := by
  cases d with
  | none => rfl
  | some d =>
    cases fr with
    | mk sz t =>
      unfold putK fput Frm.set
      dsimp only
      cases Nat.blt d sz <;> simp only [cond_true, cond_false] <;> rw [Fr.setK_eq]
end
/-! ### one operation -/
def isBody (P : Program) [Fast P] (f : Nat) : Bool :=
  match Fast.func P f with
  | some fn => fn.body.isSome
  | none => false
def argsV (fr : Frm) : List Operand → Option (List SV)
  | [] => some []
  | x :: l =>
    match opnd fr x, argsV fr l with
    | .top, _ => none
    | v, some r => some (v :: r)
    | _, none => none
def ptrV (p : Nat × Nat) : SV := .c (.ptr p.1 p.2)
abbrev Rt := Tree (SV × St)
abbrev Caller := Nat → List SV → St → Rt
section
variable [Interp] [Rules]
def needs {α : Type} (π : Pi) : List Tm → Tree α → Tree α
  | [], t => t
  | p :: ps, t => bif pv π true p then needs π ps t else .fail 1
/-- Two ways, where it is not known which. -/
def brF {α : Type} : Nat → Tm → Pi → (Pi → Bool → Tree α) → Tree α
  | 0, t, π, k => .ite t (k ((t, true) :: π) true) (k ((t, false) :: π) false)
  | g + 1, t, π, k =>
    match dec π t with
    | some b => k π b
    | none =>
      match t with
      | .a1 .not x => brF g x π fun π b => k π (!b)
      | .a2 .and x y => brF g x π fun π b => bif b then brF g y π k else k π false
      | .a2 .eq (.a2 .sel c (.a2 .pair x y)) z => brF g c π fun π b => brF g (mkEq (bif b then x else y) z) π k
      | .a2 .lt (.a2 .sel c (.a2 .pair x y)) z => brF g c π fun π b => brF g (mkLt (bif b then x else y) z) π k
      | .a2 .lt z (.a2 .sel c (.a2 .pair x y)) => brF g c π fun π b => brF g (mkLt z (bif b then x else y)) π k
      | .a2 .eq z (.a2 .sel c (.a2 .pair x y)) => brF g c π fun π b => brF g (mkEq z (bif b then x else y)) π k
      | .a2 .sel c (.a2 .pair x y) => brF g c π fun π b => brF g (bif b then x else y) π k
      | t => .ite t (k ((t, true) :: π) true) (k ((t, false) :: π) false)
def br {α : Type} (t : Tm) (π : Pi) (k : Pi → Bool → Tree α) : Tree α := brF 40 t π k
def forkI {α : Type} (i : Tm) (k : Pi → Nat → Tree α) : Nat → Nat → Pi → Tree α
  | 0, _, _ => .fail 2
  | g + 1, j, π => br (mkLt i (.lit ((j : Int) + 1))) π fun π b =>
      bif b then (bif (rng π i).inside j j then k π j else .fail 3) else forkI i k g (j + 1) π
def ixLen (P : Program) [Fast P] (t : TypeId) (x : SV) : Nat :=
  match Fast.und P t, x with
  | some (.slice _), .a (.one (.slice _ _ (.lit m) _)) => m.toNat
  | some (.array m _), _ => m
  | _, _ => 0
def evOp (P : Program) [Fast P] [Ab P] (call : Caller) (o : Oper) (fr : Frm) (s : St) : Rt :=
  match s with
  | ⟨π, H, n⟩ =>
    match pureOp P π fr o with
    | some (ps, v) => needs π ps (.done (v, ⟨π, H, n⟩))
    | none =>
      match o.op with
      | .load t x =>
        match loadV P π t H (opnd fr x) with
        | some (ps, v) => needs π ps (.done (v, ⟨π, H, n⟩))
        | none => frcN n fun n =>
          match openV P t H n (opnd fr x) with
          | some (nm, o, v) => frcO o fun o => frcH (put H nm o) fun H => .new n (.done (v, ⟨π, H, n + 1⟩))
          | none => .fail 4
      | .store t x y =>
        match storeV P t H (opnd fr x) (opnd fr y) with
        | some (nm, o) => frcO o fun o => frcH (put H nm o) fun H => .done (.un, ⟨π, H, n⟩)
        | none => .fail 5
      | .alloc t =>
        match zeroC P t with
        | some l => frcN n fun n => frcCs l fun l => .new n (.done (.c (.ptr n 0), ⟨π, (n, .cells l t) :: H, n + 1⟩))
        | none => .fail 6
      | .box t x =>
        match opnd fr x with
        | .a x => bif x.plain then frcN n fun n => frcCs x.cells fun l => .new n (.done (.c (.ptr n 0), ⟨π, (n, .cells l t) :: H, n + 1⟩)) else .fail 7
        | _ => .fail 8
      | .buildSlice t len parts =>
        match partsA fr parts.toList with
        | some r =>
          match sliceC P t len r with
          | some (e, l) => frcN n fun n => frcCs l fun l => .new n (.done (.c (.slice n 0 (.lit len) (.lit len)), ⟨π, (n, .cells l e) :: H, n + 1⟩))
          | none => .fail 9
        | none => .fail 10
      | .pick c a b =>
        match opnd fr c with
        | .a (.one (.bool c)) => br c π fun π t =>
          match (bif t then opnd fr a else opnd fr b) with
          | .top => .fail 11
          | v => .done (v, ⟨π, H, n⟩)
        | _ => .fail 12
      | .indexAddr t x i =>
        match opnd fr x, opnd fr i with
        | .a x, .a (.one (.int k i)) => forkI i (fun π j =>
          match indexAddrV P t (.a x) (.c (.int k (.lit j))) with
          | some (ps, v) => needs π ps (.done (v, ⟨π, H, n⟩))
          | none => .fail 13) (ixLen P t (.a x)) 0 π
        | _, _ => .fail 14
      | .index t x i =>
        match opnd fr x, opnd fr i with
        | .a x, .a (.one (.int k i)) => forkI i (fun π j =>
          match indexV P t (.a x) (.c (.int k (.lit j))) with
          | some (ps, v) => needs π ps (.done (v, ⟨π, H, n⟩))
          | none => .fail 15) (ixLen P t (.a x)) 0 π
        | _, _ => .fail 16
      | .call c =>
        match c.callee with
        | .value f =>
          match opnd fr f with
          | .a (.one (.func f first cap)) =>
            bif isBody P f then
              match argsV fr c.args.toList with
              | some l => frcVs (first.map ptrV ++ (l ++ cap.map ptrV)) fun l => call f l ⟨π, H, n⟩
              | none => .fail 17
            else .fail 18
          | _ => .fail 19
        | _ => .fail 20
      | _ => .fail 21
end
def NoGos (P : Program) : Prop := ∀ (f : Nat) (fn : Func), P.funcs[f]? = some fn → (fn.name == "runtime.NumGoroutine") = false
theorem run_callFunc {P : Program} [Fast P] (hn : NoGos P) {f : Nat} (hb : isBody P f = true) (args : Array Value) (w : World) : (callFunc f args).run P w = .ok (.enter f args) w := by
  unfold isBody at hb
  cases hf0 : Fast.func P f with
  | none => rw [hf0] at hb; cases hb
  | some fn =>
    rw [hf0] at hb
    have hf := Fast.func_ok hf0
    have h1 := hn f fn hf
    unfold callFunc
    have h1' : ¬ fn.name = "runtime.NumGoroutine" := by simpa using h1
    have h2 : ¬ fn.body = none := by intro h; simp only [h] at hb; cases hb
    simp [hf, h1', h2]
section
variable [Interp] [Rules] [Vars]
theorem needs_leads {α : Type} {π : Pi} (hπ : facts π) {L : Bl → α → Prop} {t : Tree α} {β : Bl} : ∀ {ps : List Tm}, (needs π ps t).Leads L β → (∀ p ∈ ps, p.tv = true) ∧ t.Leads L β
  | [], h => ⟨fun p hp => (by cases hp), h⟩
  | p :: ps, h => by
    unfold needs at h
    rw [Bool.cond_eq_ite] at h
    split at h
    · rename_i hp
      obtain ⟨h1, h2⟩ := needs_leads hπ h
      exact ⟨fun q hq => by
        rcases List.mem_cons.1 hq with rfl | hq
        · exact pv_ok hπ hp
        · exact h1 q hq, h2⟩
    · exact h.elim
theorem brF_leads {α : Type} {L : Bl → α → Prop} {β : Bl} : ∀ {g : Nat} {c : Tm} {π : Pi} {k : Pi → Bool → Tree α}, (brF g c π k).Leads L β → facts π → ∃ π', facts π' ∧ (k π' c.tv).Leads L β := by
  have atom : ∀ {c : Tm} {π : Pi} {k : Pi → Bool → Tree α}, (Tree.ite c (k ((c, true) :: π) true) (k ((c, false) :: π) false)).Leads L β → facts π → ∃ π', facts π' ∧ (k π' c.tv).Leads L β := by
    intro c π k h hπ
    cases hc : c.tv with
    | true => exact ⟨_, facts_cons hπ hc, h.1 hc⟩
    | false => exact ⟨_, facts_cons hπ hc, h.2 hc⟩
  have selv : ∀ (c x y : Tm), (Tm.a2 .sel c (.a2 .pair x y)).v = (bif c.tv then x else y).v := by
    intro c x y
    simp only [Tm.v, Tm.den, F2.den, U.fst, U.snd, Tm.tv]
    rcases Bool.eq_false_or_eq_true c.den.bool with h | h <;> simp [h]
  intro g
  induction g with
  | zero => intro c π k h hπ; exact atom h hπ
  | succ g ih =>
    intro c π k h hπ
    unfold brF at h
    split at h
    · rename_i b hd; exact ⟨π, hπ, by rw [dec_ok hπ hd]; exact h⟩
    · split at h
      · obtain ⟨π', h1, h2⟩ := ih h hπ
        exact ⟨π', h1, h2⟩
      · rename_i x y _
        obtain ⟨π', h1, h2⟩ := ih h hπ
        show ∃ π', facts π' ∧ (k π' (x.tv && y.tv)).Leads L β
        cases hx : x.tv with
        | true => rw [hx] at h2; exact ih h2 h1
        | false => rw [hx] at h2; exact ⟨π', h1, h2⟩
      · rename_i c x y z
        obtain ⟨π', h1, h2⟩ := ih h hπ
        obtain ⟨π'', h3, h4⟩ := ih h2 h1
        refine ⟨π'', h3, ?_⟩
        rw [mkEq_tv] at h4
        rw [eq_tv, selv]; exact h4
      · rename_i c x y z
        obtain ⟨π', h1, h2⟩ := ih h hπ
        obtain ⟨π'', h3, h4⟩ := ih h2 h1
        refine ⟨π'', h3, ?_⟩
        rw [mkLt_tv] at h4
        rw [lt_tv, selv]; exact h4
      · rename_i z c x y _
        obtain ⟨π', h1, h2⟩ := ih h hπ
        obtain ⟨π'', h3, h4⟩ := ih h2 h1
        refine ⟨π'', h3, ?_⟩
        rw [mkLt_tv] at h4
        rw [lt_tv, selv]; exact h4
      · rename_i z c x y _
        obtain ⟨π', h1, h2⟩ := ih h hπ
        obtain ⟨π'', h3, h4⟩ := ih h2 h1
        refine ⟨π'', h3, ?_⟩
        rw [mkEq_tv] at h4
        rw [eq_tv, selv]; exact h4
      · rename_i c x y _
        obtain ⟨π', h1, h2⟩ := ih h hπ
        obtain ⟨π'', h3, h4⟩ := ih h2 h1
        refine ⟨π'', h3, ?_⟩
        have e : (Tm.a2 .sel c (.a2 .pair x y)).tv = (bif c.tv then x else y).tv := by
          simp only [Tm.tv, Tm.den, F2.den, U.fst, U.snd]
          rcases Bool.eq_false_or_eq_true c.den.bool with h | h <;> simp [h]
        rw [e]; exact h4
      · exact atom h hπ
theorem br_leads {α : Type} {L : Bl → α → Prop} {β : Bl} {c : Tm} {π : Pi} {k : Pi → Bool → Tree α} (h : (br c π k).Leads L β) (hπ : facts π) : ∃ π', facts π' ∧ (k π' c.tv).Leads L β := brF_leads h hπ
theorem forkI_leads {α : Type} {L : Bl → α → Prop} {β : Bl} {i : Tm} {k : Pi → Nat → Tree α} : ∀ {g j : Nat} {π : Pi}, (forkI i k g j π).Leads L β → facts π → ∃ π' m, facts π' ∧ i.v = (m : Nat) ∧ (k π' m).Leads L β
  | 0, j, π, h, hπ => h.elim
  | g + 1, j, π, h, hπ => by
    unfold forkI at h
    obtain ⟨π', h1, h2⟩ := br_leads h hπ
    cases hb : (mkLt i (.lit ((j : Int) + 1))).tv with
    | true =>
      rw [hb] at h2
      simp only [cond_true] at h2
      rw [Bool.cond_eq_ite] at h2
      split at h2
      · rename_i hin
        have := Rg.inside_ok (rng_ok h1 i) hin
        exact ⟨π', j, h1, by omega, h2⟩
      · exact h2.elim
    | false => rw [hb] at h2; exact forkI_leads h2 h1
/-- The state is so. -/
structure At (β : Bl) (s : St) (w : World) (R : HProp) : Prop where
  pi : facts s.pi
  wf : hwf s.n s.H
  hold : Holds w (hden β s.H * R)
/-- One state came out of another. -/
structure Out (β : Bl) (s : St) (w : World) (R : HProp) (β' : Bl) (s' : St) (w' : World) : Prop where
  ag : Ag s.n β β'
  n : s.n ≤ s'.n
  at_ : At β' s' w' R
  st : Strm w w'
theorem Out.refl {β : Bl} {s : St} {w : World} {R : HProp} (h : At β s w R) : Out β s w R β s w := ⟨Ag.refl _ _, Nat.le_refl _, h, Strm.refl w⟩
theorem Out.trans {β β' β'' : Bl} {s s' s'' : St} {w w' w'' : World} {R : HProp} (h : Out β s w R β' s' w') (k : Out β' s' w' R β'' s'' w'') : Out β s w R β'' s'' w'' :=
  ⟨h.ag.trans k.ag h.n, Nat.le_trans h.n k.n, k.at_, h.st.trans k.st⟩
/-- A call by the evaluator holds of the program. -/
def CallerOk (P : Program) (call : Caller) : Prop :=
  ∀ f args s (L : Bl → SV × St → Prop) β, (call f args s).Leads L β → (∀ x ∈ args, x.wf s.n) → (∀ x ∈ args, x.isTop = false) → ∀ (w : World) (R : HProp), At β s w R → ∀ Q : Ending → World → Prop,
    (∀ β' v s' w', L β' (v, s') → v.wf s'.n → v.isTop = false → Out β s w R β' s' w' → Q (.returned (v.den β')) w') → Calls P f (args.map (SV.den β)).toArray w Q
theorem argsV_den {n : Nat} {β : Bl} {fr : Frm} {a : Act} (hf : FrIs n β fr a.tmps) : ∀ (l : List Operand) (r : List SV), argsV fr l = some r → l.map a.eval = r.map (SV.den β) ∧ (∀ x ∈ r, x.wf n) ∧ ∀ x ∈ r, x.isTop = false
  | [], r, h => by simp [argsV] at h; subst h; exact ⟨rfl, fun p hp => (by cases hp), fun p hp => (by cases hp)⟩
  | x :: l, r, h => by
    unfold argsV at h
    split at h
    · cases h
    · rename_i r' hr hne
      simp at h; subst h
      obtain ⟨h1, h2, h3⟩ := argsV_den hf l r' hr
      have nt : (opnd fr x).isTop = false := notTop fun e => by first | exact hne e | exact absurd e (by assumption)
      refine ⟨by simp only [List.map_cons, opnd_den hf x nt, h1], fun y hy => ?_, fun y hy => ?_⟩
      · rcases List.mem_cons.1 hy with rfl | hy
        · exact opnd_wf hf x
        · exact h2 y hy
      · rcases List.mem_cons.1 hy with rfl | hy
        · exact nt
        · exact h3 y hy
    · cases h
theorem ptrV_den (β : Bl) (l : List (Nat × Nat)) : (l.map ptrV).map (SV.den β) = l.map (pden β) := by
  rw [List.map_map]; rfl
theorem upd_at {β : Bl} {s : St} {w w' : World} {R : HProp} (h : At β s w R) {l : List SC} (hl : lwf s.n l) (T : TypeId) : Out β s w R (upd β s.n w.heap.size) ⟨s.pi, (s.n, .cells l T) :: s.H, s.n + 1⟩ (w.alloc (.cells (dens β l) T)) := by
  refine ⟨upd_ag _ _ _, Nat.le_succ _, ⟨h.pi, fun q hq => ?_, alloc_holds h.hold h.wf hl T⟩, (Strm.refl w).alloc _⟩
  rcases List.mem_cons.1 hq with rfl | hq
  · exact ⟨Nat.lt_succ_self _, lwf_mono (Nat.le_succ _) hl⟩
  · exact ⟨Nat.lt_succ_of_lt (h.wf q hq).1, SO.wf_mono (Nat.le_succ _) (h.wf q hq).2⟩
theorem evOp_ok {P : Program} [Fast P] [Ab P] [AbOk P] (hn : NoGos P) {call : Caller} (hcall : CallerOk P call) {o : Oper} {fr : Frm} {s : St} {L : Bl → SV × St → Prop} {β : Bl}
    (hl : (evOp P call o fr s).Leads L β) {a : Act} (hf : FrIs s.n β fr a.tmps) {w : World} {R : HProp} (hw : At β s w R) {next : Act → World → Prop} {Q : Exit → Act → World → Prop}
    (hk : ∀ β' v s' w', L β' (v, s') → v.wf s'.n → v.isTop = false → Out β s w R β' s' w' → next (a.put o.dst (v.den β')) w') : o.wp P a w next Q := by
  obtain ⟨π, H, n⟩ := s
  unfold evOp at hl
  dsimp only at hl
  split at hl
  · rename_i ps v hp
    obtain ⟨h1, h2⟩ := needs_leads hw.pi hl
    unfold Oper.wp
    rw [run_pureOp hw.pi hf hp h1 w]
    exact hk β v _ w h2 (pureOp_wf hf hp) (pureOp_notTop hp) (Out.refl hw)
  · split at hl
    · rename_i t x ho
      split at hl
      · rename_i ps v hld
        obtain ⟨h1, h2⟩ := needs_leads hw.pi hl
        have hx : (opnd fr x).isTop = false := by
          unfold loadV at hld
          split at hld
          · rename_i e; rw [e]; rfl
          · rename_i e; rw [e]; rfl
          · cases hld
        have hv : v.isTop = false := loadV_top hld
        have h3 := run_loadV hw.pi hld h1 hw.hold
        unfold Oper.wp execOp
        simp only [ho, opnd_den hf x hx, Sem.run_bind, h3, Result.andThen_ok, Sem.run_pure, Oper.upon]
        exact hk β v _ w h2 (loadV_wf hld hw.wf) hv (Out.refl hw)
      · rw [frcN_eq] at hl
        split at hl
        · rename_i nm o' v hop
          rw [frcO_eq, frcH_eq] at hl
          have hx : (opnd fr x).isTop = false := by
            unfold openV at hop
            split at hop
            · rename_i e; rw [e]; rfl
            · cases hop
          obtain ⟨wb, h1, h2, h3, h4, h5⟩ := run_openV hop hw.hold hw.wf (fun wb => upd_ag β n wb)
          unfold Oper.wp execOp
          simp only [ho, opnd_den hf x hx, Sem.run_bind, h1, Result.andThen_ok, Sem.run_pure, Oper.upon]
          exact hk (upd β n wb) v ⟨π, put H nm o', n + 1⟩ w (hl wb) h3 h4 ⟨upd_ag _ _ _, Nat.le_succ _, ⟨hw.pi, h5, h2⟩, Strm.refl w⟩
        · exact hl.elim
    · rename_i t x y ho
      split at hl
      · rename_i nm o' hst
        rw [frcO_eq, frcH_eq] at hl
        have hx : (opnd fr x).isTop = false ∧ (opnd fr y).isTop = false := by
          unfold storeV at hst
          split at hst
          · rename_i e1 e2; rw [e1, e2]; exact ⟨rfl, rfl⟩
          · cases hst
        obtain ⟨w', h3, h4, h5⟩ := run_storeV hst hw.hold
        unfold Oper.wp execOp
        simp only [ho, opnd_den hf x hx.1, opnd_den hf y hx.2, Sem.run_bind, h3, Result.andThen_ok, Sem.run_pure, Oper.upon]
        exact hk β .un ⟨π, put H nm o', n⟩ w' hl (fun x hx => (by cases hx)) rfl ⟨Ag.refl _ _, Nat.le_refl _, ⟨hw.pi, storeV_wf hst hw.wf (opnd_wf hf y), h4⟩, h5⟩
      · exact hl.elim
    · rename_i t ho
      split at hl
      · rename_i l hz
        rw [frcN_eq, frcCs_eq] at hl
        unfold Oper.wp execOp
        simp only [ho, Sem.run_bind, run_alloc' (β := β) hz, Result.andThen_ok, Sem.run_pure, Oper.upon]
        have := hk (upd β n w.heap.size) (.c (.ptr n 0)) _ _ (hl w.heap.size) (Nat.lt_succ_self n) rfl (upd_at (w' := w) hw (zeroC_wf hz n) t)
        rw [show (SV.c (.ptr n 0)).den (upd β n w.heap.size) = .pointer (some ⟨w.heap.size, 0, none⟩) by show Value.pointer (some ⟨upd β n w.heap.size n, 0, none⟩) = _; rw [upd_self]] at this
        exact this
      · exact hl.elim
    · rename_i t x ho
      split at hl
      · rename_i y hx
        rw [Bool.cond_eq_ite] at hl
        split at hl
        · rename_i hp
          rw [frcN_eq, frcCs_eq] at hl
          obtain ⟨e, ew⟩ := opnd_is hf hx rfl
          unfold Oper.wp execOp
          have hb := run_box' (P := P) (w := w) (β := β) (t := t) hp
          simp only [ho, e, SV.den, Sem.run_bind, hb, Result.andThen_ok, Sem.run_pure, Oper.upon]
          have := hk (upd β n w.heap.size) (.c (.ptr n 0)) _ _ (hl w.heap.size) (Nat.lt_succ_self n) rfl (upd_at (w' := w) hw (SA.cells_wf ew) t)
          rw [show (SV.c (.ptr n 0)).den (upd β n w.heap.size) = .pointer (some ⟨w.heap.size, 0, none⟩) by show Value.pointer (some ⟨upd β n w.heap.size n, 0, none⟩) = _; rw [upd_self]] at this
          exact this
        · exact hl.elim
      · exact hl.elim
    · rename_i t len parts ho
      split at hl
      · rename_i r hr
        split at hl
        · rename_i e l hs
          rw [frcN_eq, frcCs_eq] at hl
          obtain ⟨h1, h1w⟩ := partsA_den hf parts.toList r hr
          have h2 : (parts.map fun (i, x) => (i, a.eval x)) = (r.map fun p => (p.1, p.2.den β)).toArray := by rw [← h1, ← Array.toList_inj, Array.toList_map]
          unfold Oper.wp execOp
          simp only [ho, h2, Sem.run_bind, run_sliceC (β := β) hs, Result.andThen_ok, Sem.run_pure, Oper.upon]
          have := hk (upd β n w.heap.size) (.c (.slice n 0 (.lit len) (.lit len))) _ _ (hl w.heap.size) (Nat.lt_succ_self n) rfl (upd_at (w' := w) hw (sliceC_wf hs h1w) e)
          rw [show (SV.c (.slice n 0 (.lit len) (.lit len))).den (upd β n w.heap.size) = .slice (some ⟨w.heap.size, 0, none⟩) len len by
            show Value.slice (some ⟨upd β n w.heap.size n, 0, none⟩) (Int.toNat (len : Int)) (Int.toNat (len : Int)) = _; rw [upd_self, Int.toNat_natCast]] at this
          exact this
        · exact hl.elim
      · exact hl.elim
    · rename_i c x y ho
      split at hl
      · rename_i c' hc
        obtain ⟨ec, _⟩ := opnd_is hf hc rfl
        obtain ⟨π', h1, h2⟩ := br_leads hl hw.pi
        unfold Oper.wp execOp
        have e : a.eval c = .bool c'.tv := ec
        split at h2
        · exact h2.elim
        · rename_i hne
          have ev : (if c'.tv then a.eval x else a.eval y) = ((bif c'.tv then opnd fr x else opnd fr y)).den β := by
            rw [Bool.cond_eq_ite] at hne ⊢
            split
            · rename_i ht; rw [if_pos ht] at hne; exact opnd_den hf x (notTop hne)
            · rename_i ht; rw [if_neg ht] at hne; exact opnd_den hf y (notTop hne)
          have ew : ((bif c'.tv then opnd fr x else opnd fr y)).wf n := by
            rw [Bool.cond_eq_ite]
            split
            · exact opnd_wf hf x
            · exact opnd_wf hf y
          simp only [ho, e, asBool, Sem.run_bind, Sem.run_pure, Result.andThen_ok]
          have := hk β _ _ w h2 ew (notTop hne) ⟨Ag.refl _ _, Nat.le_refl _, ⟨h1, hw.wf, hw.hold⟩, Strm.refl w⟩
          rw [← ev] at this
          cases ht : c'.tv with
          | true => rw [ht] at this; exact this
          | false => rw [ht] at this; exact this
      · exact hl.elim
    · rename_i t x i ho
      split at hl
      · rename_i x' k i' hx hi
        obtain ⟨π', m, h1, h2, h3⟩ := forkI_leads hl hw.pi
        split at h3
        · rename_i ps v hv
          obtain ⟨h4, h5⟩ := needs_leads h1 h3
          obtain ⟨ex, wx⟩ := opnd_is hf hx rfl
          obtain ⟨ei, _⟩ := opnd_is hf hi rfl
          have hr := run_indexAddrV hv h4 β w
          have ei' : a.eval i = (SV.c (.int k (.lit m))).den β := by rw [ei]; show Value.int k i'.v = .int k (m : Nat); rw [h2]
          unfold Oper.wp execOp
          simp only [ho, ex, ei', Sem.run_bind, hr, Result.andThen_ok, Sem.run_pure, Oper.upon]
          have nt : v.isTop = false := by
            unfold indexAddrV at hv
            split at hv
            · rw [Bool.cond_eq_ite] at hv
              split at hv
              · split at hv <;> first | (simp at hv; obtain ⟨_, rfl⟩ := hv; rfl) | cases hv
              · cases hv
            · split at hv <;> first | (simp at hv; obtain ⟨_, rfl⟩ := hv; rfl) | cases hv
            · rw [Bool.cond_eq_ite] at hv
              split at hv
              · split at hv <;> first | (simp at hv; obtain ⟨_, rfl⟩ := hv; rfl) | cases hv
              · cases hv
            · cases hv
          exact hk β v _ w h5 (indexAddrV_wf hv wx) nt ⟨Ag.refl _ _, Nat.le_refl _, ⟨h1, hw.wf, hw.hold⟩, Strm.refl w⟩
        · exact h3.elim
      · exact hl.elim
    · rename_i t x i ho
      split at hl
      · rename_i x' k i' hx hi
        obtain ⟨π', m, h1, h2, h3⟩ := forkI_leads hl hw.pi
        split at h3
        · rename_i ps v hv
          obtain ⟨h4, h5⟩ := needs_leads h1 h3
          obtain ⟨ex, wx⟩ := opnd_is hf hx rfl
          obtain ⟨ei, _⟩ := opnd_is hf hi rfl
          have hr := run_indexV hv h4 β w
          have ei' : a.eval i = (SV.c (.int k (.lit m))).den β := by rw [ei]; show Value.int k i'.v = .int k (m : Nat); rw [h2]
          unfold Oper.wp execOp
          simp only [ho, ex, ei', Sem.run_bind, hr, Result.andThen_ok, Sem.run_pure, Oper.upon]
          have nt : v.isTop = false := by
            unfold indexV at hv
            split at hv
            · split at hv
              · split at hv <;> first | (simp at hv; obtain ⟨_, rfl⟩ := hv; rfl) | cases hv
              · cases hv
            · cases hv
          exact hk β v _ w h5 (indexV_wf hv wx) nt ⟨Ag.refl _ _, Nat.le_refl _, ⟨h1, hw.wf, hw.hold⟩, Strm.refl w⟩
        · exact h3.elim
      · exact hl.elim
    · rename_i c ho
      split at hl
      · rename_i f hcal
        split at hl
        · rename_i f' first cap hfn
          rw [Bool.cond_eq_ite] at hl
          split at hl
          · rename_i hb
            split at hl
            · rename_i l hargs
              rw [frcVs_eq] at hl
              obtain ⟨ef, wf⟩ := opnd_is hf hfn rfl
              obtain ⟨a1, a2, a3⟩ := argsV_den hf _ _ hargs
              have e : a.eval f = .func (.func f') (first.map (pden β)).toArray (cap.map (pden β)).toArray := ef
              have ea : c.args.map a.eval = (l.map (SV.den β)).toArray := by
                rw [← a1, ← Array.toList_inj, Array.toList_map]
              have pw : ∀ (q : List (Nat × Nat)), (∀ p ∈ q, p.1 < n) → ∀ x ∈ q.map ptrV, x.wf n := by
                intro q hq x hx
                obtain ⟨p, hp, rfl⟩ := List.mem_map.1 hx
                exact hq p hp
              have pt' : ∀ (q : List (Nat × Nat)), ∀ x ∈ q.map ptrV, x.isTop = false := by
                intro q x hx
                obtain ⟨p, hp, rfl⟩ := List.mem_map.1 hx
                rfl
              unfold Oper.wp execOp
              simp only [ho, resolve, hcal, e, Deferred.ofValue, Sem.run_bind, Sem.run_pure, Result.andThen_ok, invoke, ea, run_callFunc hn hb, Oper.upon]
              have hc := hcall f' _ _ L β hl (fun x hx => by
                rcases List.mem_append.1 hx with hx | hx
                · exact pw first wf.1 x hx
                · rcases List.mem_append.1 hx with hx | hx
                  · exact a2 x hx
                  · exact pw cap wf.2 x hx) (fun x hx => by
                rcases List.mem_append.1 hx with hx | hx
                · exact pt' first x hx
                · rcases List.mem_append.1 hx with hx | hx
                  · exact a3 x hx
                  · exact pt' cap x hx) w R hw (fun e w' => ∃ v, e = .returned v ∧ next (a.put o.dst v) w')
                (fun β' v s' w' h1 h2 h3 h4 => ⟨_, rfl, hk β' v s' w' h1 h2 h3 h4⟩)
              have eargs : (first.map (pden β)).toArray ++ (l.map (SV.den β)).toArray ++ (cap.map (pden β)).toArray = ((first.map ptrV ++ (l ++ cap.map ptrV)).map (SV.den β)).toArray := by
                simp only [List.map_append, ptrV_den]
                simp
              rw [eargs]
              refine hc.mono ?_
              rintro e' w' ⟨v, rfl, h⟩
              exact h
            · exact hl.elim
          · exact hl.elim
        · exact hl.elim
      · exact hl.elim
    · exact hl.elim
end
end Go.Proofs.Ytfapicccijbanaa.Ef
