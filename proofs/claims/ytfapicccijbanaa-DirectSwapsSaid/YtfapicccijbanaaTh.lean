/- What is proved: what the second evaluator finds of regions, in any order, holds. Conditions: the evaluator's own premises. -/
import Derived.Test.YtfapicccijbanaaTg
namespace Go.Proofs.Ytfapicccijbanaa.Ef
open Go Go.Proofs.Ytfapicccijbanaa.Sep
open Go.Proofs.Ytfapicccijbanaa.Ev (Fast tyAgg tySize run_underlying' run_isAgg' run_sizeOf' run_zeroValue')
set_option linter.unusedVariables false
set_option linter.unusedSimpArgs false
set_option linter.unusedSectionVars false
inductive Gd where
  | yes | no | bad
  | fork (c : Tm) (want : Bool)
section
variable [Interp] [Rules]
def gd (π : Pi) (ops : List Oper) (fr : Frm) : Option (Nat × Bool) → Gd
  | none => .yes
  | some (j, want) =>
    match ops[j]? with
    | some o =>
      match o.dst with
      | some d =>
        match fr.get d with
        | .a (.one (.bool c)) =>
          match dec π c with
          | some b => bif boolBeq b want then .yes else .no
          | none => .fork c want
        | .a (.one (.raw _)) => .bad
        | .a (.one (.any _)) => .bad
        | .top => .bad
        | _ => .no
      | none => .no
    | none => .no
def evList (P : Program) [Fast P] [Ab P] (call : Caller) (ops : List Oper) : List Oper → Frm → St → Tree (Frm × St)
  | [], fr, s => .done (fr, s)
  | o :: rest, fr, s =>
    match gd s.pi ops fr o.guard with
    | .yes => (evOp P call o fr s).bind fun r => match r with
      | (v, s) => frcV v fun v => putK fr o.dst v fun fr => evList P call ops rest fr s
    | .no => putK fr o.dst .un fun fr => evList P call ops rest fr s
    | .fork c want => br c s.pi fun π b =>
      bif boolBeq b want then (evOp P call o fr ⟨π, s.H, s.n⟩).bind fun r => match r with
        | (v, s) => frcV v fun v => putK fr o.dst v fun fr => evList P call ops rest fr s
      else putK fr o.dst .un fun fr => evList P call ops rest fr ⟨π, s.H, s.n⟩
    | .bad => .fail 22
variable [Vars]
theorem boolBeq_iff (a b : Bool) : boolBeq a b = (a == b) := by cases a <;> cases b <;> rfl
theorem yielded_is {n : Nat} {β : Bl} {fr : Frm} {a : Act} (hf : FrIs n β fr a.tmps) (ops : List Oper) (j : Nat) {o : Oper} {d : Nat} (ho : ops[j]? = some o) (hd : o.dst = some d) (ht : (fr.get d).isTop = false) :
    yielded ops.toArray a.tmps j = match (fr.get d).den β with | .bool b => some b | _ => none := by
  unfold yielded
  rcases hf.get? d ht with h | ⟨h1, h2⟩
  · simp only [List.getElem?_toArray, ho, Option.bind_some, hd, h]
    cases (fr.get d).den β <;> rfl
  · simp only [List.getElem?_toArray, ho, Option.bind_some, hd, h1, h2]
    rfl
theorem gd_spec {π : Pi} (hπ : facts π) {n : Nat} {β : Bl} {fr : Frm} {a : Act} (hf : FrIs n β fr a.tmps) {ops : List Oper} {o : Oper} :
    (gd π ops fr o.guard = .yes → Region.wanted o (yielded ops.toArray a.tmps) = true) ∧ (gd π ops fr o.guard = .no → Region.wanted o (yielded ops.toArray a.tmps) = false) ∧
    ∀ c want, gd π ops fr o.guard = .fork c want → Region.wanted o (yielded ops.toArray a.tmps) = boolBeq c.tv want := by
  unfold Region.wanted gd
  cases hg : o.guard with
  | none => simp
  | some q =>
    obtain ⟨j, want⟩ := q
    simp only
    cases ho : ops[j]? with
    | none => simp [yielded, ho]
    | some oj =>
      simp only
      cases hd : oj.dst with
      | none => simp [yielded, ho, hd]
      | some d =>
        simp only
        cases hv : fr.get d with
        | top => simp
        | tup l =>
          rw [yielded_is hf ops j ho hd (by rw [hv]; rfl), hv]
          simp [SV.den]
        | a x =>
          rw [yielded_is hf ops j ho hd (by rw [hv]; rfl), hv]
          cases x with
          | agg l => simp [SV.den, SA.den]
          | one c =>
            cases c <;> simp [SV.den, SA.den, SC.den]
            case bool t =>
              cases hc : dec π t with
              | none => simp [boolBeq_iff]; intro c; exact ⟨fun h1 h2 => by subst h1 h2; simp, fun h1 h2 => by subst h1 h2; simp⟩
              | some b =>
                have := dec_ok hπ hc
                simp only [this, boolBeq_iff]
                cases b <;> cases want <;> simp
theorem put_defers (a : Act) (d : Option Tmp) (v : Value) : (a.put d v).defers = a.defers := by cases d <;> rfl
theorem Out.pi {β : Bl} {s : St} {w : World} {R : HProp} (h : At β s w R) {π : Pi} (hπ : facts π) : Out β s w R β ⟨π, s.H, s.n⟩ w := ⟨Ag.refl _ _, Nat.le_refl _, ⟨hπ, h.wf, h.hold⟩, Strm.refl w⟩
theorem un_wf (n : Nat) : SV.un.wf n := fun x hx => (by cases hx)
theorem evList_ok {P : Program} [Fast P] [Ab P] [AbOk P] (hn : NoGos P) {call : Caller} (hcall : CallerOk P call) {ops : List Oper} {L : Bl → Frm × St → Prop} {R : HProp} {Q : Exit → Act → World → Prop} :
    ∀ (l : List Oper) (fr : Frm) (s : St) (β : Bl) (a : Act) (w : World), (evList P call ops l fr s).Leads L β → FrIs s.n β fr a.tmps → a.defers = [] → At β s w R →
      (∀ β' fr' s' a' w', L β' (fr', s') → FrIs s'.n β' fr' a'.tmps → a'.defers = [] → Out β s w R β' s' w' → Q .normal a' w') → wpList P ops.toArray Q l a w
  | [], fr, s, β, a, w, hl, hf, hd, hw, hk => hk β fr s a w hl hf hd (Out.refl hw)
  | o :: rest, fr, s, β, a, w, hl, hf, hd, hw, hk => by
    have yes : ∀ (s1 : St), Out β s w R β s1 w → Region.wanted o (yielded ops.toArray a.tmps) = true → ((evOp P call o fr s1).bind fun r => match r with
      | (v, s) => frcV v fun v => putK fr o.dst v fun fr => evList P call ops rest fr s).Leads L β → wpList P ops.toArray Q (o :: rest) a w := by
      intro s1 h1 hwant hl
      unfold wpList
      rw [if_pos hwant]
      left
      refine evOp_ok hn hcall (bind_leads hl) (hf.mono h1.n h1.ag) h1.at_ fun β' v s' w' k1 k2 k3 k4 => ?_
      simp only [frcV_eq, putK_eq] at k1
      refine evList_ok hn hcall rest _ s' β' _ w' k1 (((hf.mono h1.n h1.ag).mono k4.n k4.ag).put o.dst k2 (.inr rfl)) (by rw [put_defers]; exact hd) k4.at_ fun β'' fr' s'' a' w'' j1 j2 j3 j4 => ?_
      exact hk β'' fr' s'' a' w'' j1 j2 j3 (h1.trans (k4.trans j4))
    have no : ∀ (s1 : St), Out β s w R β s1 w → Region.wanted o (yielded ops.toArray a.tmps) = false → (putK fr o.dst .un fun fr => evList P call ops rest fr s1).Leads L β → wpList P ops.toArray Q (o :: rest) a w := by
      intro s1 h1 hwant hl
      unfold wpList
      rw [if_neg (by rw [hwant]; simp)]
      rw [putK_eq] at hl
      refine evList_ok hn hcall rest _ s1 β _ w hl ((hf.mono h1.n h1.ag).put o.dst (un_wf _) (.inr (un_den β).symm)) (by rw [put_defers]; exact hd) h1.at_ fun β'' fr' s'' a' w'' j1 j2 j3 j4 => ?_
      exact hk β'' fr' s'' a' w'' j1 j2 j3 (h1.trans j4)
    unfold evList at hl
    obtain ⟨g1, g2, g3⟩ := gd_spec hw.pi hf (ops := ops) (o := o)
    split at hl
    · rename_i hg; exact yes s (Out.refl hw) (g1 hg) hl
    · rename_i hg; exact no s (Out.refl hw) (g2 hg) hl
    · rename_i c want hg
      obtain ⟨π', h1, h2⟩ := br_leads hl hw.pi
      have h3 := g3 c want hg
      cases hb : boolBeq c.tv want with
      | true => rw [hb] at h2 h3; exact yes _ (Out.pi hw h1) h3 h2
      | false => rw [hb] at h2 h3; exact no _ (Out.pi hw h1) h3 h2
    · exact hl.elim
end
/-! ### a region in any order: cells that nobody of it writes are held -/
def prBeq : List (Nat × Nat) → List (Nat × Nat) → Bool
  | [], [] => true
  | (a, b) :: r, (c, d) :: s => bif Nat.beq a c && Nat.beq b d then prBeq r s else false
  | _, _ => false
theorem prBeq_eq : ∀ {r s : List (Nat × Nat)}, prBeq r s = true → r = s
  | [], [], _ => rfl
  | [], _ :: _, h => by cases h
  | _ :: _, [], h => by cases h
  | (a, b) :: r, (c, d) :: s, h => by
    unfold prBeq at h
    rw [Bool.cond_eq_ite] at h
    split at h
    · rename_i hc
      rw [Bool.and_eq_true] at hc
      rw [Nat.eq_of_beq_eq_true hc.1, Nat.eq_of_beq_eq_true hc.2, prBeq_eq h]
    · cases h
def SC.beq : SC → SC → Bool
  | .int k t, .int j u => bif sameK k j then Tm.beq t u else false
  | .bool t, .bool u => Tm.beq t u
  | .ptr n o, .ptr m p => bif Nat.beq n m then Nat.beq o p else false
  | .nil, .nil => true
  | .slice n o l c, .slice m p k d => bif Nat.beq n m && Nat.beq o p then (bif Tm.beq l k then Tm.beq c d else false) else false
  | .sliceQ n o l c, .sliceQ m p k d => bif Nat.beq n m then (bif Tm.beq o p then (bif Tm.beq l k then Tm.beq c d else false) else false) else false
  | .snil, .snil => true
  | .func f a c, .func g b d => bif Nat.beq f g then (bif prBeq a b then prBeq c d else false) else false
  | .nilF, .nilF => true
  | .any i, .any j => Nat.beq i j
  | _, _ => false
theorem SC.beq_eq {c d : SC} (h : SC.beq c d = true) : c = d := by
  cases c <;> cases d <;> simp only [SC.beq] at h <;> first
    | rfl
    | (cases h; done)
    | (rw [Tm.beq_eq h])
    | (rw [Nat.eq_of_beq_eq_true h])
    | (rw [Bool.cond_eq_ite] at h
       split at h
       · rename_i hc
         first
           | (rw [kCode_inj hc, Tm.beq_eq h])
           | (rw [Nat.eq_of_beq_eq_true hc, Nat.eq_of_beq_eq_true h])
           | (rw [Bool.and_eq_true] at hc
              rw [Bool.cond_eq_ite] at h
              split at h
              · rename_i hl
                rw [Nat.eq_of_beq_eq_true hc.1, Nat.eq_of_beq_eq_true hc.2, Tm.beq_eq hl, Tm.beq_eq h]
              · cases h)
           | (rw [Bool.cond_eq_ite] at h
              split at h
              · rename_i hl
                rw [Nat.eq_of_beq_eq_true hc, prBeq_eq hl, prBeq_eq h]
              · cases h)
           | (rw [Bool.cond_eq_ite] at h
              split at h
              · rename_i hl
                rw [Bool.cond_eq_ite] at h
                split at h
                · rename_i h3
                  rw [Nat.eq_of_beq_eq_true hc, Tm.beq_eq hl, Tm.beq_eq h3, Tm.beq_eq h]
                · cases h
              · cases h)
       · cases h)
abbrev Held := List (Nat × Nat × SC)
def Held.wf (n : Nat) (S : Held) : Prop := ∀ x ∈ S, x.1 < n ∧ x.2.2.wf n
def heldB (H : SH) : Held → Bool
  | [] => true
  | (nm, off, c) :: r =>
    match find H nm with
    | some (.cells l _) =>
      match l[off]? with
      | some c' => bif SC.beq c' c then heldB H r else false
      | none => false
    | _ => false
def lookS : Held → Nat → Nat → Option SC
  | [], _, _ => none
  | (nm, off, c) :: r, m, o => bif Nat.beq nm m && Nat.beq off o then some c else lookS r m o
theorem lookS_mem : ∀ {S : Held} {m o : Nat} {c : SC}, lookS S m o = some c → (m, o, c) ∈ S
  | [], _, _, _, h => by simp [lookS] at h
  | (nm, off, c') :: r, m, o, c, h => by
    unfold lookS at h
    cases hc : (Nat.beq nm m && Nat.beq off o) with
    | true =>
      rw [hc] at h
      simp at h
      subst h
      rw [Bool.and_eq_true] at hc
      rw [Nat.eq_of_beq_eq_true hc.1, Nat.eq_of_beq_eq_true hc.2]
      exact List.mem_cons_self ..
    | false => rw [hc] at h; exact List.mem_cons_of_mem _ (lookS_mem h)
def looksS (S : Held) (m : Nat) : Nat → Nat → Option (List SC)
  | _, 0 => some []
  | o, n + 1 =>
    match lookS S m o, looksS S m (o + 1) n with
    | some c, some l => some (c :: l)
    | _, _ => none
theorem looksS_wf {S : Held} {k m : Nat} (hS : S.wf k) : ∀ (n o : Nat) (l : List SC), looksS S m o n = some l → lwf k l
  | 0, o, l, h => by simp [looksS] at h; subst h; intro c hc; cases hc
  | n + 1, o, l, h => by
    unfold looksS at h
    split at h
    · rename_i c l' h1 h2
      simp at h; subst h
      intro d hd
      rcases List.mem_cons.1 hd with rfl | hd
      · exact (hS _ (lookS_mem h1)).2
      · exact looksS_wf hS n (o + 1) l' h2 d hd
    · cases h
def loadH (P : Program) [Fast P] (S : Held) (t : TypeId) (x : SV) : Option SV :=
  match x with
  | .a (.one (.ptr nm off)) =>
    match tyAgg P t, tySize P t with
    | some true, some n => match looksS S nm off n with
      | some l => some (.a (.agg l))
      | none => none
    | some false, _ => match lookS S nm off with
      | some c => some (.c c)
      | none => none
    | _, _ => none
  | _ => none
theorem loadH_wf {P : Program} [Fast P] {S : Held} {t : TypeId} {x v : SV} (h : loadH P S t x = some v) {n : Nat} (hS : S.wf n) : v.wf n ∧ v.isTop = false := by
  unfold loadH at h
  split at h
  · split at h
    · split at h
      · rename_i hl; simp at h; subst h; exact ⟨looksS_wf hS _ _ _ hl, rfl⟩
      · cases h
    · split at h
      · rename_i hl; simp at h; subst h; exact ⟨(hS _ (lookS_mem hl)).2, rfl⟩
      · cases h
    · cases h
  · cases h
section
variable [Interp] [Rules]
/-- An operation that may be taken first. -/
def quiet (P : Program) [Fast P] (π : Pi) (ops : List Oper) (S : Held) (fr : Frm) (o : Oper) : Option (List Tm × SV) :=
  match gd π ops fr o.guard with
  | .no => some ([], .un)
  | .yes =>
    match pureOp P π fr o with
    | some r => some r
    | none =>
      match o.op with
      | .load t x => match loadH P S t (opnd fr x) with
        | some v => some ([], v)
        | none => none
      | _ => none
  | _ => none
def pickQ (P : Program) [Fast P] (π : Pi) (ops : List Oper) (S : Held) (listed : Array Bool) (fr : Frm) : List Nat → Option (Nat × Oper × List Tm × SV)
  | [] => none
  | i :: r =>
    match ops[i]? with
    | some o =>
      match quiet P π ops S fr o with
      | some (ps, v) => bif Region.free .any ops.toArray listed i then some (i, o, ps, v) else pickQ P π ops S listed fr r
      | none => pickQ P π ops S listed fr r
    | none => pickQ P π ops S listed fr r
def pickF (π : Pi) (ops : List Oper) (fr : Frm) : List Nat → Option Tm
  | [] => none
  | i :: r =>
    match ops[i]? with
    | some o =>
      match gd π ops fr o.guard with
      | .fork c _ => some c
      | _ => pickF π ops fr r
    | none => pickF π ops fr r
def allT {α : Type} : List Nat → (Nat → Tree α) → Tree α
  | [], _ => .fail 23
  | [i], t => t i
  | i :: r, t => .both (t i) (allT r t)
def evAny (P : Program) [Fast P] [Ab P] (call : Caller) (ops : List Oper) (S : Held) : Nat → Nat → Array Bool → Frm → St → Tree (Frm × St)
  | 0, _, _, _, _ => .fail 24
  | g + 1, F, listed, fr, s =>
    match Region.ready .any ops.toArray listed with
    | [] => .done (fr, s)
    | r :: rs =>
      match F with
      | 0 => .fail 25
      | F + 1 =>
        match pickQ P s.pi ops S listed fr (r :: rs) with
        | some (i, o, ps, v) => needs s.pi ps (frcV v fun v => putK fr o.dst v fun fr => evAny P call ops S g F (listed.setIfInBounds i true) fr s)
        | none =>
          match pickF s.pi ops fr (r :: rs) with
          | some c => br c s.pi fun π b => evAny P call ops S g (F + 1) listed fr ⟨π, s.H, s.n⟩
          | none => allT (r :: rs) fun i =>
            match ops[i]? with
            | some o =>
              match gd s.pi ops fr o.guard with
              | .yes => (evOp P call o fr s).bind fun q => match q with
                | (v, s') => bif heldB s'.H S then frcV v fun v => putK fr o.dst v fun fr => evAny P call ops S g F (listed.setIfInBounds i true) fr s' else .fail 26
              | _ => .fail 27
            | none => .fail 28
variable [Vars]
def heldS (S : Held) (β : Bl) (w : World) : Prop := ∀ x ∈ S, w.cell? ⟨β x.1, x.2.1, none⟩ = some (x.2.2.den β)
theorem heldS_ext {S : Held} {n : Nat} (hS : S.wf n) {β β' : Bl} (h : Ag n β β') {w : World} : heldS S β' w ↔ heldS S β w := by
  constructor
  · intro hh x hx
    have := hh x hx
    rw [h _ (hS x hx).1, SC.ext h (hS x hx).2] at this
    exact this
  · intro hh x hx
    rw [h _ (hS x hx).1, SC.ext h (hS x hx).2]
    exact hh x hx
theorem heldB_ok {β : Bl} {H : SH} {w : World} {R : HProp} (hw : Holds w (hden β H * R)) : ∀ (S : Held), heldB H S = true → heldS S β w
  | [], h => fun x hx => (by cases hx)
  | (nm, off, c) :: r, h => by
    unfold heldB at h
    split at h
    · rename_i l T hf
      split at h
      · rename_i c' hl
        rw [Bool.cond_eq_ite] at h
        split at h
        · rename_i hc
          have e := SC.beq_eq hc
          subst e
          have hw1 : Holds w (pt (β nm) (.cells (dens β l) T (0, 0)) * (hden β (del H nm) * R)) := focus hf hw
          intro x hx
          rcases List.mem_cons.1 hx with rfl | hx
          · show w.cell? ⟨β nm, off, none⟩ = some (c'.den β)
            rw [hw1.cells]
            simp [dens, hl]
          · exact heldB_ok hw r h x hx
        · cases h
      · cases h
    · cases h
theorem looksS_ok {S : Held} {β : Bl} {m : Nat} {w : World} (hS : heldS S β w) : ∀ (n o : Nat) (l : List SC), looksS S m o n = some l →
    l.length = n ∧ ∀ j c, l[j]? = some c → w.cell? ⟨β m, o + j, none⟩ = some (c.den β)
  | 0, o, l, h => by
    simp [looksS] at h
    subst h
    exact ⟨rfl, fun j c hj => by simp at hj⟩
  | n + 1, o, l, h => by
    unfold looksS at h
    split at h
    · rename_i c l' h1 h2
      simp at h
      subst h
      obtain ⟨g1, g2⟩ := looksS_ok hS n (o + 1) l' h2
      refine ⟨by simp [g1], fun j c' hj => ?_⟩
      cases j with
      | zero => simp at hj; subst hj; exact hS _ (lookS_mem h1)
      | succ j =>
        simp at hj
        have := g2 j c' hj
        rw [show o + (j + 1) = o + 1 + j by omega]; exact this
    · simp at h
theorem run_loadH {P : Program} [Fast P] {S : Held} {β : Bl} {t : TypeId} {x v : SV} (h : loadH P S t x = some v) {w : World} (hS : heldS S β w) :
    (Instr.loadAt t (x.den β)).run P w = .ok (v.den β) w := by
  unfold loadH at h
  split at h
  · rename_i nm off
    unfold Instr.loadAt
    simp only [SV.den, SA.den, SC.den, Instr.sureAddr, Sem.run_bind, Sem.run_pure, Result.andThen_ok]
    split at h
    · rename_i n ha hs
      split at h
      · rename_i l hl
        simp at h
        subst h
        obtain ⟨g1, g2⟩ := looksS_ok hS n off l hl
        refine run_loadVar_agg ha hs (l := l.map (SC.den β)) (by simp [g1]) fun j c hj => ?_
        rw [List.getElem?_map] at hj
        cases hlj : l[j]? with
        | none => rw [hlj] at hj; cases hj
        | some d => rw [hlj] at hj; simp at hj; subst hj; exact g2 j d hlj
      · cases h
    · rename_i ha
      split at h
      · rename_i c hl
        simp at h
        subst h
        exact run_loadVar_one ha (hS _ (lookS_mem hl))
      · cases h
    · simp at h
  · simp at h
theorem quiet_ok {P : Program} [Fast P] {π : Pi} (hπ : facts π) {n : Nat} {β : Bl} {fr : Frm} {a : Act} (hf : FrIs n β fr a.tmps) {ops : List Oper} {S : Held} {S0 : World → Prop} (h0 : ∀ w, S0 w → heldS S β w) {o : Oper} {ps : List Tm} {v : SV} (h : quiet P π ops S fr o = some (ps, v)) (hp : ∀ p ∈ ps, p.tv = true) :
    YieldsIf P ops.toArray S0 o (v.den β) a := by
  obtain ⟨g1, g2, g3⟩ := gd_spec hπ hf (ops := ops) (o := o)
  unfold quiet at h
  unfold YieldsIf
  split at h
  · rename_i hg
    simp at h
    obtain ⟨rfl, rfl⟩ := h
    exact .inr ⟨g2 hg, un_den β⟩
  · rename_i hg
    left
    refine ⟨g1 hg, fun w hS => ?_⟩
    split at h
    · rename_i r hr
      simp only [Option.some.injEq] at h
      subst h
      exact run_pureOp hπ hf hr hp w
    · split at h
      · rename_i t x ho
        split at h
        · rename_i u hu
          simp at h
          obtain ⟨rfl, rfl⟩ := h
          have hx : (opnd fr x).isTop = false := by
            unfold loadH at hu
            split at hu
            · rename_i e; rw [e]; rfl
            · cases hu
          have := run_loadH hu (h0 w hS)
          unfold execOp
          simp only [ho, opnd_den hf x hx, Sem.run_bind, this, Result.andThen_ok, Sem.run_pure]
        · cases h
      · simp at h
  · simp at h
theorem quiet_wf {P : Program} [Fast P] {π : Pi} {n : Nat} {β : Bl} {fr : Frm} {a : Array Value} (hf : FrIs n β fr a) {ops : List Oper} {S : Held} (hS : S.wf n) {o : Oper} {ps : List Tm} {v : SV} (h : quiet P π ops S fr o = some (ps, v)) : v.wf n ∧ v.isTop = false := by
  unfold quiet at h
  split at h
  · simp at h; obtain ⟨_, rfl⟩ := h; exact ⟨un_wf n, rfl⟩
  · split at h
    · rename_i r hr
      simp only [Option.some.injEq] at h
      subst h
      exact ⟨pureOp_wf hf hr, pureOp_notTop hr⟩
    · split at h
      · split at h
        · rename_i hu; simp at h; obtain ⟨_, rfl⟩ := h; exact loadH_wf hu hS
        · cases h
      · cases h
  · cases h
theorem pickQ_ok {P : Program} [Fast P] {π : Pi} {ops : List Oper} {S : Held} {listed : Array Bool} {fr : Frm} : ∀ {l : List Nat} {i : Nat} {o : Oper} {ps : List Tm} {v : SV}, pickQ P π ops S listed fr l = some (i, o, ps, v) →
    i ∈ l ∧ ops[i]? = some o ∧ quiet P π ops S fr o = some (ps, v) ∧ Region.free .any ops.toArray listed i = true
  | [], _, _, _, _, h => by simp [pickQ] at h
  | j :: r, i, o, ps, v, h => by
    unfold pickQ at h
    split at h
    · rename_i o' ho
      split at h
      · rename_i ps' v' hq
        cases hf : Region.free .any ops.toArray listed j with
        | true =>
          rw [hf] at h
          simp at h
          obtain ⟨rfl, rfl, rfl, rfl⟩ := h
          exact ⟨List.mem_cons_self .., ho, hq, hf⟩
        | false =>
          rw [hf] at h
          obtain ⟨h1, h2⟩ := pickQ_ok h
          exact ⟨List.mem_cons_of_mem _ h1, h2⟩
      · obtain ⟨h1, h2⟩ := pickQ_ok h
        exact ⟨List.mem_cons_of_mem _ h1, h2⟩
    · obtain ⟨h1, h2⟩ := pickQ_ok h
      exact ⟨List.mem_cons_of_mem _ h1, h2⟩
theorem allT_leads {α : Type} {L : Bl → α → Prop} {β : Bl} {t : Nat → Tree α} : ∀ {l : List Nat}, (allT l t).Leads L β → ∀ i ∈ l, (t i).Leads L β
  | [], h, i, hi => by cases hi
  | [j], h, i, hi => by
    rcases List.mem_singleton.1 hi with rfl
    exact h
  | j :: k :: r, h, i, hi => by
    obtain ⟨h1, h2⟩ := h
    rcases List.mem_cons.1 hi with rfl | hi
    · exact h1
    · exact allT_leads h2 i hi
theorem evAny_ok {P : Program} [Fast P] [Ab P] [AbOk P] (hn : NoGos P) {call : Caller} (hcall : CallerOk P call) {ops : List Oper} {S : Held} {n0 : Nat} (hS0 : S.wf n0) {β0 : Bl} (hns : Region.noSelect ops.toArray = true) {L : Bl → Frm × St → Prop} {R : HProp}
    {Q : Exit → Act → World → Prop} (hQ : ∀ c a a' w, Q (.panic c) a w → Q (.panic c) a' w) :
    ∀ (g F : Nat) (listed : Array Bool) (fr : Frm) (s : St) (β : Bl) (a : Act) (w : World), (evAny P call ops S g F listed fr s).Leads L β → FrIs s.n β fr a.tmps → a.defers = [] → At β s w R → n0 ≤ s.n → Ag n0 β0 β → heldS S β0 w →
      (∀ β' fr' s' a' w', L β' (fr', s') → FrIs s'.n β' fr' a'.tmps → a'.defers = [] → Out β s w R β' s' w' → Q .normal a' w') → wpAnyH P .any ops.toArray Q (heldS S β0) F listed a w
  | 0, F, listed, fr, s, β, a, w, hl, hf, hd, hw, hn0, hag, hS, hk => hl.elim
  | g + 1, F, listed, fr, s, β, a, w, hl, hf, hd, hw, hn0, hag, hS, hk => by
    unfold evAny at hl
    split at hl
    · rename_i hr
      exact wpAnyH_done hr (hk β fr s a w hl hf hd (Out.refl hw)) F
    · rename_i r rs hr
      cases F with
      | zero => exact hl.elim
      | succ F =>
        simp only at hl
        split at hl
        · rename_i i o ps v hq
          obtain ⟨h1, h2⟩ := needs_leads hw.pi hl
          rw [frcV_eq, putK_eq] at h2
          obtain ⟨p1, p2, p3, p4⟩ := pickQ_ok hq
          obtain ⟨q1, q2⟩ := quiet_wf hf (fun x hx => ⟨Nat.lt_of_lt_of_le (hS0 x hx).1 hn0, SC.wf_mono hn0 (hS0 x hx).2⟩) p3
          refine wpAnyH_take (i := i) (oi := o) (v := v.den β) (by simpa using p2) hns p4 (by rw [hr]; simpa using p1) (fun c a w h => hQ c _ _ w h) (quiet_ok hw.pi hf (fun w hh => (heldS_ext hS0 hag).2 hh) p3 h1) hS ?_
          exact evAny_ok hn hcall hS0 hns hQ g F _ _ s β _ w h2 (hf.put o.dst q1 (.inr rfl)) (by rw [put_defers]; exact hd) hw hn0 hag hS hk
        · split at hl
          · rename_i c hc
            obtain ⟨π', h1, h2⟩ := br_leads hl hw.pi
            exact evAny_ok hn hcall hS0 hns hQ g (F + 1) _ _ _ β _ w h2 hf hd ⟨h1, hw.wf, hw.hold⟩ hn0 hag hS fun β' fr' s' a' w' j1 j2 j3 j4 => hk β' fr' s' a' w' j1 j2 j3 ((Out.pi hw h1).trans j4)
          · refine wpAnyH_all hr (by simp) fun i hi => ?_
            have hl' := allT_leads hl i hi
            split at hl'
            · rename_i o ho
              split at hl'
              · rename_i hg
                have ho' : ops.toArray[i]? = some o := by simpa using ho
                unfold wpOp
                simp only [ho']
                rw [if_pos ((gd_spec hw.pi hf (ops := ops) (o := o)).1 hg)]
                left
                refine evOp_ok hn hcall (bind_leads hl') hf hw fun β' v s' w' k1 k2 k3 k4 => ?_
                simp only at k1
                rw [Bool.cond_eq_ite] at k1
                split at k1
                · rename_i hB
                  rw [frcV_eq, putK_eq] at k1
                  have ag' : Ag n0 β0 β' := hag.trans k4.ag hn0
                  have hS' := (heldS_ext hS0 ag').1 (heldB_ok k4.at_.hold S hB)
                  exact ⟨hS', evAny_ok hn hcall hS0 hns hQ g F _ _ s' β' _ w' k1 ((hf.mono k4.n k4.ag).put o.dst k2 (.inr rfl)) (by rw [put_defers]; exact hd) k4.at_ (Nat.le_trans hn0 k4.n) ag' hS' fun β'' fr' s'' a' w'' j1 j2 j3 j4 => hk β'' fr' s'' a' w'' j1 j2 j3 (k4.trans j4)⟩
                · exact k1.elim
              · exact hl'.elim
            · exact hl'.elim
end
/-! ### the cells that a region's loads read and that none of its stores writes -/
def keepable : SC → Bool
  | .raw _ => false
  | _ => true
section
variable [Interp] [Rules]
def gather (P : Program) [Fast P] (π : Pi) (ops : List Oper) (H : SH) : List Oper → Frm → Held → List (Nat × Nat × Nat) → Held × List (Nat × Nat × Nat)
  | [], _, S, W => (S, W)
  | o :: rest, fr, S, W =>
    match gd π ops fr o.guard with
    | .no => putK fr o.dst .un fun fr => gather P π ops H rest fr S W
    | .bad => putK fr o.dst .top fun fr => gather P π ops H rest fr S W
    | _ =>
      match pureOp P π fr o with
      | some (_, v) => frcV v fun v => putK fr o.dst v fun fr => gather P π ops H rest fr S W
      | none =>
        match o.op with
        | .load t x =>
          match opnd fr x with
          | .a (.one (.ptr nm off)) =>
            match find H nm with
            | some (.cells l _) =>
              match loadC P t l off, tySize P t with
              | some v, some n => frcV v fun v => putK fr o.dst v fun fr => gather P π ops H rest fr (((l.drop off).take n).zipIdx.map (fun p => (nm, off + p.2, p.1)) ++ S) W
              | _, _ => putK fr o.dst .top fun fr => gather P π ops H rest fr S W
            | _ => putK fr o.dst .top fun fr => gather P π ops H rest fr S W
          | _ => putK fr o.dst .top fun fr => gather P π ops H rest fr S W
        | .store t x _ =>
          match opnd fr x, tySize P t with
          | .a (.one (.ptr nm off)), some n => gather P π ops H rest fr S ((nm, off, n) :: W)
          | _, _ => gather P π ops H rest fr S W
        | _ => putK fr o.dst .top fun fr => gather P π ops H rest fr S W
def struck (W : List (Nat × Nat × Nat)) (nm off : Nat) : Bool := W.any fun q => Nat.beq q.1 nm && (Nat.ble q.2.1 off && Nat.blt off (q.2.1 + q.2.2))
def frcHeld {R : Type} : Held → (Held → R) → R
  | [], k => k []
  | (nm, off, c) :: r, k => frcN off fun off => frcHeld r fun r => k ((nm, off, c) :: r)
theorem frcHeld_eq {R : Type} : ∀ (S : Held) (k : Held → R), frcHeld S k = k S
  | [], k => rfl
  | (nm, off, c) :: r, k => by unfold frcHeld; rw [frcN_eq, frcHeld_eq r]
def gathered (P : Program) [Fast P] (π : Pi) (ops : List Oper) (fr : Frm) (H : SH) : Held :=
  let r := gather P π ops H ops fr [] []
  r.1.filter fun x => keepable x.2.2 && (!struck r.2 x.1 x.2.1 && heldB H [x])
variable [Vars]
theorem gathered_wf {P : Program} [Fast P] {π : Pi} {ops : List Oper} {fr : Frm} {H : SH} {n : Nat} (hH : hwf n H) : (gathered P π ops fr H).wf n := by
  intro x hx
  have h := (List.mem_filter.1 hx).2
  rw [Bool.and_eq_true, Bool.and_eq_true] at h
  obtain ⟨nm, off, c⟩ := x
  have h3 := h.2.2
  unfold heldB at h3
  split at h3
  · rename_i l T hf
    split at h3
    · rename_i c' hl
      rw [Bool.cond_eq_ite] at h3
      split at h3
      · rename_i hc
        have e := SC.beq_eq hc
        subst e
        have := hH _ (find_mem hf)
        exact ⟨this.1, this.2 _ (List.mem_of_getElem? hl)⟩
      · cases h3
    · cases h3
  · cases h3
theorem gathered_held {P : Program} [Fast P] {π : Pi} {ops : List Oper} {fr : Frm} {β : Bl} {H : SH} {w : World} {R : HProp} (hw : Holds w (hden β H * R)) : heldS (gathered P π ops fr H) β w := by
  intro x hx
  have h := (List.mem_filter.1 hx).2
  rw [Bool.and_eq_true, Bool.and_eq_true] at h
  exact heldB_ok hw [x] h.2.2 x (List.mem_singleton.2 rfl)
end
end Go.Proofs.Ytfapicccijbanaa.Ef
