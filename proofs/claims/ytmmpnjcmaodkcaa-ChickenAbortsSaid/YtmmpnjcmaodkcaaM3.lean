/- What is proved: the texts on which the statement's own texts stand. Conditions: stated with each lemma. -/
import Derived.Test.YtmmpnjcmaodkcaaM2
import Derived.Test.YtmmpnjcmaodkcaaM0
/- What is proved: the rule for loops of unknown length: states at the loops' heads, each a pattern; what is between two of them by the second evaluator. Conditions: that each way from a pattern comes to a pattern at less, or to an end that is asked for. -/
namespace Go.Proofs.Ytmmpnjcmaodkcaa.Ef
open Go Go.Proofs.Ytmmpnjcmaodkcaa.Sep
open Go.Proofs.Ytmmpnjcmaodkcaa.Ev (Fast)
set_option linter.unusedVariables false
set_option linter.unusedSimpArgs false
set_option linter.unusedSectionVars false
def Tree.allB {α : Type} (p : α → Bool) : Tree α → Bool
  | .done x => p x
  | .ite _ a b => bif a.allB p then b.allB p else false
  | .new _ t => t.allB p
  | .both a b => bif a.allB p then b.allB p else false
  | .fail _ => false
theorem allB_leads [Interp] [Vars] {α : Type} {p : α → Bool} : ∀ {t : Tree α} {β : Bl}, t.allB p = true → t.Leads (fun _ x => p x = true) β
  | .done x, β, h => h
  | .ite c a b, β, h => by
    unfold Tree.allB at h
    rw [Bool.cond_eq_ite] at h
    split at h
    · rename_i ha; exact ⟨fun _ => allB_leads ha, fun _ => allB_leads h⟩
    · cases h
  | .new n t, β, h => fun b => allB_leads (t := t) h
  | .both a b, β, h => by
    unfold Tree.allB at h
    rw [Bool.cond_eq_ite] at h
    split at h
    · rename_i ha; exact ⟨allB_leads ha, allB_leads h⟩
    · cases h
  | .fail _, β, h => by cases h
inductive Lv where
  | at (k : Nat)
  | ex (e : Exit)
abbrev Ls := Lv × Frm × St
def keyOf : Code → Option Nat
  | .region id _ _ => some id
  | .seq a b => match keyOf a with
    | some k => some k
    | none => keyOf b
  | .block _ c => keyOf c
  | .scope c => keyOf c
  | .loop c => keyOf c
  | .cond _ a b => match keyOf a with
    | some k => some k
    | none => keyOf b
  | _ => none
def isK (k : Nat) (c : Code) : Bool :=
  match keyOf c with
  | some j => Nat.beq j k
  | none => false
def hasKey (k : Nat) : Code → Bool
  | .seq a b => bif hasKey k a then true else hasKey k b
  | .block _ c => hasKey k c
  | .scope c => hasKey k c
  | .cond _ a b => bif hasKey k a then true else hasKey k b
  | .loop c => isK k c
  | _ => false
def memN : List Nat → Nat → Bool
  | [], _ => false
  | j :: r, i => bif Nat.beq j i then true else memN r i
def anyKey (ks : List Nat) : Code → Bool
  | .seq a b => bif anyKey ks a then true else anyKey ks b
  | .block _ c => anyKey ks c
  | .scope c => anyKey ks c
  | .cond _ a b => bif anyKey ks a then true else anyKey ks b
  | .loop c => match keyOf c with
    | some k => memN ks k
    | none => false
  | _ => false
def lift (t : Tree Ex) : Tree Ls := t.bind fun q => match q with
  | (e, fr, s) => .done (.ex e, fr, s)
/-- No loop of the first part is met from the second. -/
def late (a : Code) (t : Tree Ls) : Tree Ls := t.bind fun q => match q with
  | (.at k, fr, s) => bif hasKey k a then .fail 50 else .done (.at k, fr, s)
  | (.ex e, fr, s) => .done (.ex e, fr, s)
section
variable [Interp] [Rules]
def evS (P : Program) [Fast P] [Ab P] (Γ : Ctr) (mf : Nat → Bool) (g : Nat) (ks : List Nat) : Code → Option Nat → Frm → St → Tree Ls
  | .seq a b, none, fr, s => (evS P Γ mf g ks a none fr s).bind fun q => match q with
    | (.ex .normal, fr, s) => late a (evS P Γ mf g ks b none fr s)
    | q => .done q
  | .seq a b, some k, fr, s =>
    bif hasKey k a then (evS P Γ mf g ks a (some k) fr s).bind fun q => match q with
      | (.ex .normal, fr, s) => late a (evS P Γ mf g ks b none fr s)
      | q => .done q
    else late a (evS P Γ mf g ks b (some k) fr s)
  | .block id c, st, fr, s => (evS P Γ mf g ks c st fr s).bind fun q => match q with
    | (.ex (.exit id'), fr, s) => bif Nat.beq id' id then .done (.ex .normal, fr, s) else .done (.ex (.exit id'), fr, s)
    | q => .done q
  | .scope c, st, fr, s => (evS P Γ mf g ks c st fr s).bind fun q => match q with
    | (.ex (.goto _), fr, s) => .fail 51
    | q => .done q
  | .cond x a b, none, fr, s =>
    bif anyKey ks (.cond x a b) then
      match opnd fr x with
      | .a (.one (.bool c)) => br c s.pi fun π t => bif t then evS P Γ mf g ks a none fr ⟨π, s.H, s.n⟩ else late a (evS P Γ mf g ks b none fr ⟨π, s.H, s.n⟩)
      | _ => .fail 52
    else lift (evCode P Γ mf g false (.cond x a b) fr s)
  | .cond x a b, some k, fr, s => bif hasKey k a then evS P Γ mf g ks a (some k) fr s else late a (evS P Γ mf g ks b (some k) fr s)
  | .loop c, none, fr, s =>
    match keyOf c with
    | some k => bif memN ks k then .done (.at k, fr, s) else lift (evCode P Γ mf g false (.loop c) fr s)
    | none => lift (evCode P Γ mf g false (.loop c) fr s)
  | .loop c, some k, fr, s => (evCode P Γ mf g false c fr s).bind fun q => match q with
    | (.normal, fr, s) => .done (.at k, fr, s)
    | (e, fr, s) => .done (.ex e, fr, s)
  | c, none, fr, s => lift (evCode P Γ mf g false c fr s)
  | _, some _, _, _ => .fail 53
end
/-- What has to hold at a loop's head, of so many rounds at most. -/
def wpAt (P : Program) (m k : Nat) : Code → (Exit → Act → World → Prop) → Act → World → Prop
  | .seq a b, Q => if hasKey k a = true then wpAt P m k a (Exit.then (b.wp P Q) Q) else wpAt P m k b Q
  | .block id c, Q => wpAt P m k c (Exit.inBlock id Q)
  | .scope c, Q => wpAt P m k c (Exit.noGoto Q)
  | .cond _ a b, Q => if hasKey k a = true then wpAt P m k a Q else wpAt P m k b Q
  | .loop c, Q => Code.rounds P c Q m
  | _, _ => fun _ _ => False
section
variable [Interp] [Rules] [Vars]
theorem lift_leads {L : Bl → Ls → Prop} {t : Tree Ex} {β : Bl} (h : (lift t).Leads L β) : t.Leads (fun β' q => L β' (.ex q.1, q.2.1, q.2.2)) β := Tree.Leads.mono (fun β' q h => h) (bind_leads h)
theorem late_leads {L : Bl → Ls → Prop} {a : Code} {t : Tree Ls} {β : Bl} (h : (late a t).Leads L β) : t.Leads (fun β' q => L β' q ∧ ∀ k, q.1 = .at k → hasKey k a = false) β := by
  refine Tree.Leads.mono (fun β' q h => ?_) (bind_leads h)
  obtain ⟨lv, fr, s⟩ := q
  cases lv with
  | ex e => exact ⟨h, fun k hk => by cases hk⟩
  | «at» k =>
    simp only at h
    rw [Bool.cond_eq_ite] at h
    split at h
    · exact h.elim
    · rename_i hk
      exact ⟨h, fun k' hk' => by cases hk'; simpa using hk⟩
/-- Where a way that comes to loop k' goes on. -/
def Goes (P : Program) (st : Option Nat) (m : Nat) (c : Code) (Q : Exit → Act → World → Prop) (a : Act) (w : World) (k' : Nat) : Prop :=
  (st = some k' → wpAt P m k' c Q a w) ∧ (st ≠ some k' → ∃ m', wpAt P m' k' c Q a w)
theorem Goes.imp {P : Program} {st : Option Nat} {m : Nat} {c d : Code} {Q Q' : Exit → Act → World → Prop} {a : Act} {w : World} {k' : Nat} (h : ∀ m, wpAt P m k' c Q a w → wpAt P m k' d Q' a w) (g : Goes P st m c Q a w k') : Goes P st m d Q' a w k' :=
  ⟨fun e => h _ (g.1 e), fun e => let ⟨m', x⟩ := g.2 e; ⟨m', h _ x⟩⟩
theorem Goes.none {P : Program} {m : Nat} {c : Code} {Q : Exit → Act → World → Prop} {a : Act} {w : World} {k' : Nat} {st : Option Nat} (g : Goes P st m c Q a w k') : Goes P none m c Q a w k' := by
  refine ⟨fun e => (by cases e), fun _ => ?_⟩
  by_cases h : st = some k'
  · exact ⟨m, g.1 h⟩
  · exact g.2 h
variable {P : Program} [Fast P] [Ab P] [AbOk P]
theorem evS_ok (hn : NoGos P) (hm : P.follows .mixedOrders = true) {Γ : Ctr} (hΓ : CtrOk P Γ) {mf : Nat → Bool} {g : Nat} {ks : List Nat} (m : Nat) :
    ∀ (c : Code) (st : Option Nat) (fr : Frm) (s : St) (L : Bl → Ls → Prop) (β : Bl) (a : Act) (w : World) (R : HProp) (Q : Exit → Act → World → Prop), (evS P Γ mf g ks c st fr s).Leads L β → FrIs s.n β fr a.tmps → a.defers = [] → At β s w R →
      (∀ β' e fr' s' a' w', L β' (.ex e, fr', s') → FrIs s'.n β' fr' a'.tmps → a'.defers = [] → Out β s w R β' s' w' → Q e a' w') →
      (∀ β' k' fr' s' a' w', L β' (.at k', fr', s') → hasKey k' c = true → FrIs s'.n β' fr' a'.tmps → a'.defers = [] → Out β s w R β' s' w' → Goes P st m c Q a' w' k') →
      (st = none → c.wp P Q a w) ∧ (∀ k, st = some k → hasKey k c = true → wpAt P (m + 1) k c Q a w) := by
  have leaf : ∀ (c : Code) (fr : Frm) (s : St) (L : Bl → Ls → Prop) (β : Bl) (a : Act) (w : World) (R : HProp) (Q : Exit → Act → World → Prop), (lift (evCode P Γ mf g false c fr s)).Leads L β → FrIs s.n β fr a.tmps → a.defers = [] → At β s w R →
      (∀ β' e fr' s' a' w', L β' (.ex e, fr', s') → FrIs s'.n β' fr' a'.tmps → a'.defers = [] → Out β s w R β' s' w' → Q e a' w') → c.wp P Q a w :=
    fun c fr s L β a w R Q hl hf hd hw hex => evCode_ok hn hm hΓ mf g false c fr s _ β a w R Q (lift_leads hl) hf hd hw fun β' e fr' s' a' w' h1 h2 h3 h4 => hex β' e fr' s' a' w' h1 h2 h3 h4
  intro c
  induction c with
  | seq x y ihx ihy =>
    intro st fr s L β a w R Q hl hf hd hw hex hat
    have tail : ∀ (st0 : Option Nat) {β' : Bl} {fr' : Frm} {s' : St} {a' : Act} {w' : World}, (late x (evS P Γ mf g ks y none fr' s')).Leads L β' → FrIs s'.n β' fr' a'.tmps → a'.defers = [] → Out β s w R β' s' w' → y.wp P Q a' w' := by
      intro st0 β' fr' s' a' w' h1 h2 h3 h4
      refine (ihy none fr' s' _ β' a' w' R Q (late_leads h1) h2 h3 h4.at_ (fun β'' e fr'' s'' a'' w'' k1 k2 k3 k4 => hex β'' e fr'' s'' a'' w'' k1.1 k2 k3 (h4.trans k4)) fun β'' k' fr'' s'' a'' w'' k1 kk k2 k3 k4 => ?_).1 rfl
      have hx : hasKey k' x = false := k1.2 k' rfl
      have := hat β'' k' fr'' s'' a'' w'' k1.1 (by unfold hasKey; rw [hx]; exact kk) k2 k3 (h4.trans k4)
      refine Goes.none (Goes.imp (fun m h => ?_) this)
      unfold wpAt at h
      rw [if_neg (by rw [hx]; simp)] at h
      exact h
    cases st with
    | none =>
      refine ⟨fun _ => ?_, fun k hk => by cases hk⟩
      unfold evS at hl
      refine wp_seq ((ihx none fr s _ β a w R _ (bind_leads hl) hf hd hw (fun β' e fr' s' a' w' h1 h2 h3 h4 => ?_) fun β' k' fr' s' a' w' h1 hk h2 h3 h4 => ?_).1 rfl)
      · cases e with
        | normal => exact tail none h1 h2 h3 h4
        | exit id => exact hex β' _ fr' s' a' w' h1 h2 h3 h4
        | goto l => exact hex β' _ fr' s' a' w' h1 h2 h3 h4
        | ret => exact hex β' _ fr' s' a' w' h1 h2 h3 h4
        | panic ch => exact hex β' _ fr' s' a' w' h1 h2 h3 h4
        | outgrown => exact hex β' _ fr' s' a' w' h1 h2 h3 h4
      · have := hat β' k' fr' s' a' w' h1 (by unfold hasKey; rw [hk]; rfl) h2 h3 h4
        refine Goes.imp (fun m h => ?_) this
        unfold wpAt at h
        rw [if_pos hk] at h
        exact h
    | some k =>
      refine ⟨(fun h => by cases h), fun k1 hk1 hkey => ?_⟩
      cases hk1
      unfold evS at hl
      rw [Bool.cond_eq_ite] at hl
      unfold wpAt
      split at hl
      · rename_i hkx
        rw [if_pos hkx]
        refine (ihx (some k) fr s _ β a w R _ (bind_leads hl) hf hd hw (fun β' e fr' s' a' w' h1 h2 h3 h4 => ?_) fun β' k' fr' s' a' w' h1 hk h2 h3 h4 => ?_).2 k rfl hkx
        · cases e with
          | normal => exact tail (some k) h1 h2 h3 h4
          | exit id => exact hex β' _ fr' s' a' w' h1 h2 h3 h4
          | goto l => exact hex β' _ fr' s' a' w' h1 h2 h3 h4
          | ret => exact hex β' _ fr' s' a' w' h1 h2 h3 h4
          | panic ch => exact hex β' _ fr' s' a' w' h1 h2 h3 h4
          | outgrown => exact hex β' _ fr' s' a' w' h1 h2 h3 h4
        · have := hat β' k' fr' s' a' w' h1 (by unfold hasKey; rw [hk]; rfl) h2 h3 h4
          refine Goes.imp (fun m h => ?_) this
          unfold wpAt at h
          rw [if_pos hk] at h
          exact h
      · rename_i hkx
        rw [if_neg hkx]
        have hkx' : hasKey k x = false := by simpa using hkx
        refine (ihy (some k) fr s _ β a w R Q (late_leads hl) hf hd hw (fun β' e fr' s' a' w' h1 h2 h3 h4 => hex β' e fr' s' a' w' h1.1 h2 h3 h4) fun β' k' fr' s' a' w' h1 hk h2 h3 h4 => ?_).2 k rfl (by unfold hasKey at hkey; rw [hkx'] at hkey; exact hkey)
        have hx : hasKey k' x = false := h1.2 k' rfl
        have := hat β' k' fr' s' a' w' h1.1 (by unfold hasKey; rw [hx]; exact hk) h2 h3 h4
        refine Goes.imp (fun m h => ?_) this
        unfold wpAt at h
        rw [if_neg (by rw [hx]; simp)] at h
        exact h
  | block id c ih =>
    intro st fr s L β a w R Q hl hf hd hw hex hat
    unfold evS at hl
    have := ih st fr s _ β a w R (Exit.inBlock id Q) (bind_leads hl) hf hd hw (fun β' e fr' s' a' w' h1 h2 h3 h4 => by
      cases e with
      | exit id' =>
        simp only at h1
        simp only [Exit.inBlock]
        cases hid : Nat.beq id' id with
        | true =>
          rw [hid] at h1
          rw [if_pos (Nat.eq_of_beq_eq_true hid)]
          exact hex β' _ fr' s' a' w' h1 h2 h3 h4
        | false =>
          rw [hid] at h1
          rw [if_neg (fun h => by rw [h, Nat.beq_refl] at hid; cases hid)]
          exact hex β' _ fr' s' a' w' h1 h2 h3 h4
      | normal => exact hex β' _ fr' s' a' w' h1 h2 h3 h4
      | goto l => exact hex β' _ fr' s' a' w' h1 h2 h3 h4
      | ret => exact hex β' _ fr' s' a' w' h1 h2 h3 h4
      | panic ch => exact hex β' _ fr' s' a' w' h1 h2 h3 h4
      | outgrown => exact hex β' _ fr' s' a' w' h1 h2 h3 h4) (fun β' k' fr' s' a' w' h1 hk h2 h3 h4 => hat β' k' fr' s' a' w' h1 hk h2 h3 h4)
    exact ⟨fun h => wp_block (this.1 h), fun k hk hkey => this.2 k hk hkey⟩
  | scope c ih =>
    intro st fr s L β a w R Q hl hf hd hw hex hat
    unfold evS at hl
    have := ih st fr s _ β a w R (Exit.noGoto Q) (bind_leads hl) hf hd hw (fun β' e fr' s' a' w' h1 h2 h3 h4 => by
      cases e with
      | goto l => exact h1.elim
      | exit id => exact hex β' _ fr' s' a' w' h1 h2 h3 h4
      | normal => exact hex β' _ fr' s' a' w' h1 h2 h3 h4
      | ret => exact hex β' _ fr' s' a' w' h1 h2 h3 h4
      | panic ch => exact hex β' _ fr' s' a' w' h1 h2 h3 h4
      | outgrown => exact hex β' _ fr' s' a' w' h1 h2 h3 h4) (fun β' k' fr' s' a' w' h1 hk h2 h3 h4 => hat β' k' fr' s' a' w' h1 hk h2 h3 h4)
    exact ⟨fun h => wp_scope_straight (this.1 h), fun k hk hkey => this.2 k hk hkey⟩
  | cond x c1 c2 ih1 ih2 =>
    intro st fr s L β a w R Q hl hf hd hw hex hat
    have hat1 : ∀ β' k' fr' s' a' w', L β' (.at k', fr', s') → hasKey k' c1 = true → FrIs s'.n β' fr' a'.tmps → a'.defers = [] → Out β s w R β' s' w' → Goes P st m c1 Q a' w' k' := by
      intro β' k' fr' s' a' w' h1 hk h2 h3 h4
      have := hat β' k' fr' s' a' w' h1 (by unfold hasKey; rw [hk]; rfl) h2 h3 h4
      refine Goes.imp (fun m h => ?_) this
      unfold wpAt at h
      rw [if_pos hk] at h
      exact h
    have hat2 : ∀ β' k' fr' s' a' w', L β' (.at k', fr', s') → hasKey k' c1 = false → hasKey k' c2 = true → FrIs s'.n β' fr' a'.tmps → a'.defers = [] → Out β s w R β' s' w' → Goes P st m c2 Q a' w' k' := by
      intro β' k' fr' s' a' w' h1 hx hk h2 h3 h4
      have := hat β' k' fr' s' a' w' h1 (by unfold hasKey; rw [hx]; exact hk) h2 h3 h4
      refine Goes.imp (fun m h => ?_) this
      unfold wpAt at h
      rw [if_neg (by rw [hx]; simp)] at h
      exact h
    cases st with
    | none =>
      refine ⟨fun _ => ?_, fun k hk => by cases hk⟩
      unfold evS at hl
      rw [Bool.cond_eq_ite] at hl
      split at hl
      · split at hl
        · rename_i c hx
          have ec : a.eval x = .bool c.tv := (opnd_is hf hx rfl).1
          obtain ⟨π', p1, p2⟩ := br_leads hl hw.pi
          have hw' : At β ⟨π', s.H, s.n⟩ w R := ⟨p1, hw.wf, hw.hold⟩
          have o1 := Out.pi hw p1
          cases ht : c.tv with
          | true =>
            rw [ht] at p2 ec
            exact wp_cond_true ec ((ih1 none fr _ L β a w R Q p2 hf hd hw' (fun β' e fr' s' a' w' h1 h2 h3 h4 => hex β' e fr' s' a' w' h1 h2 h3 (o1.trans h4)) (fun β' k' fr' s' a' w' h1 hk h2 h3 h4 => hat1 β' k' fr' s' a' w' h1 hk h2 h3 (o1.trans h4))).1 rfl)
          | false =>
            rw [ht] at p2 ec
            exact wp_cond_false ec ((ih2 none fr _ _ β a w R Q (late_leads p2) hf hd hw' (fun β' e fr' s' a' w' h1 h2 h3 h4 => hex β' e fr' s' a' w' h1.1 h2 h3 (o1.trans h4)) (fun β' k' fr' s' a' w' h1 hk h2 h3 h4 => hat2 β' k' fr' s' a' w' h1.1 (h1.2 k' rfl) hk h2 h3 (o1.trans h4))).1 rfl)
        · exact hl.elim
      · exact leaf _ fr s L β a w R Q hl hf hd hw hex
    | some k =>
      refine ⟨(fun h => by cases h), fun k1 hk1 hkey => ?_⟩
      cases hk1
      unfold evS at hl
      rw [Bool.cond_eq_ite] at hl
      unfold wpAt
      split at hl
      · rename_i hkx
        rw [if_pos hkx]
        exact (ih1 (some k) fr s L β a w R Q hl hf hd hw hex hat1).2 k rfl hkx
      · rename_i hkx
        rw [if_neg hkx]
        have hkx' : hasKey k c1 = false := by simpa using hkx
        exact (ih2 (some k) fr s _ β a w R Q (late_leads hl) hf hd hw (fun β' e fr' s' a' w' h1 h2 h3 h4 => hex β' e fr' s' a' w' h1.1 h2 h3 h4) (fun β' k' fr' s' a' w' h1 hk h2 h3 h4 => hat2 β' k' fr' s' a' w' h1.1 (h1.2 k' rfl) hk h2 h3 h4)).2 k rfl (by unfold hasKey at hkey; rw [hkx'] at hkey; exact hkey)
  | loop c ih =>
    intro st fr s L β a w R Q hl hf hd hw hex hat
    cases st with
    | none =>
      refine ⟨fun _ => ?_, fun k hk => by cases hk⟩
      unfold evS at hl
      split at hl
      · rename_i k hkey
        rw [Bool.cond_eq_ite] at hl
        split at hl
        · obtain ⟨m', h⟩ := (hat β k fr s a w hl (by unfold hasKey isK; rw [hkey]; exact Nat.beq_refl k) hf hd (Out.refl hw)).2 (by simp)
          exact wp_loop_rounds m' h
        · exact leaf _ fr s L β a w R Q hl hf hd hw hex
      · exact leaf _ fr s L β a w R Q hl hf hd hw hex
    | some k =>
      refine ⟨(fun h => by cases h), fun k1 hk1 hkey => ?_⟩
      cases hk1
      unfold evS at hl
      show Code.rounds P c Q (m + 1) a w
      rw [rounds_succ]
      refine evCode_ok hn hm hΓ mf g false c fr s _ β a w R _ (bind_leads hl) hf hd hw fun β' e fr' s' a' w' h1 h2 h3 h4 => ?_
      cases e with
      | normal => exact (hat β' k fr' s' a' w' h1 hkey h2 h3 h4).1 rfl
      | exit id => exact hex β' _ fr' s' a' w' h1 h2 h3 h4
      | goto l => exact hex β' _ fr' s' a' w' h1 h2 h3 h4
      | ret => exact hex β' _ fr' s' a' w' h1 h2 h3 h4
      | panic ch => exact hex β' _ fr' s' a' w' h1 h2 h3 h4
      | outgrown => exact hex β' _ fr' s' a' w' h1 h2 h3 h4
  | skip | label _ | ret | exit _ | goto _ | region _ _ _ | rangeFunc _ _ _ _ _ _ | refuse _ =>
    intro st fr s L β a w R Q hl hf hd hw hex hat
    cases st with
    | none => exact ⟨fun _ => leaf _ fr s L β a w R Q hl hf hd hw hex, fun k hk => by cases hk⟩
    | some k => exact hl.elim
end
/-! ### a pattern at a loop's head -/
structure Cut where
  key : Nat
  fr : List (Nat × SV)
  sz : Nat
  H : SH
  n : Nat
  pi : Pi
  B : Int
  me : Tm
def Fr.tops : Nat → Fr
  | 0 => .e
  | d + 1 => .n .top (Fr.tops d) (Fr.tops d)
theorem Fr.tops_full : ∀ d, (Fr.tops d).Full d
  | 0 => trivial
  | d + 1 => ⟨tops_full d, tops_full d⟩
theorem Fr.tops_get : ∀ (d i : Nat), (Fr.tops d).get i = .un ∨ ((Fr.tops d).get i).isTop = true
  | 0, _ => .inl rfl
  | d + 1, 0 => .inr rfl
  | d + 1, k + 1 => by
    show (bif Nat.beq (k % 2) 0 then (Fr.tops d).get (k / 2) else (Fr.tops d).get (k / 2)) = .un ∨ (bif Nat.beq (k % 2) 0 then (Fr.tops d).get (k / 2) else (Fr.tops d).get (k / 2)).isTop = true
    cases Nat.beq (k % 2) 0 <;> exact tops_get d _
theorem Fr.tops_top : ∀ (d i : Nat), i + 1 < 2 ^ d → ((Fr.tops d).get i).isTop = true
  | 0, _, h => by simp at h
  | d + 1, 0, _ => rfl
  | d + 1, k + 1, h => by
    rw [Nat.pow_succ] at h
    show (bif Nat.beq (k % 2) 0 then (Fr.tops d).get (k / 2) else (Fr.tops d).get (k / 2)).isTop = true
    cases Nat.beq (k % 2) 0 <;> exact tops_top d _ (by omega)
def putAll : Fr → List (Nat × SV) → Fr
  | f, [] => f
  | f, (i, v) :: r => putAll (f.set i v) r
def cutF (c : Cut) : Frm := ⟨c.sz, putAll (Fr.tops (dep c.sz)) c.fr⟩
def cutS (c : Cut) : St := ⟨c.pi, c.H, c.n⟩
def ixB (sz : Nat) : List (Nat × SV) → Bool
  | [] => true
  | (i, _) :: r => bif Nat.blt i sz then ixB sz r else false
def Cut.wfB (c : Cut) : Bool := Nat.blt c.sz 4095 && (ixB c.sz c.fr && (hwfB c.n c.H && vwfB c.n c.fr))
theorem putAll_full {D : Nat} : ∀ (l : List (Nat × SV)) (f : Fr), f.Full D → (putAll f l).Full D
  | [], f, h => h
  | (i, v) :: r, f, h => putAll_full r _ (Fr.set_full _ _ _ _ h)
theorem putAll_get : ∀ (l : List (Nat × SV)) (f : Fr) (D : Nat), f.Full D → (∀ q ∈ l, q.1 + 1 < 2 ^ D) → ∀ i, ((putAll f l).get i = f.get i ∧ ∀ v, (i, v) ∉ l) ∨ (i, (putAll f l).get i) ∈ l
  | [], f, D, h, hl, i => .inl ⟨rfl, fun v hv => by cases hv⟩
  | (j, v) :: r, f, D, h, hl, i => by
    rcases putAll_get r (f.set j v) D (Fr.set_full _ _ _ _ h) (fun q hq => hl q (List.mem_cons_of_mem _ hq)) i with ⟨h1, h2⟩ | h1
    · by_cases e : i = j
      · subst e
        right
        show (i, (putAll (f.set i v) r).get i) ∈ _
        rw [h1, Fr.get_set_eq D _ _ _ h (hl _ (List.mem_cons_self ..))]
        exact List.mem_cons_self ..
      · left
        refine ⟨?_, fun u hu => ?_⟩
        · show (putAll (f.set j v) r).get i = _
          rw [h1, Fr.get_set_ne _ _ _ _ e]
        · rcases List.mem_cons.1 hu with hu | hu
          · cases hu; exact e rfl
          · exact h2 u hu
    · exact .inr (List.mem_cons_of_mem _ h1)
theorem ixB_ok {sz : Nat} : ∀ {l : List (Nat × SV)}, ixB sz l = true → ∀ q ∈ l, q.1 < sz
  | [], _, q, hq => by cases hq
  | (i, v) :: r, h, q, hq => by
    unfold ixB at h
    rw [Bool.cond_eq_ite] at h
    split at h
    · rename_i hi
      rcases List.mem_cons.1 hq with rfl | hq
      · exact Nat.le_of_ble_eq_true hi
      · exact ixB_ok h q hq
    · cases h
def allGe (base : Nat) : List (Nat × Tm) → Bool
  | [] => true
  | (i, _) :: r => bif Nat.blt i base then false else allGe base r
theorem allGe_ok {base : Nat} : ∀ {l : List (Nat × Tm)}, allGe base l = true → ∀ i, i < base → lkT l i = none
  | [], _, _, _ => rfl
  | (j, t) :: r, h, i, hi => by
    unfold allGe at h
    rw [Bool.cond_eq_ite] at h
    split at h
    · cases h
    · rename_i hj
      unfold lkT
      have hne : Nat.beq j i = false := by
        cases hh : Nat.beq j i with
        | false => rfl
        | true =>
          have := Nat.eq_of_beq_eq_true hh
          exfalso; apply hj
          exact Nat.ble_eq_true_of_le (show j + 1 ≤ base by omega)
      rw [hne]
      exact allGe_ok h i hi
section
variable [Interp] [Rules] [Wk]
/-- What a state binds of a pattern. -/
def cutM (base : Nat) (c : Cut) (fr : Frm) (s : St) : Mt := mtH base c.H s.H (mtVs base c.fr fr ⟨[], [], []⟩)
def frcMt {R : Type} (m : Mt) (k : Mt → R) : R := match m with | ⟨σ, τ, ν⟩ => k ⟨σ, τ, ν⟩
theorem frcMt_eq {R : Type} (m : Mt) (k : Mt → R) : frcMt m k = k m := rfl
def fits (base : Nat) (c : Cut) (fr : Frm) (s : St) (p : Mt → Bool) : Bool :=
  bif Nat.beq fr.sz c.sz then frcMt (cutM base c fr s) fun m =>
    bif allGe base m.σ then
    bif chVs s.pi m c.fr fr then
    match chH s.pi m c.H s.H with
    | some _ => bif chPi s.pi m c.pi then p m else false
    | none => false
    else false else false else false
variable [V : Vars]
theorem chVs_ok {π : Pi} (hπ : facts π) {m : Mt} {β : Bl} {fr : Frm} : ∀ {l : List (Nat × SV)}, chVs π m l fr = true → ∀ q ∈ l, (fr.get q.1).den β = @SV.den _ (subV m.σ m.τ β) (subN m.ν β) q.2 ∧ (fr.get q.1).isTop = false
  | [], _, q, hq => by cases hq
  | (i, v) :: r, h, q, hq => by
    unfold chVs at h
    rw [Bool.cond_eq_ite] at h
    split at h
    · rename_i hv
      rcases List.mem_cons.1 hq with rfl | hq
      · exact chW_ok hπ hv β
      · exact chVs_ok hπ h q hq
    · cases h
theorem fits_ok {base : Nat} {c : Cut} {fr : Frm} {s : St} {p : Mt → Bool} (h : fits base c fr s p = true) (hc : c.wfB = true) {β : Bl} {a : Act} {w : World} {R : HProp} (hf : FrIs s.n β fr a.tmps) (hw : At β s w R) :
    ∃ m : Mt, p m = true ∧ (∀ i, i < base → (subV m.σ m.τ β).ρ i = V.ρ i) ∧ @FrIs _ (subV m.σ m.τ β) c.n (subN m.ν β) (cutF c) a.tmps ∧ @At _ (subV m.σ m.τ β) (subN m.ν β) (cutS c) w R := by
  unfold fits at h
  rw [Bool.cond_eq_ite] at h
  split at h
  · rename_i hsz
    have hsz := Nat.eq_of_beq_eq_true hsz
    rw [frcMt_eq] at h
    generalize cutM base c fr s = m at h
    rw [Bool.cond_eq_ite] at h
    split at h
    · rename_i hge
      rw [Bool.cond_eq_ite] at h
      split at h
      · rename_i hvs
        split at h
        · rename_i rest hH
          rw [Bool.cond_eq_ite] at h
          split at h
          · rename_i hpi
            unfold Cut.wfB at hc
            rw [Bool.and_eq_true, Bool.and_eq_true, Bool.and_eq_true] at hc
            obtain ⟨c1, c2, c3, c4⟩ := hc
            have c1 : c.sz < 4095 := Nat.le_of_ble_eq_true c1
            have hlt := dep_ok c1
            have hix := ixB_ok c2
            have hvw := vwfB_ok c4
            have hg := putAll_get c.fr (Fr.tops (dep c.sz)) (dep c.sz) (Fr.tops_full _) (fun q hq => by have := hix q hq; omega)
            refine ⟨m, h, fun i hi => ?_, @FrIs.mk _ (subV m.σ m.τ β) c.n (subN m.ν β) (cutF c) a.tmps ?_ ⟨dep c.sz, putAll_full _ _ (Fr.tops_full _), hlt⟩ (fun i hi => ?_) (fun i => ?_) (fun i hi ht => ?_), @At.mk _ (subV m.σ m.τ β) (subN m.ν β) (cutS c) w R (chPi_ok hw.pi β hpi) (hwfB_ok c3) ?_⟩
            · show (match lkT m.σ i with | some t => t.den | none => Vars.ρ i) = _
              rw [allGe_ok hge i hi]
            · exact hf.size.trans hsz
            · rcases hg i with ⟨h1, _⟩ | h1
              · show (putAll (Fr.tops (dep c.sz)) c.fr).get i = .un ∨ ((putAll (Fr.tops (dep c.sz)) c.fr).get i).isTop = true
                rw [h1]
                exact Fr.tops_get _ _
              · have := hix _ h1
                have hi' : c.sz ≤ i := hi
                exact absurd this (by simp only; omega)
            · rcases hg i with ⟨h1, _⟩ | h1
              · show ((putAll _ _).get i).wf _
                rw [h1]
                rcases Fr.tops_get (dep c.sz) i with e | e
                · rw [e]; exact un_wf _
                · cases hx : (Fr.tops (dep c.sz)).get i <;> rw [hx] at e <;> first | trivial | cases e
              · exact (hvw _ h1).1
            · have hi' : i < c.sz := hi
              rcases hg i with ⟨h1, _⟩ | h1
              · exfalso
                have e : ((putAll (Fr.tops (dep c.sz)) c.fr).get i).isTop = false := ht
                rw [h1, Fr.tops_top _ _ (by omega)] at e
                cases e
              · obtain ⟨e1, e2⟩ := chVs_ok hw.pi (β := β) hvs _ h1
                show a.tmps[i]? = some (@SV.den _ (subV m.σ m.τ β) (subN m.ν β) ((putAll (Fr.tops (dep c.sz)) c.fr).get i))
                rw [← e1]
                exact hf.val i (by rw [hsz]; exact hi') e2
            · have h1 := chH_ok hw.pi (R := R) hH hw.hold
              have h2 : Holds w (hden β rest * (@hden _ (subV m.σ m.τ β) (subN m.ν β) c.H * R)) := h1.cast (by ac_rfl)
              exact h2.drop
          · cases h
        · cases h
      · cases h
    · cases h
  · cases h
end
/-! ### the whole -/
def posOf : List Nat → Nat → Nat
  | [], _ => 0
  | j :: r, i => bif Nat.beq j i then 0 else posOf r i + 1
section
variable [Interp] [Rules] [Wk]
def anyB {α : Type} (p : α → Bool) : List α → Bool
  | [] => false
  | x :: r => bif p x then true else anyB p r
theorem anyB_ok {α : Type} {p : α → Bool} : ∀ {l : List α}, anyB p l = true → ∃ x ∈ l, p x = true
  | [], h => by cases h
  | x :: r, h => by
    unfold anyB at h
    rw [Bool.cond_eq_ite] at h
    split at h
    · rename_i hx; exact ⟨x, List.mem_cons_self .., hx⟩
    · obtain ⟨y, hy, h2⟩ := anyB_ok h; exact ⟨y, List.mem_cons_of_mem _ hy, h2⟩
/-- A way comes to one of the patterns; to the loop that it comes from at less. -/
def okOne (ks : List Nat) (base : Nat) (from_ : Option Cut) (k : Nat) (fr : Frm) (s : St) (c : Cut) : Bool :=
  bif Nat.beq c.key k then fits base c fr s fun m =>
    match from_ with
    | none => true
    | some c0 => bif Nat.beq c0.key k then intBeq c0.B c.B && (pv s.pi true (mkLt c0.me (c.me.sub m.σ)) && pv s.pi true (mkLt c0.me (.lit c0.B))) else Nat.blt (posOf ks c0.key) (posOf ks k) else false
def okAt (ks : List Nat) (base : Nat) (Θ : List Cut) (from_ : Option Cut) (k : Nat) (fr : Frm) (s : St) : Bool :=
  anyB (okOne ks base from_ k fr s) Θ
/-- Where ways part before patterns are held against: at a loop's head, whether a slot is less than a number. -/
abbrev Spl := List (Nat × Nat × Int)
def Spl.find : Spl → Nat → Option (Nat × Int)
  | [], _ => none
  | (k, x) :: r, i => bif Nat.beq k i then some x else Spl.find r i
def okA (sp : Spl) (ks : List Nat) (base : Nat) (Θ : List Cut) (from_ : Option Cut) (k : Nat) (fr : Frm) (s : St) : Bool :=
  match sp.find k with
  | none => okAt ks base Θ from_ k fr s
  | some (i, b) =>
    match fr.get i with
    | .a (.one (.int _ t)) =>
      match dec s.pi (mkLt t (.lit b)) with
      | some _ => okAt ks base Θ from_ k fr s
      | none => bif okAt ks base Θ from_ k fr ⟨(mkLt t (.lit b), true) :: s.pi, s.H, s.n⟩ then okAt ks base Θ from_ k fr ⟨(mkLt t (.lit b), false) :: s.pi, s.H, s.n⟩ else false
    | _ => false
def okL (sp : Spl) (ks : List Nat) (base : Nat) (Θ : List Cut) (fin : Exit → Frm → St → Bool) (from_ : Option Cut) (q : Ls) : Bool :=
  match q with
  | (.at k, fr, s) => okA sp ks base Θ from_ k fr s
  | (.ex e, fr, s) => fin e fr s
def chkCut (P : Program) [Fast P] [Ab P] (Γ : Ctr) (mf : Nat → Bool) (g : Nat) (sp : Spl) (ks : List Nat) (base : Nat) (Θ : List Cut) (fin : Exit → Frm → St → Bool) (body : Code) (c : Cut) : Bool :=
  c.wfB && (hasKey c.key body && (evS P Γ mf g ks body (some c.key) (cutF c) (cutS c)).allB (okL sp ks base Θ fin (some c)))
/-! ### the same, where it is told which pattern each way comes to -/
def nthC : List Cut → Nat → Option Cut
  | [], _ => none
  | c :: r, i => match i with
    | 0 => some c
    | j + 1 => nthC r j
def okAtH (ks : List Nat) (base : Nat) (Θ : List Cut) (from_ : Option Cut) (k : Nat) (fr : Frm) (s : St) (h : List Nat) : Option (List Nat) :=
  match h with
  | [] => none
  | i :: r =>
    match nthC Θ i with
    | some c => bif okOne ks base from_ k fr s c then some r else none
    | none => none
def okAH (sp : Spl) (ks : List Nat) (base : Nat) (Θ : List Cut) (from_ : Option Cut) (k : Nat) (fr : Frm) (s : St) (h : List Nat) : Option (List Nat) :=
  match sp.find k with
  | none => okAtH ks base Θ from_ k fr s h
  | some (i, b) =>
    match fr.get i with
    | .a (.one (.int _ t)) =>
      match dec s.pi (mkLt t (.lit b)) with
      | some _ => okAtH ks base Θ from_ k fr s h
      | none => match okAtH ks base Θ from_ k fr ⟨(mkLt t (.lit b), true) :: s.pi, s.H, s.n⟩ h with
        | some h => okAtH ks base Θ from_ k fr ⟨(mkLt t (.lit b), false) :: s.pi, s.H, s.n⟩ h
        | none => none
    | _ => none
def okLH (sp : Spl) (ks : List Nat) (base : Nat) (Θ : List Cut) (fin : Exit → Frm → St → Bool) (from_ : Option Cut) (q : Ls) (h : List Nat) : Option (List Nat) :=
  match q with
  | (.at k, fr, s) => okAH sp ks base Θ from_ k fr s h
  | (.ex e, fr, s) => bif fin e fr s then some h else none
def allH {α : Type} (p : α → List Nat → Option (List Nat)) : Tree α → List Nat → Option (List Nat)
  | .done x, h => p x h
  | .ite _ a b, h => match allH p a h with
    | some h => allH p b h
    | none => none
  | .new _ t, h => allH p t h
  | .both a b, h => match allH p a h with
    | some h => allH p b h
    | none => none
  | .fail _, _ => none
theorem allH_ok {α : Type} {p : α → List Nat → Option (List Nat)} {q : α → Bool} (hq : ∀ x h h', p x h = some h' → q x = true) : ∀ {t : Tree α} {h h' : List Nat}, allH p t h = some h' → t.allB q = true
  | .done x, h, h', e => hq x h h' e
  | .ite c a b, h, h', e => by
    unfold allH at e
    split at e
    · rename_i h1 e1
      show (bif a.allB q then b.allB q else false) = true
      rw [allH_ok hq e1, allH_ok hq e]; rfl
    · cases e
  | .new n t, h, h', e => allH_ok (t := t) hq e
  | .both a b, h, h', e => by
    unfold allH at e
    split at e
    · rename_i h1 e1
      show (bif a.allB q then b.allB q else false) = true
      rw [allH_ok hq e1, allH_ok hq e]; rfl
    · cases e
  | .fail _, _, _, e => by cases e
theorem nthC_mem : ∀ {l : List Cut} {i : Nat} {c : Cut}, nthC l i = some c → c ∈ l
  | [], i, c, h => by cases h
  | d :: r, i, c, h => by
    unfold nthC at h
    split at h
    · cases h; exact List.mem_cons_self ..
    · exact List.mem_cons_of_mem _ (nthC_mem h)
theorem anyB_mem {α : Type} {p : α → Bool} : ∀ {l : List α} {x : α}, x ∈ l → p x = true → anyB p l = true
  | [], x, h, _ => by cases h
  | y :: r, x, h, hp => by
    unfold anyB
    rw [Bool.cond_eq_ite]
    split
    · rfl
    · rename_i hn
      rcases List.mem_cons.1 h with rfl | h
      · exact absurd hp hn
      · exact anyB_mem h hp
theorem okAtH_ok {ks : List Nat} {base : Nat} {Θ : List Cut} {from_ : Option Cut} {k : Nat} {fr : Frm} {s : St} {h h' : List Nat} (e : okAtH ks base Θ from_ k fr s h = some h') : okAt ks base Θ from_ k fr s = true := by
  unfold okAtH at e
  split at e
  · cases e
  · split at e
    · rename_i c hc
      rw [Bool.cond_eq_ite] at e
      split at e
      · rename_i ho; exact anyB_mem (nthC_mem hc) ho
      · cases e
    · cases e
theorem okAH_ok {sp : Spl} {ks : List Nat} {base : Nat} {Θ : List Cut} {from_ : Option Cut} {k : Nat} {fr : Frm} {s : St} {h h' : List Nat} (e : okAH sp ks base Θ from_ k fr s h = some h') : okA sp ks base Θ from_ k fr s = true := by
  unfold okAH at e
  unfold okA
  cases hf : sp.find k with
  | none =>
    rw [hf] at e
    exact okAtH_ok e
  | some ib =>
    obtain ⟨i, b⟩ := ib
    rw [hf] at e
    dsimp only at e ⊢
    generalize fr.get i = g at e ⊢
    split at e
    · rename_i t
      cases hd : dec s.pi (mkLt t (.lit b)) with
      | some c =>
        rw [hd] at e
        exact okAtH_ok e
      | none =>
        rw [hd] at e
        dsimp only at e ⊢
        split at e
        · rename_i h1 e1
          rw [okAtH_ok e1, okAtH_ok e]; rfl
        · cases e
    · cases e
theorem okLH_ok {sp : Spl} {ks : List Nat} {base : Nat} {Θ : List Cut} {fin : Exit → Frm → St → Bool} {from_ : Option Cut} (q : Ls) (h h' : List Nat) (e : okLH sp ks base Θ fin from_ q h = some h') : okL sp ks base Θ fin from_ q = true := by
  obtain ⟨l, fr, s⟩ := q
  cases l with
  | «at» k => exact okAH_ok (show okAH sp ks base Θ from_ k fr s h = some h' from e)
  | ex x =>
    have e : (bif fin x fr s then some h else none) = some h' := e
    rw [Bool.cond_eq_ite] at e
    split at e
    · rename_i hf; exact hf
    · cases e
def chkCutH (P : Program) [Fast P] [Ab P] (Γ : Ctr) (mf : Nat → Bool) (g : Nat) (sp : Spl) (ks : List Nat) (base : Nat) (Θ : List Cut) (fin : Exit → Frm → St → Bool) (body : Code) (c : Cut) (h : List Nat) : Bool :=
  c.wfB && (hasKey c.key body && (match allH (okLH sp ks base Θ fin (some c)) (evS P Γ mf g ks body (some c.key) (cutF c) (cutS c)) h with
    | some _ => true
    | none => false))
theorem chkCutH_ok {P : Program} [Fast P] [Ab P] {Γ : Ctr} {mf : Nat → Bool} {g : Nat} {sp : Spl} {ks : List Nat} {base : Nat} {Θ : List Cut} {fin : Exit → Frm → St → Bool} {body : Code} {c : Cut} (h : List Nat)
    (e : chkCutH P Γ mf g sp ks base Θ fin body c h = true) : chkCut P Γ mf g sp ks base Θ fin body c = true := by
  unfold chkCutH at e
  unfold chkCut
  rw [Bool.and_eq_true, Bool.and_eq_true] at e
  obtain ⟨e1, e2, e3⟩ := e
  rw [e1, e2, Bool.true_and, Bool.true_and]
  split at e3
  · rename_i h' hh
    exact allH_ok okLH_ok hh
  · cases e3
def meas [Vars] (c : Cut) : Nat := (c.B - c.me.v).toNat
/-- What holds at a loop's head. -/
def Inv [V0 : Vars] (base : Nat) (Θ : List Cut) (w0 : World) (R : HProp) (k m : Nat) (a : Act) (w : World) : Prop :=
  ∃ c ∈ Θ, c.key = k ∧ ∃ (V : Vars) (β : Bl), (∀ i, i < base → V.ρ i = V0.ρ i) ∧ @FrIs _ V c.n β (cutF c) a.tmps ∧ a.defers = [] ∧ @At _ V β (cutS c) w R ∧ Strm w0 w ∧ @meas _ V c < m
/-- What holds at the end. -/
def Fin [V0 : Vars] (base : Nat) (fin : Exit → Frm → St → Bool) (w0 : World) (R : HProp) (e : Exit) (a : Act) (w : World) : Prop :=
  ∃ (V : Vars) (β : Bl) (fr : Frm) (s : St), (∀ i, i < base → V.ρ i = V0.ρ i) ∧ fin e fr s = true ∧ @FrIs _ V s.n β fr a.tmps ∧ a.defers = [] ∧ @At _ V β s w R ∧ Strm w0 w
variable {P : Program} [Fast P] [Ab P] [okP : ∀ [Vars], AbOk P]
theorem okAt_inv [V0 : Vars] {ks : List Nat} {base : Nat} {Θ : List Cut} (hwf : ∀ c ∈ Θ, c.wfB = true) {from_ : Option Cut} {k : Nat} {fr : Frm} {s : St} {V : Vars} {β : Bl} {a : Act} {w w0 : World} {R : HProp}
    (h : okAt ks base Θ from_ k fr s = true) (hV : ∀ i, i < base → V.ρ i = V0.ρ i) (hf : @FrIs _ V s.n β fr a.tmps) (hd : a.defers = []) (hw : @At _ V β s w R) (hs : Strm w0 w) :
    ∃ m, Inv (V0 := V0) base Θ w0 R k (m + 1) a w ∧ ∀ c0, from_ = some c0 → (c0.key = k → m < @meas _ V c0) ∧ (c0.key ≠ k → posOf ks c0.key < posOf ks k) := by
  obtain ⟨c, hc, h1⟩ := anyB_ok h
  unfold okOne at h1
  rw [Bool.cond_eq_ite] at h1
  split at h1
  · rename_i hk
    have hk := Nat.eq_of_beq_eq_true hk
    obtain ⟨m, hp, g1, g2, g3⟩ := @fits_ok _ _ _ V base c fr s _ h1 (hwf c hc) β a w R hf hw
    refine ⟨@meas _ (@subV _ V m.σ m.τ β) c, ⟨c, hc, hk, @subV _ V m.σ m.τ β, _, fun i hi => (g1 i hi).trans (hV i hi), g2, hd, g3, hs, Nat.lt_succ_self _⟩, fun c0 e => ?_⟩
    subst e
    simp only at hp
    rw [Bool.cond_eq_ite] at hp
    split at hp
    · rename_i hk0
      have hk0 := Nat.eq_of_beq_eq_true hk0
      refine ⟨fun _ => ?_, fun h => absurd hk0 h⟩
      rw [Bool.and_eq_true, Bool.and_eq_true] at hp
      obtain ⟨b1, b2, b3⟩ := hp
      have b1 := intBeq_eq b1
      have b2 := @pv_ok _ _ V s.pi hw.pi _ _ b2
      have b3 := @pv_ok _ _ V s.pi hw.pi _ _ b3
      rw [@mkLt_tv _ V] at b2 b3
      rw [@lit_v _ V] at b3
      have b2 := of_decide_eq_true b2
      have b3 := of_decide_eq_true b3
      rw [@sub_v _ _ V m.σ m.τ β] at b2
      unfold meas
      omega
    · rename_i hk0
      exact ⟨fun h => absurd (by rw [h]; exact Nat.beq_refl k) hk0, fun _ => Nat.le_of_ble_eq_true hp⟩
  · cases h1
theorem okA_inv [V0 : Vars] {sp : Spl} {ks : List Nat} {base : Nat} {Θ : List Cut} (hwf : ∀ c ∈ Θ, c.wfB = true) {from_ : Option Cut} {k : Nat} {fr : Frm} {s : St} {V : Vars} {β : Bl} {a : Act} {w w0 : World} {R : HProp}
    (h : okA sp ks base Θ from_ k fr s = true) (hV : ∀ i, i < base → V.ρ i = V0.ρ i) (hf : @FrIs _ V s.n β fr a.tmps) (hd : a.defers = []) (hw : @At _ V β s w R) (hs : Strm w0 w) :
    ∃ m, Inv (V0 := V0) base Θ w0 R k (m + 1) a w ∧ ∀ c0, from_ = some c0 → (c0.key = k → m < @meas _ V c0) ∧ (c0.key ≠ k → posOf ks c0.key < posOf ks k) := by
  unfold okA at h
  split at h
  · exact okAt_inv (V0 := V0) hwf h hV hf hd hw hs
  · rename_i i b _
    split at h
    · rename_i t _
      split at h
      · exact okAt_inv (V0 := V0) hwf h hV hf hd hw hs
      · rw [Bool.cond_eq_ite] at h
        split at h
        · rename_i h1
          cases hb : @Tm.tv _ V (mkLt t (.lit b)) with
          | true => exact okAt_inv (V0 := V0) hwf h1 hV hf hd ⟨facts_cons hw.pi hb, hw.wf, hw.hold⟩ hs
          | false => exact okAt_inv (V0 := V0) hwf h hV hf hd ⟨facts_cons hw.pi hb, hw.wf, hw.hold⟩ hs
        · cases h
    · cases h
/-- **From each pattern on, the rest comes to an end that is asked for.** -/
theorem cuts_ok [V0 : Vars] (hn : NoGos P) (hm : P.follows .mixedOrders = true) {Γ : Ctr} (hΓ : ∀ V : Vars, @CtrOk _ V P Γ) {mf : Nat → Bool} {g : Nat} {sp : Spl} {ks : List Nat} {base : Nat} {Θ : List Cut} {fin : Exit → Frm → St → Bool} {body : Code}
    (chk : ∀ c ∈ Θ, chkCut P Γ mf g sp ks base Θ fin body c = true) (w0 : World) (R : HProp) :
    ∀ (N : Nat) (k m : Nat) (a : Act) (w : World), ks.length - posOf ks k < N → Inv (V0 := V0) base Θ w0 R k m a w → wpAt P m k body (Fin (V0 := V0) base fin w0 R) a w := by
  have hwf : ∀ c ∈ Θ, c.wfB = true := fun c hc => by
    have := chk c hc
    unfold chkCut at this
    rw [Bool.and_eq_true] at this
    exact this.1
  have posle : ∀ (l : List Nat) (k : Nat), posOf l k ≤ l.length := by
    intro l k
    induction l with
    | nil => exact Nat.le_refl _
    | cons j r ih => unfold posOf; cases Nat.beq j k <;> simp <;> omega
  intro N
  induction N with
  | zero => intro k m a w h; exact absurd h (Nat.not_lt_zero _)
  | succ N ihN =>
    intro k m
    induction m with
    | zero => intro a w _ hi; obtain ⟨c, hc, _, V, β, _, _, _, _, _, h⟩ := hi; exact absurd h (Nat.not_lt_zero _)
    | succ m ihm =>
      intro a w hN hi
      obtain ⟨c, hc, hk, V, β, hV, hf, hd, hw, hs, hlt⟩ := hi
      have hck := chk c hc
      unfold chkCut at hck
      rw [Bool.and_eq_true, Bool.and_eq_true] at hck
      obtain ⟨c1, c2, c3⟩ := hck
      subst hk
      refine (@evS_ok _ _ V P _ _ (@okP V) hn hm Γ (hΓ V) mf g ks m body (some c.key) (cutF c) (cutS c) _ β a w R _ (@allB_leads _ V _ _ _ β c3) hf hd hw ?_ ?_).2 c.key rfl c2
      · intro β' e fr' s' a' w' h1 h2 h3 h4
        exact ⟨V, β', fr', s', hV, h1, h2, h3, h4.at_, hs.trans h4.st⟩
      · intro β' k' fr' s' a' w' h1 hkk h2 h3 h4
        have h1' : okA sp ks base Θ (some c) k' fr' s' = true := h1
        obtain ⟨m', i1, i2⟩ := okA_inv (V0 := V0) hwf h1' hV h2 h3 h4.at_ (hs.trans h4.st)
        obtain ⟨i3, i4⟩ := i2 c rfl
        refine ⟨fun e => ?_, fun e => ?_⟩
        · cases e
          refine ihm a' w' hN ?_
          obtain ⟨c', hc', x1, x2, x3, x4, x5, x6, x7, x8, x9⟩ := i1
          have := i3 rfl
          exact ⟨c', hc', x1, x2, x3, x4, x5, x6, x7, x8, by omega⟩
        · have hne : c.key ≠ k' := fun h => e (by rw [h])
          have := i4 hne
          have := posle ks k'
          exact ⟨m' + 1, ihN k' (m' + 1) a' w' (by omega) i1⟩
/-- **A function with loops, by patterns.** -/
theorem calls_of_cuts [V0 : Vars] (hn : NoGos P) (hm : P.follows .mixedOrders = true) {Γ : Ctr} (hΓ : ∀ V : Vars, @CtrOk _ V P Γ) {mf : Nat → Bool} {g : Nat} {sp : Spl} {ks : List Nat} {base : Nat} {Θ : List Cut} {f : Nat} {fn : Func} {body : Code} {okV : SV → St → Bool}
    (hfn : Fast.func P f = some fn) (hb : fn.body = some body) {args : List SV} {s : St}
    (hsz : Nat.blt (args.length + (fn.ntmps - args.length)) 4095 = true)
    (chk0 : (evS P Γ mf g ks body none (Frm.start fn.ntmps args) s).allB (okL sp ks base Θ (fun e fr s => (ends P fn (e, fr, s)).allB fun q => okV q.1 q.2) none) = true)
    (chk : ∀ c ∈ Θ, chkCut P Γ mf g sp ks base Θ (fun e fr s => (ends P fn (e, fr, s)).allB fun q => okV q.1 q.2) body c = true)
    {β : Bl} {w : World} {R : HProp} (hwf : ∀ x ∈ args, x.wf s.n) (htop : ∀ x ∈ args, x.isTop = false) (hw : At β s w R) :
    Calls P f (args.map (SV.den β)).toArray w fun e w' => ∃ (V : Vars) (β' : Bl) (v : SV) (s' : St), (∀ i, i < base → V.ρ i = V0.ρ i) ∧ okV v s' = true ∧ e = .returned (@SV.den _ V β' v) ∧ @At _ V β' s' w' R ∧ Strm w w' := by
  have hwf' : ∀ c ∈ Θ, c.wfB = true := fun c hc => by
    have := chk c hc
    unfold chkCut at this
    rw [Bool.and_eq_true] at this
    exact this.1
  refine calls_of_wp (Fast.func_ok hfn) hb ?_
  have hst := start_is (n := s.n) (β := β) (k := fn.ntmps) (args := args) (Nat.le_of_ble_eq_true hsz) hwf htop
  have key : ∀ {e : Exit} {a' : Act} {w' : World}, Fin (V0 := V0) base (fun e fr s => (ends P fn (e, fr, s)).allB fun q => okV q.1 q.2) w R e a' w' → bodyPost P fn (fun e w' => ∃ (V : Vars) (β' : Bl) (v : SV) (s' : St), (∀ i, i < base → V.ρ i = V0.ρ i) ∧ okV v s' = true ∧ e = .returned (@SV.den _ V β' v) ∧ @At _ V β' s' w' R ∧ Strm w w') e a' w' := by
    rintro e a' w' ⟨V, β', fr, s', hV, hfin, hf, hd, hw', hs⟩
    have hl := @allB_leads _ V _ _ _ β' hfin
    unfold ends at hl
    have core : ∀ {ps l v}, resV P s'.pi fr s'.H fn.results.toList = some (ps, l) → resOf l = some v → @Tree.Leads _ V _ (fun _ q => okV q.1 q.2 = true) (needs s'.pi ps (frcV v fun v => Tree.done (v, s'))) β' → ∃ v, (results fn a'.tmps).run P w' = .ok v w' ∧ ∃ (V : Vars) (β' : Bl) (u : SV) (s' : St), (∀ i, i < base → V.ρ i = V0.ρ i) ∧ okV u s' = true ∧ Ending.returned v = .returned (@SV.den _ V β' u) ∧ @At _ V β' s' w' R ∧ Strm w w' := by
      intro ps l v hr hv hn'
      obtain ⟨g1, g2⟩ := @needs_leads _ _ V _ _ hw'.pi _ _ β' _ hn'
      rw [frcV_eq] at g2
      obtain ⟨r1, r2, r3⟩ := @results_ok _ _ V P _ _ (@okP V) s'.pi hw'.pi fn s'.n β' fr a'.tmps hf s'.H hw'.wf w' R hw'.hold ps l v hr g1 hv
      exact ⟨_, r1, V, β', v, s', hV, g2, rfl, hw', hs⟩
    cases e with
    | normal =>
      simp only at hl
      split at hl
      · rename_i ps l hr
        split at hl
        · rename_i v hv
          obtain ⟨v, k1, k2⟩ := core hr hv hl
          exact ⟨hd, v, k1, k2⟩
        · exact hl.elim
      · exact hl.elim
    | ret =>
      simp only at hl
      split at hl
      · rename_i ps l hr
        split at hl
        · rename_i v hv
          obtain ⟨v, k1, k2⟩ := core hr hv hl
          exact ⟨hd, v, k1, k2⟩
        · exact hl.elim
      · exact hl.elim
    | exit id => exact hl.elim
    | goto l => exact hl.elim
    | panic ch => exact hl.elim
    | outgrown => exact hl.elim
  refine Code.wp_mono (fun e a w h => key h) ?_
  refine (evS_ok hn hm (hΓ V0) 0 body none (Frm.start fn.ntmps args) s _ β ⟨(args.map (SV.den β)).toArray ++ Array.replicate (fn.ntmps - (args.map (SV.den β)).toArray.size) undef, []⟩ w R _ (allB_leads chk0) hst rfl hw ?_ ?_).1 rfl
  · intro β' e fr' s' a' w' h1 h2 h3 h4
    exact ⟨V0, β', fr', s', fun _ _ => rfl, h1, h2, h3, h4.at_, h4.st⟩
  · intro β' k' fr' s' a' w' h1 hkk h2 h3 h4
    have h1' : okA sp ks base Θ none k' fr' s' = true := h1
    obtain ⟨m', i1, _⟩ := okA_inv (V0 := V0) (V := V0) hwf' h1' (fun _ _ => rfl) h2 h3 h4.at_ h4.st
    exact ⟨(fun e => by cases e), fun _ => ⟨m' + 1, cuts_ok (V0 := V0) (okP := @okP) hn hm hΓ chk w R (ks.length + 1) k' (m' + 1) a' w' (by omega) i1⟩⟩
end
end Go.Proofs.Ytmmpnjcmaodkcaa.Ef
/- What is proved: what can be read of a memory and of rows of arguments in the second evaluator; a new memory; one count of accesses below another. Conditions: stated with each lemma. -/
namespace Go.Proofs.Ytmmpnjcmaodkcaa.Ef
open Go Go.RowKit Go.Proofs.Ytmmpnjcmaodkcaa.Sep Go.Proofs.Ytmmpnjcmaodkcaa.Num Go.Proofs.Ytmmpnjcmaodkcaa.Mem
open Go.Proofs.Ytmmpnjcmaodkcaa.Ev (Fast topAt topVer topNext topNext_rng tyAgg tySize)
set_option maxRecDepth 100000
set_option linter.unusedVariables false
set_option linter.unusedSimpArgs false
set_option linter.unusedSectionVars false
def lenT (M : Tm) : Tm :=
  match mlen M with
  | some m => bif intLe 0 m then .lit m else i1 14 M
  | none => i1 14 M
def trV (M : Tm) : Tm :=
  match trT M with
  | some n => .lit n
  | none => i1 15 M
def is12 (k : Nat) : Bool := Nat.beq k 1 || Nat.beq k 2
def offT : Off → List Tm × Tm
  | .at o => ([], .lit o)
  | .el b t st o => ([mkNot (mkLt b (.lit 0)), mkNot (mkLt t (.lit 0))], mkAdd b (mkAdd (mkMul t (.lit st)) (.lit o)))
def rowAt : Tm → List Nat → Nat → Option Tm
  | _, [], _ => none
  | x, b :: r, nm => bif Nat.beq b nm then some (mkFst x) else rowAt (mkSnd x) r nm
section
variable [Ext] [Exp]
def rdRow (R t : Tm) (st o : Nat) : SC := .int .i64 (i2 30 R (mkAdd (mkMul t (.lit st)) (.lit o)))
def rdRows (R t : Tm) (st : Nat) : Nat → Nat → List SC
  | 0, _ => []
  | n + 1, o => rdRow R t st o :: rdRows R t st n (o + 1)
def mLoad (P : Program) [Fast P] (t : TypeId) (k : Nat) (x : Tm) (ns : List Nat) (off : Off) : Option (List Tm × SV) :=
  match off, tyAgg P t with
  | .at 0, some false => match ns with
    | [m] => bif is12 k then some ([], .c (.slice m 0 (lenT (mkFst x)) (lenT (mkFst x)))) else none
    | _ => none
  | .at 1, some false => bif is12 k then some ([], .c (.int .i64 (i1 16 (mkFst x)))) else none
  | .at 2, some false => bif is12 k then some ([], .c (.int .i64 (trV (mkFst x)))) else none
  | _, _ => none
def mOpens (P : Program) [Fast P] (t : TypeId) (k : Nat) (x : Tm) (off : Off) (n : Nat) : Option (SV × List Nat) :=
  match off, tyAgg P t with
  | .at 0, some false => bif is12 k then some (.c (.slice n 0 (lenT (mkFst x)) (lenT (mkFst x))), [n]) else none
  | _, _ => none
def mInner (P : Program) [Fast P] (π : Pi) (t : TypeId) (k : Nat) (x : Tm) (ns : List Nat) (nm : Nat) (off : Off) : Option (List Tm × SV) :=
  bif is12 k then
    match ns, tyAgg P t with
    | [m], some false =>
      match offT off with
      | (ps, a) => some (mkNot (mkLt a (.lit 0)) :: mkLt a (lenT (mkFst x)) :: ps, .c (.int .u64 (mkLoad π a (mkFst x))))
    | _, _ => none
  else bif Nat.beq k 9 then
    match off, rowAt (mkSnd x) ns nm with
    | .el b t1 st o, some rec =>
      bif Tm.beq b (mkFst (mkSnd rec)) && Tm.beq (.lit st) (mkSnd (mkSnd (mkSnd rec))) then
        match tyAgg P t, tySize P t with
        | some false, _ => bif Nat.blt o st then some ([mkNot (mkLt t1 (.lit 0)), mkLt t1 (mkFst (mkSnd (mkSnd rec)))], .c (rdRow (mkFst rec) t1 st o)) else none
        | some true, some n => bif Nat.ble (o + n) st then some ([mkNot (mkLt t1 (.lit 0)), mkLt t1 (mkFst (mkSnd (mkSnd rec)))], .a (.agg (rdRows (mkFst rec) t1 st n o))) else none
        | _, _ => none
      else none
    | _, _ => none
  else none
theorem rdRows_wf (R t : Tm) (st m : Nat) : ∀ n o, lwf m (rdRows R t st n o)
  | 0, _ => fun c h => by cases h
  | n + 1, o => fun c h => by
    rcases List.mem_cons.1 h with rfl | h
    · trivial
    · exact rdRows_wf R t st m n (o + 1) c h
theorem mLoad_wf {P : Program} [Fast P] {t : TypeId} {k : Nat} {x : Tm} {ns : List Nat} {off : Off} {ps : List Tm} {v : SV} (h : mLoad P t k x ns off = some (ps, v)) (n : Nat) (hns : ∀ m ∈ ns, m < n) : v.wf n := by
  unfold mLoad at h
  split at h
  · split at h
    · rename_i m
      rw [Bool.cond_eq_ite] at h; split at h
      · simp only [Option.some.injEq, Prod.mk.injEq] at h; obtain ⟨_, rfl⟩ := h; exact hns _ (List.mem_singleton.2 rfl)
      · cases h
    · cases h
  · rw [Bool.cond_eq_ite] at h; split at h
    · simp only [Option.some.injEq, Prod.mk.injEq] at h; obtain ⟨_, rfl⟩ := h; exact trivial
    · cases h
  · rw [Bool.cond_eq_ite] at h; split at h
    · simp only [Option.some.injEq, Prod.mk.injEq] at h; obtain ⟨_, rfl⟩ := h; exact trivial
    · cases h
  · cases h
theorem mLoad_top {P : Program} [Fast P] {t : TypeId} {k : Nat} {x : Tm} {ns : List Nat} {off : Off} {ps : List Tm} {v : SV} (h : mLoad P t k x ns off = some (ps, v)) : v.isTop = false := by
  unfold mLoad at h
  split at h
  · split at h
    · rw [Bool.cond_eq_ite] at h; split at h
      · simp only [Option.some.injEq, Prod.mk.injEq] at h; obtain ⟨_, rfl⟩ := h; rfl
      · cases h
    · cases h
  · rw [Bool.cond_eq_ite] at h; split at h
    · simp only [Option.some.injEq, Prod.mk.injEq] at h; obtain ⟨_, rfl⟩ := h; rfl
    · cases h
  · rw [Bool.cond_eq_ite] at h; split at h
    · simp only [Option.some.injEq, Prod.mk.injEq] at h; obtain ⟨_, rfl⟩ := h; rfl
    · cases h
  · cases h
theorem mInner_wf {P : Program} [Fast P] {π : Pi} {t : TypeId} {k : Nat} {x : Tm} {ns : List Nat} {nm : Nat} {off : Off} {ps : List Tm} {v : SV} (h : mInner P π t k x ns nm off = some (ps, v)) (n : Nat) : v.wf n ∧ v.isTop = false := by
  unfold mInner at h
  rw [Bool.cond_eq_ite] at h
  split at h
  · split at h
    · simp only [Option.some.injEq, Prod.mk.injEq] at h; obtain ⟨_, rfl⟩ := h; exact ⟨trivial, rfl⟩
    · cases h
  · rw [Bool.cond_eq_ite] at h
    split at h
    · split at h
      · rw [Bool.cond_eq_ite] at h
        split at h
        · split at h
          · rw [Bool.cond_eq_ite] at h
            split at h
            · simp only [Option.some.injEq, Prod.mk.injEq] at h; obtain ⟨_, rfl⟩ := h; exact ⟨trivial, rfl⟩
            · cases h
          · rw [Bool.cond_eq_ite] at h
            split at h
            · simp only [Option.some.injEq, Prod.mk.injEq] at h; obtain ⟨_, rfl⟩ := h; exact ⟨rdRows_wf _ _ _ _ _ _, rfl⟩
            · cases h
          · cases h
        · cases h
      · cases h
    · cases h
theorem mOpens_wf {P : Program} [Fast P] {t : TypeId} {k : Nat} {x : Tm} {off : Off} {n : Nat} {v : SV} {ns : List Nat} (h : mOpens P t k x off n = some (v, ns)) : v.wf (n + 1) ∧ (∀ m ∈ ns, m < n + 1) ∧ v.isTop = false := by
  unfold mOpens at h
  split at h <;> first
    | (rw [Bool.cond_eq_ite] at h; split at h
       · simp only [Option.some.injEq, Prod.mk.injEq] at h; obtain ⟨rfl, rfl⟩ := h; exact ⟨Nat.lt_succ_self _, fun m hm => by simp at hm; omega, rfl⟩
       · cases h)
    | cases h
abbrev abM (P : Program) [Fast P] : Ab P :=
  ⟨fun π t k x ns off => mLoad P t k x ns off, fun π t k x ns nm off => mInner P π t k x ns nm off, fun t k x ns off n => mOpens P t k x off n,
   fun h hn => mLoad_wf h _ hn, fun h => mLoad_top h, fun h _ => (mInner_wf h _).1, fun h => (mInner_wf h 0).2, fun h _ => mOpens_wf h⟩
end
section
variable [Ext] [Exp] [Vars]
theorem lenT_v (M : Tm) : (lenT M).v = ((memOf M.den).ws.length : Int) := by
  unfold lenT
  split
  · rename_i m hm
    rw [Bool.cond_eq_ite]
    split
    · rename_i h
      have h : 0 ≤ m := of_decide_eq_true h
      rw [lit_v, mlen_ok hm h]
    · rfl
  · rfl
theorem trV_v (M : Tm) : (trV M).v = ((memOf M.den).tr : Int) := by
  unfold trV
  split
  · rename_i n h; rw [lit_v, trT_ok h]
  · rfl
theorem is12_ok {k : Nat} (h : is12 k = true) : k = 1 ∧ (101 : Nat) = 101 ∨ k = 2 ∧ (101 : Nat) = 101 := by
  unfold is12 at h
  simp only [Bool.or_eq_true] at h
  rcases h with h | h
  · exact .inl ⟨Nat.eq_of_beq_eq_true h, rfl⟩
  · exact .inr ⟨Nat.eq_of_beq_eq_true h, rfl⟩
/-- A memory's cells. -/
theorem ob_cells {k : Nat} (h : is12 k = true) {u : UM} {ns : List Nat} {b : Nat} {w : World} {R : HProp} (H : Holds w (Interp.ob k u ns b * R)) :
    ∃ T wb tv xs, Holds w (pt b (.cells #[.slice (some ⟨wb, 0, none⟩) (memOf u.fst).ws.length (memOf u.fst).ws.length, .int .i64 ((memOf u.fst).cnt : Int), .int .i64 ((memOf u.fst).tr : Int), tv] T (0, 0)) * (pt wb (.cells (W (memOf u.fst).ws) 38 (0, 0)) * (Row 128 3 tv (memOf u.fst).n xs * R))) ∧ (memOf u.fst).ok ∧ Interp.ob k u [wb] = Interp.ob k u [wb] := by
  rcases is12_ok h with ⟨rfl, _⟩ | ⟨rfl, _⟩
  · obtain ⟨h1, h2⟩ := memO_open (ob_get (.inl ⟨rfl, rfl⟩) H)
    obtain ⟨wb, tv, xs, h3⟩ := memP_open h2
    exact ⟨_, wb, tv, xs, h3, h1.1, rfl⟩
  · obtain ⟨h1, h2⟩ := memO_open (ob_get (.inr ⟨rfl, rfl⟩) H)
    obtain ⟨wb, tv, xs, h3⟩ := memP_open h2
    exact ⟨_, wb, tv, xs, h3, h1.1, rfl⟩
theorem memOQ_open {T : Nat} {u : UM} {wb b : Nat} {w : World} {R : HProp} (H : Holds w (MemOQ T u wb b * R)) :
    (memOf u.fst).ok ∧ Holds w (pt wb (.cells (W (memOf u.fst).ws) 38 (0, 0)) * ((exP fun tv => exP fun xs => pt b (.cells #[.slice (some ⟨wb, 0, none⟩) (memOf u.fst).ws.length (memOf u.fst).ws.length, .int .i64 ((memOf u.fst).cnt : Int), .int .i64 ((memOf u.fst).tr : Int), tv] T (0, 0)) * Row 128 3 tv (memOf u.fst).n xs) * R)) := by
  obtain ⟨h1, h2⟩ := holds_and H
  refine ⟨h1.1, ?_⟩
  obtain ⟨tv, h2⟩ := holds_ex h2
  obtain ⟨xs, h2⟩ := holds_ex h2
  have h3 : Holds w ((exP fun tv => exP fun xs => pt b (.cells #[.slice (some ⟨wb, 0, none⟩) (memOf u.fst).ws.length (memOf u.fst).ws.length, .int .i64 ((memOf u.fst).cnt : Int), .int .i64 ((memOf u.fst).tr : Int), tv] T (0, 0)) * Row 128 3 tv (memOf u.fst).n xs) * (pt wb (.cells (W (memOf u.fst).ws) 38 (0, 0)) * R)) := by
    refine holds_ex_mk tv ?_
    refine holds_ex_mk xs ?_
    exact h2.cast (by ac_rfl)
  exact h3.cast (by ac_rfl)
theorem W_get {ws : List Int} {i : Nat} (h : i < ws.length) : (W ws)[i]? = some (.int .u64 (ws.getD i 0)) := by
  unfold W
  simp [List.getElem?_map, List.getElem?_eq_getElem h]
theorem offT_ok {off : Off} {ps : List Tm} {a : Tm} (h : offT off = (ps, a)) (hp : ∀ p ∈ ps, p.tv = true) : a.v = (off.v : Int) := by
  unfold offT at h
  split at h
  · simp only [Prod.mk.injEq] at h
    obtain ⟨_, rfl⟩ := h
    rfl
  · rename_i b t st o
    simp only [Prod.mk.injEq] at h
    obtain ⟨rfl, rfl⟩ := h
    have h1 := hp _ (List.mem_cons_self ..)
    have h2 := hp _ (List.mem_cons_of_mem _ (List.mem_singleton.2 rfl))
    rw [mkNot_tv, mkLt_tv, lit_v] at h1 h2
    simp at h1 h2
    rw [mkAdd_v, mkAdd_v, mkMul_v, lit_v, lit_v]
    show _ = ((b.v.toNat + t.v.toNat * st + o : Nat) : Int)
    have e1 : (b.v.toNat : Int) = b.v := by omega
    have e2 : (t.v.toNat : Int) = t.v := by omega
    rw [Int.natCast_add, Int.natCast_add, Int.natCast_mul, e1, e2]
    omega
theorem rowAt_ok {w : World} {B : Nat} {β : Bl} {nm : Nat} : ∀ {ns : List Nat} {x rec : Tm}, rowAt x ns nm = some rec → rowsOk w B x.den (ns.map β) → RowOk w B (listOf rec.den.fst) rec.den.snd.fst.int rec.den.snd.snd.fst.int rec.den.snd.snd.snd.int (β nm)
  | [], _, _, h, _ => by cases h
  | b :: r, x, rec, h, H => by
    unfold rowAt at h
    rw [Bool.cond_eq_ite] at h
    obtain ⟨h1, h2⟩ := H
    split at h
    · rename_i hb
      simp only [Option.some.injEq] at h
      subst h
      rw [Nat.eq_of_beq_eq_true hb] at h1
      rw [fst_den]
      exact h1
    · refine rowAt_ok h ?_
      rw [snd_den]
      exact h2
theorem old_cell {B : Nat} {w w' : World} {R : HProp} (H : Holds w' (old B w * R)) {b i : Nat} {v : Value} (hb : b < B) (h : w.cell? ⟨b, i, none⟩ = some v) : w'.cell? ⟨b, i, none⟩ = some v := by
  rw [← h]
  refine World.cell?_of_block (w := w) (a := ⟨b, i, none⟩) ?_
  obtain ⟨hp, a, p⟩ := H.left
  have hlt := World.block_lt_of_cell? w _ h
  have hlt : b < w.heap.size := hlt
  have e := p b
  rw [if_pos hb, Array.getElem?_eq_getElem hlt] at e
  show w'.heap[b]? = w.heap[b]?
  rw [a b _ e, Array.getElem?_eq_getElem hlt]
/-- An element's cell. -/
theorem row_cell {w w' : World} {B : Nat} {l : List Int} {off len : Int} {b st o : Nat} {R : HProp} (H : Holds w' (old B w * R)) (h : RowOk w B l off len st b) {t : Int} (h0 : 0 ≤ t) (h1 : t < len) (ho : o < st) :
    w'.cell? ⟨b, off.toNat + t.toNat * st + o, none⟩ = some (.int .i64 (ci64 (l.getD (t * st + o).toNat 0))) := by
  have hb : b < B := by rcases h.lo with hb | hb <;> omega
  have e1 : (t * st + o).toNat = t.toNat * st + o := by
    have e2 : (t.toNat : Int) = t := by omega
    have : (t * st + o : Int) = ((t.toNat * st + o : Nat) : Int) := by rw [Int.natCast_add, Int.natCast_mul, e2]
    rw [this]; rfl
  have e3 : t.toNat * st + o < l.length := by
    have e2 : (t.toNat : Int) = t := by omega
    have : t.toNat + 1 ≤ len.toNat := by omega
    have h2 : (t.toNat + 1) * st ≤ len.toNat * st := Nat.mul_le_mul_right _ this
    have h3 : (l.length : Int) = ((len.toNat * st : Nat) : Int) := by rw [h.n, Int.natCast_mul]; congr 1; omega
    have h4 : l.length = len.toNat * st := by omega
    rw [h4]
    rw [Nat.add_mul] at h2
    omega
  rw [e1]
  have hm : l.getD (t.toNat * st + o) 0 ∈ l := by
    rw [List.getD_eq_getElem?_getD, List.getElem?_eq_getElem e3]
    exact List.getElem_mem e3
  rw [ci64_in (h.r _ hm)]
  have := h.c _ e3
  rw [← Nat.add_assoc] at this
  exact old_cell H hb this
theorem rdRow_den {R t : Tm} {st o : Nat} (β : Bl) : (rdRow R t st o).den β = .int .i64 (ci64 ((listOf R.den).getD (t.v * st + o).toNat 0)) := by
  show Value.int .i64 (ci64 ((listOf R.den).getD ((mkAdd (mkMul t (.lit st)) (.lit o)).v).toNat 0)) = _
  rw [mkAdd_v, mkMul_v, lit_v, lit_v]
theorem rdRows_get {R t : Tm} {st : Nat} (β : Bl) : ∀ {n o j : Nat} {c : Value}, ((rdRows R t st n o).map (SC.den β))[j]? = some c → c = (rdRow R t st (o + j)).den β ∧ j < n
  | 0, _, _, _, h => by cases h
  | n + 1, o, 0, c, h => by simp [rdRows] at h; exact ⟨h.symm, Nat.succ_pos _⟩
  | n + 1, o, j + 1, c, h => by
    have h : ((rdRows R t st n (o + 1)).map (SC.den β))[j]? = some c := by simpa [rdRows] using h
    have := rdRows_get β h
    refine ⟨by rw [this.1]; congr 2; omega, by omega⟩
theorem rdRows_len (R t : Tm) (st : Nat) : ∀ n o, (rdRows R t st n o).length = n
  | 0, _ => rfl
  | n + 1, o => by simp [rdRows, rdRows_len R t st n (o + 1)]
theorem memQ_of {T : Nat} {u : UM} {b : Nat} {w : World} {R : HProp} (H : Holds w (MemO T u b * R)) : ∃ wb, Holds w (MemOQ T u wb b * R) := by
  obtain ⟨h1, h2⟩ := memO_open H
  obtain ⟨wb, h2⟩ := holds_ex (F := fun wb => MemQ T b wb (memOf u.fst)) (show Holds w (exP (fun wb => MemQ T b wb (memOf u.fst)) * R) from h2)
  exact ⟨wb, holds_and_mk h1 h2⟩
theorem abM_ok (P : Program) [Fast P] : @AbOk _ _ _ P _ (abM P) := by
  refine @AbOk.mk _ _ _ P _ (abM P) ?_ ?_ ?_
  · intro π t k x ns off ps v h hπ hp w R β b H
    replace h : mLoad P t k x ns off = some (ps, v) := h
    unfold mLoad at h
    split at h
    · rename_i ha
      split at h
      · rename_i m
        rw [Bool.cond_eq_ite] at h
        split at h
        · rename_i hk
          simp only [Option.some.injEq, Prod.mk.injEq] at h
          obtain ⟨_, rfl⟩ := h
          have key : ∀ T, Holds w (MemOQ T x.den (β m) b * R) → (loadVar t ⟨b, 0, none⟩).run P w = .ok ((SV.c (.slice m 0 (lenT (mkFst x)) (lenT (mkFst x)))).den β) w := by
            intro T HQ
            obtain ⟨ok, h3⟩ := memOQ_open HQ
            rw [star_comm, star_assoc] at h3
            obtain ⟨tv, h3⟩ := holds_ex h3
            obtain ⟨xs, h3⟩ := holds_ex h3
            rw [star_assoc] at h3
            refine run_loadVar_one ha ?_
            rw [h3.cells]
            show some (Value.slice (some ⟨β m, 0, none⟩) (memOf x.den.fst).ws.length (memOf x.den.fst).ws.length) = some (Value.slice (some ⟨β m, 0, none⟩) (lenT (mkFst x)).v.toNat (lenT (mkFst x)).v.toNat)
            rw [lenT_v, fst_den, Int.toNat_natCast]
          rcases is12_ok hk with ⟨rfl, _⟩ | ⟨rfl, _⟩
          · exact key _ H
          · exact key _ H
        · cases h
      · cases h
    · rename_i ha
      rw [Bool.cond_eq_ite] at h
      split at h
      · rename_i hk
        simp only [Option.some.injEq, Prod.mk.injEq] at h
        obtain ⟨_, rfl⟩ := h
        obtain ⟨T, wb, tv, xs, h3, _, _⟩ := ob_cells hk H
        refine run_loadVar_one ha ?_
        rw [h3.cells]
        show some (Value.int .i64 ((memOf x.den.fst).cnt : Int)) = some (.int .i64 ((memOf (mkFst x).den).cnt : Int))
        rw [fst_den]
      · cases h
    · rename_i ha
      rw [Bool.cond_eq_ite] at h
      split at h
      · rename_i hk
        simp only [Option.some.injEq, Prod.mk.injEq] at h
        obtain ⟨_, rfl⟩ := h
        obtain ⟨T, wb, tv, xs, h3, _, _⟩ := ob_cells hk H
        refine run_loadVar_one ha ?_
        rw [h3.cells]
        show some (Value.int .i64 ((memOf x.den.fst).tr : Int)) = some (.int .i64 (trV (mkFst x)).v)
        rw [trV_v, fst_den]
      · cases h
    · cases h
  · intro π t k x ns nm off ps v h hπ hp hnm w R β b H
    replace h : mInner P π t k x ns nm off = some (ps, v) := h
    unfold mInner at h
    rw [Bool.cond_eq_ite] at h
    split at h
    · rename_i hk
      split at h
      · rename_i m ha
        have hm : nm = m := by simpa using hnm
        subst hm
        generalize ho : offT off = pa at h
        obtain ⟨ps', a⟩ := pa
        simp only [Option.some.injEq, Prod.mk.injEq] at h
        obtain ⟨rfl, rfl⟩ := h
        have a1 := hp _ (List.mem_cons_self ..)
        have a2 := hp _ (List.mem_cons_of_mem _ (List.mem_cons_self ..))
        have a3 := offT_ok ho fun p hp' => hp p (List.mem_cons_of_mem _ (List.mem_cons_of_mem _ hp'))
        rw [mkNot_tv, mkLt_tv, lit_v] at a1
        rw [mkLt_tv, lenT_v, fst_den] at a2
        simp at a1 a2
        have key : ∀ T, Holds w (MemOQ T x.den (β nm) b * R) → (loadVar t ⟨β nm, off.v, none⟩).run P w = .ok ((SV.c (.int .u64 (mkLoad π a (mkFst x)))).den β) w := by
          intro T HQ
          obtain ⟨ok, h3⟩ := memOQ_open HQ
          refine run_loadVar_one ha ?_
          have hlt : off.v < (memOf x.den.fst).ws.length := by omega
          rw [h3.cells, W_get hlt]
          show some (Value.int .u64 _) = some (Value.int .u64 (mkLoad π a (mkFst x)).v)
          rw [mkLoad_v hπ, fst_den, cl64_in (load_in ok _)]
          congr 2
          unfold MS.load MS.get
          rw [if_pos (by simp [MS.there]; omega), a3]
          rfl
        rcases is12_ok hk with ⟨rfl, _⟩ | ⟨rfl, _⟩
        · exact key _ H
        · exact key _ H
      · cases h
    · rw [Bool.cond_eq_ite] at h
      split at h
      · rename_i hk
        have hk := Nat.eq_of_beq_eq_true hk
        subst hk
        split at h
        · rename_i b1 t1 st o rec hr
          rw [Bool.cond_eq_ite] at h
          split at h
          · rename_i hc
            rw [Bool.and_eq_true] at hc
            have hb := Tm.beq_eq hc.1
            have hs := Tm.beq_eq hc.2
            replace H : Holds w (OldO x.den (ns.map β) * R) := H
            obtain ⟨⟨w0, B⟩, H⟩ := holds_ex H
            obtain ⟨⟨_, hrow⟩, H⟩ := holds_and H
            have _t : True := trivial
            · rw [← snd_den] at hrow
              have hR := rowAt_ok hr hrow
              have e1 : rec.den.snd.fst.int = b1.v := by rw [hb]; unfold Tm.v; rw [fst_den, snd_den]
              have e2 : rec.den.snd.snd.snd.int = (st : Int) := by
                have := congrArg Tm.v hs
                rw [lit_v, snd_v, snd_den, snd_den] at this
                exact this.symm
              have e3 : (mkFst (mkSnd (mkSnd rec))).v = rec.den.snd.snd.fst.int := by unfold Tm.v; rw [fst_den, snd_den, snd_den]
              rw [e1, e2, ← e3] at hR
              split at h
              · rename_i ha
                rw [Bool.cond_eq_ite] at h
                split at h
                · rename_i ho
                  have ho : o < st := by simpa using ho
                  simp only [Option.some.injEq, Prod.mk.injEq] at h
                  obtain ⟨rfl, rfl⟩ := h
                  have a1 := hp _ (List.mem_cons_self ..)
                  have a2 := hp _ (List.mem_cons_of_mem _ (List.mem_cons_self ..))
                  rw [mkNot_tv, mkLt_tv, lit_v] at a1
                  rw [mkLt_tv] at a2
                  simp at a1 a2
                  refine run_loadVar_one ha ?_
                  show w.cell? ⟨β nm, b1.v.toNat + t1.v.toNat * st + o, none⟩ = some ((rdRow (mkFst rec) t1 st o).den β)
                  rw [row_cell H hR a1 a2 ho, rdRow_den, fst_den]
                · cases h
              · rename_i n ha hsz
                rw [Bool.cond_eq_ite] at h
                split at h
                · rename_i ho
                  have ho := Nat.le_of_ble_eq_true ho
                  simp only [Option.some.injEq, Prod.mk.injEq] at h
                  obtain ⟨rfl, rfl⟩ := h
                  have a1 := hp _ (List.mem_cons_self ..)
                  have a2 := hp _ (List.mem_cons_of_mem _ (List.mem_cons_self ..))
                  rw [mkNot_tv, mkLt_tv, lit_v] at a1
                  rw [mkLt_tv] at a2
                  simp at a1 a2
                  refine run_loadVar_agg ha hsz (l := (rdRows (mkFst rec) t1 st n o).map (SC.den β)) (by simp [rdRows_len]) ?_
                  intro j c hj
                  obtain ⟨rfl, hlt⟩ := rdRows_get β hj
                  rw [rdRow_den, fst_den]
                  have := row_cell H hR a1 a2 (o := o + j) (by omega)
                  rw [show b1.v.toNat + t1.v.toNat * st + (o + j) = (Off.el b1 t1 st o).v + j by show _ = b1.v.toNat + t1.v.toNat * st + o + j; omega] at this
                  exact this
                · cases h
              · cases h
          · cases h
        · cases h
      · cases h
  · intro t k x ns off n v ns' h w R β b H
    replace h : mOpens P t k x off n = some (v, ns') := h
    unfold mOpens at h
    split at h
    · rename_i ha
      rw [Bool.cond_eq_ite] at h
      split at h
      · rename_i hk
        simp only [Option.some.injEq, Prod.mk.injEq] at h
        obtain ⟨rfl, rfl⟩ := h
        have key : ∀ T, Holds w (MemO T x.den b * R) → ∃ wb : Nat, (loadVar t ⟨b, (Off.at 0).v, none⟩).run P w = .ok ((SV.c (.slice n 0 (lenT (mkFst x)) (lenT (mkFst x)))).den (upd β n wb)) w ∧ Holds w (MemOQ T x.den (upd β n wb n) b * R) := by
          intro T HO
          obtain ⟨wb, HQ⟩ := memQ_of HO
          refine ⟨wb, run_loadVar_one ha ?_, by rw [upd_self]; exact HQ⟩
          obtain ⟨h1, h2⟩ := holds_and HQ
          obtain ⟨tv, h2⟩ := holds_ex h2
          obtain ⟨xs, h2⟩ := holds_ex h2
          have h3 := (h2.cast (star_assoc _ _ _)).cells
          rw [h3]
          show some (Value.slice (some ⟨wb, 0, none⟩) _ _) = some (.slice (some ⟨upd β n wb n, 0, none⟩) (lenT (mkFst x)).v.toNat (lenT (mkFst x)).v.toNat)
          rw [lenT_v, fst_den, upd_self]
          rfl
        rcases is12_ok hk with ⟨rfl, _⟩ | ⟨rfl, _⟩
        · exact key _ (ob_get (.inl ⟨rfl, rfl⟩) H)
        · exact key _ (ob_get (.inr ⟨rfl, rfl⟩) H)
      · cases h
    · cases h
end
/-! ### a larger count -/
section
variable [Ext] [Exp]
def weakM (π : Pi) (k : Nat) (x y : Tm) : Bool := is12 k && Tm.beq (mkFst x) (mkFst y) && pv π false (mkLt (mkSnd y) (mkSnd x))
def hintM (M : Tm) : Tm → List (Tm × Tm)
  | .a2 (.usr 26) P (.a2 .pair a v) => (v, loadX a M) :: hintM M P
  | .a2 (.usr 27) P _ => hintM M P
  | .a2 (.usr 28) P _ => hintM M P
  | P => [(P, M)]
def hintK (k : Nat) (x' x : Tm) : List (Tm × Tm) := bif is12 k then (mkSnd x', mkSnd x) :: hintM (mkFst x) (mkFst x') else [(x', x)]
instance : Wk where
  hint := hintK
  weak := weakM
  weak_ok := by
    intro V π k x y hπ h ns b hp H
    unfold weakM at h
    simp only [Bool.and_eq_true] at h
    obtain ⟨⟨h1, h2⟩, h3⟩ := h
    have h2 := Tm.beq_eq h2
    have e : x.den.fst = y.den.fst := by rw [← fst_den, ← fst_den, h2]
    have h4 := pv_ok hπ h3
    rw [mkLt_tv, snd_v, snd_v] at h4
    have h4 : x.den.snd.int ≤ y.den.snd.int := by simpa using h4
    have key : ∀ T, MemX T x.den ns b hp → MemX T y.den ns b hp := by
      intro T H
      unfold MemX at H ⊢
      split at H
      · obtain ⟨⟨a1, a2, a3, a4⟩, a5⟩ := H
        rw [e] at a1 a2 a3 a4 a5
        exact ⟨⟨a1, by omega, by omega, by omega⟩, a5⟩
      · obtain ⟨⟨a1, a2, a3, a4⟩, a5⟩ := H
        rw [e] at a1 a2 a3 a4 a5
        exact ⟨⟨a1, by omega, by omega, by omega⟩, a5⟩
    rcases is12_ok h1 with ⟨rfl, _⟩ | ⟨rfl, _⟩
    · exact key _ H
    · exact key _ H
end
/-! ### a new memory -/
section
variable [Ext] [Exp]
def cNew (k : Nat) : CtrAt := fun args s =>
  match args with
  | [.a (.one (.int .i64 (.lit n)))] => bif intLe 1 n && intLe n 4096 then
      match s with
      | ⟨π, H, m⟩ => some (frcH ((m, .abs k (.a2 .pair (i1 13 (.lit n)) (.lit 0)) []) :: H) fun H => frcN m fun m => .new m (.done (.tup [.one (.ptr m 0), .one (.int .i64 (.lit 0))], ⟨π, H, m + 1⟩)))
    else none
  | _ => none
variable [Vars]
theorem cNew_ok {P : Program} {g k T : Nat} (hk0 : k = 1 ∧ T = 101 ∨ k = 2 ∧ T = 50)
    (h : ∀ (w : World) (R : HProp) (n : Nat), 1 ≤ n → n ≤ 4096 → Holds w R → Calls P g #[.int .i64 (n : Int)] w fun e w' => ∃ mb, e = .returned (.tuple #[.pointer (some ⟨mb, 0, none⟩), .int .i64 0]) ∧ Holds w' (MemP T mb (MS.new n) * R) ∧ Strm w w') : CAtOk P g (cNew k) := by
  intro args s t ht L β hl ha htp w R hw Q hk
  unfold cNew at ht
  split at ht
  · rename_i n
    rw [Bool.cond_eq_ite] at ht
    split at ht
    · rename_i hn
      rw [Bool.and_eq_true] at hn
      have n1 : 1 ≤ n := of_decide_eq_true hn.1
      have n2 : n ≤ 4096 := of_decide_eq_true hn.2
      obtain ⟨π, H, m⟩ := s
      simp only [frcH_eq, frcN_eq, Option.some.injEq] at ht
      subst ht
      have hc := h w _ n.toNat (by omega) (by omega) hw.hold
      rw [show ((n.toNat : Nat) : Int) = n by omega] at hc
      refine hc.mono ?_
      rintro e w' ⟨mb, rfl, g1, g2⟩
      have hok := new_ok n.toNat (by omega)
      have hag := upd_ag β m mb
      have q := hk (upd β m mb) (.tup [.one (.ptr m 0), .one (.int .i64 (.lit 0))]) ⟨π, (m, .abs k (.a2 .pair (i1 13 (.lit n)) (.lit 0)) []) :: H, m + 1⟩ w' (hl mb) (by
        intro x hx
        rcases List.mem_cons.1 hx with rfl | hx
        · exact Nat.lt_succ_self _
        · rcases List.mem_cons.1 hx with rfl | hx
          · trivial
          · cases hx) rfl
      have hwf : hwf (m + 1) ((m, .abs k (.a2 .pair (i1 13 (.lit n)) (.lit 0)) []) :: H) := by
        intro q hq
        rcases List.mem_cons.1 hq with rfl | hq
        · exact ⟨Nat.lt_succ_self _, fun _ h => nomatch h⟩
        · exact ⟨Nat.lt_succ_of_lt (hw.wf q hq).1, SO.wf_mono (Nat.le_succ _) (hw.wf q hq).2⟩
      have hho : Holds w' (hden (upd β m mb) ((m, .abs k (.a2 .pair (i1 13 (.lit n)) (.lit 0)) []) :: H) * R) := by
        show Holds w' ((Interp.ob k (Tm.a2 F2.pair (i1 13 (.lit n)) (.lit 0)).den [] (upd β m mb m) * hden (upd β m mb) H) * R)
        rw [ob_of hk0, hden_ext hag hw.wf, upd_self]
        have h3 : Holds w' (MemO T (Tm.a2 F2.pair (i1 13 (.lit n)) (.lit 0)).den mb * (hden β H * R)) := by
          refine holds_and_mk ⟨hok, ?_, ?_, ?_⟩ g1
          · show (((MS.new n.toNat).n : Nat) : Int) ≤ 0; simp [MS.new]
          · show (((MS.new n.toNat).cnt : Nat) : Int) ≤ 0; simp [MS.new]
          · show (((MS.new n.toNat).tr : Nat) : Int) ≤ 0; simp [MS.new]
        exact h3.cast (by ac_rfl)
      have q := q ⟨hag, Nat.le_succ _, ⟨hw.pi, hwf, hho⟩, g2⟩
      have e : (SV.tup [.one (.ptr m 0), .one (.int .i64 (.lit 0))]).den (upd β m mb) = .tuple #[.pointer (some ⟨mb, 0, none⟩), .int .i64 0] := by
        show Value.tuple #[.pointer (some ⟨upd β m mb m, 0, none⟩), .int .i64 0] = _
        rw [upd_self]
      rw [e] at q
      exact q
    · cases ht
  · cases ht
end
end Go.Proofs.Ytmmpnjcmaodkcaa.Ef
/- What is proved: arguments of a statement that lie in what was there before, as rows in the second evaluator. Conditions: that they can be read. -/
namespace Go.Proofs.Ytmmpnjcmaodkcaa.Ef
open Go Go.RowKit Go.Proofs.Ytmmpnjcmaodkcaa.Sep Go.Proofs.Ytmmpnjcmaodkcaa.Num Go.Proofs.Ytmmpnjcmaodkcaa.Mem
set_option linter.unusedVariables false
def flat2 : List (Int × Int) → List Int
  | [] => []
  | (a, b) :: r => a :: b :: flat2 r
theorem flat2_len : ∀ l, (flat2 l).length = l.length * 2
  | [] => rfl
  | (a, b) :: r => by simp [flat2, flat2_len r]; omega
theorem flat2_get : ∀ (l : List (Int × Int)) (i : Nat), (flat2 l).getD (i * 2) 0 = (l.getD i (0, 0)).1 ∧ (flat2 l).getD (i * 2 + 1) 0 = (l.getD i (0, 0)).2
  | [], i => by simp [flat2]
  | (a, b) :: r, 0 => by simp [flat2]
  | (a, b) :: r, i + 1 => by
    have := flat2_get r i
    rw [show (i + 1) * 2 = i * 2 + 1 + 1 by omega]
    simpa [flat2] using this
theorem flat2_mem {x : Int} : ∀ {l : List (Int × Int)}, x ∈ flat2 l → ∃ p ∈ l, x = p.1 ∨ x = p.2
  | [], h => by cases h
  | (a, b) :: r, h => by
    rcases List.mem_cons.1 h with rfl | h
    · exact ⟨_, List.mem_cons_self .., .inl rfl⟩
    · rcases List.mem_cons.1 h with rfl | h
      · exact ⟨_, List.mem_cons_self .., .inr rfl⟩
      · obtain ⟨p, hp, e⟩ := flat2_mem h
        exact ⟨p, List.mem_cons_of_mem _ hp, e⟩
/-- A slice's value, its row: of no element, at any address. -/
structure RowAt (w : World) (v : Value) (l : List Int) (len st : Int) (i off : Int) (cap b : Nat) (ao : Option Addr) : Prop where
  v : v = .slice (if len ≤ 0 then ao else some ⟨b, off.toNat, none⟩) len.toNat cap
  i : len ≤ 0 → off = i
  r : RowOk w w.heap.size l off len st b
theorem ints_row {w : World} {v : Value} {xs : List Int} (h : IntsAt w v xs) (i : Nat) : ∃ (off : Int) (cap b : Nat) (ao : Option Addr), RowAt w v xs xs.length 1 i off cap b ao := by
  obtain ⟨ao, cap, rfl, hr, hc⟩ := h
  by_cases hx : xs = []
  · subst hx
    exact ⟨i, cap, 0, ao, ⟨by simp, fun _ => rfl, ⟨by omega, by simp, .inr (by simp), fun j hj => by simp at hj, fun x hx => by cases hx⟩⟩⟩
  · rcases hc with hc | ⟨b, off, rfl, hc⟩
    · exact absurd hc hx
    · have hp : 0 < xs.length := List.length_pos_iff.2 hx
      refine ⟨off, cap, b, none, ⟨?_, fun h => by omega, ⟨by omega, by omega, .inl ?_, fun j hj => ?_, hr⟩⟩⟩
      · rw [if_neg (by omega)]; simp
      · exact World.block_lt_of_cell? w _ (hc 0 hp)
      · simpa using hc j hj
theorem vals_row {w : World} {v : Value} {xs : List (Int × Int)} (h : ValsAt w v xs) (i : Nat) : ∃ (off : Int) (cap b : Nat) (ao : Option Addr), RowAt w v (flat2 xs) xs.length 2 i off cap b ao := by
  obtain ⟨ao, cap, rfl, hr, hc⟩ := h
  by_cases hx : xs = []
  · subst hx
    exact ⟨i, cap, 0, ao, ⟨by simp, fun _ => rfl, ⟨by omega, by simp [flat2], .inr (by simp), fun j hj => by simp [flat2] at hj, fun x hx => by cases hx⟩⟩⟩
  · rcases hc with hc | ⟨b, off, rfl, hc⟩
    · exact absurd hc hx
    · have hp : 0 < xs.length := List.length_pos_iff.2 hx
      refine ⟨off, cap, b, none, ⟨?_, fun h => by omega, ⟨by omega, by rw [flat2_len]; omega, .inl ?_, fun j hj => ?_, fun x hx => ?_⟩⟩⟩
      · rw [if_neg (by omega)]; simp
      · exact World.block_lt_of_cell? w _ (hc 0 hp).1
      · rw [flat2_len] at hj
        have hq : j / 2 < xs.length := by omega
        obtain ⟨c1, c2⟩ := hc (j / 2) hq
        obtain ⟨g1, g2⟩ := flat2_get xs (j / 2)
        show w.cell? ⟨b, off + j, none⟩ = _
        rcases Nat.mod_two_eq_zero_or_one j with hm | hm
        · have e : j / 2 * 2 = j := by omega
          rw [e] at g1 c1
          rw [c1, g1]
        · have e : j / 2 * 2 + 1 = j := by omega
          rw [Nat.add_assoc, e] at c2
          rw [e] at g2
          rw [c2, g2]
      · obtain ⟨p, hp, e⟩ := flat2_mem hx
        have := hr p hp
        rcases e with rfl | rfl
        · exact this.1
        · exact this.2
/-- What the start holds. -/
theorem old_start [Ext] {w : World} {u : UM} {ns : List Nat} (h1 : oldOf u.fst = some (w, w.heap.size)) (h2 : rowsOk w w.heap.size u.snd ns) : Holds w (OldO u ns) := by
  obtain ⟨h, a, p⟩ := holds_old w.heap.size w
  exact ⟨h, a, (w, w.heap.size), ⟨h1, h2⟩, p⟩
theorem old_end [Ext] {w w' : World} {u : UM} {ns : List Nat} {R : HProp} (h1 : oldOf u.fst = some (w, w.heap.size)) (H : Holds w' (OldO u ns * R)) (s : Strm w w') : Below w.heap.size w w' := by
  obtain ⟨⟨w0, B⟩, H⟩ := holds_ex H
  obtain ⟨⟨h2, _⟩, H⟩ := holds_and H
  rw [h1] at h2
  cases h2
  exact H.left.below (Nat.le_refl _) s
end Go.Proofs.Ytmmpnjcmaodkcaa.Ef
/- What is proved: an argument that can be read, all of whose cells are whole numbers, or a slice of such, is one as the walks want it. Conditions: that it can be read. -/
namespace Go.Proofs.Ytmmpnjcmaodkcaa.Mem
open Go Go.RowKit Go.ChangeShapes Go.WideShapes Go.ChangeAt Go.Joins Go.Deep
set_option maxRecDepth 100000
set_option linter.unusedVariables false
set_option linter.unusedSimpArgs false
noncomputable def flatF (go : TypeId → Bool) (t : TypeId) : Bool :=
  match Try.prog.underlying t with
  | some (.int .i64) => true
  | some (.struct fs) => (List.range (Try.prog.cellsOf t)).all fun j => fs.toList.any fun f => decide (f.offset ≤ j) && (decide (j < f.offset + Try.prog.cellsOf f.type) && go f.type)
  | some (.array m e) => go e && (decide (0 < Try.prog.cellsOf e) && decide (Try.prog.cellsOf t = m * Try.prog.cellsOf e))
  | _ => false
noncomputable def flatB : Nat → TypeId → Bool
  | 0 => fun _ => false
  | d + 1 => flatF (flatB d)
abbrev isInt (c : Value) : Prop := ∃ n : Int, c = .int .i64 n ∧ (Lit.int .i64 n).wf = true
section
variable {H : Type} {enc : TypeId × Value → H} {w : World} {base : Nat} {spare : Nat → Bool} {held : Bool}
theorem trod_flat : ∀ (d : Nat) {t : TypeId} {fuel : Nat} {cs : List Value} {x : DataW H × List MemPlace}, flatB d t = true → DataW.trod enc Try.prog w base spare held fuel t cs = some x → ∀ c ∈ cs, isInt c
  | 0, t, fuel, cs, x, h, _ => by cases h
  | d + 1, t, fuel, cs, x, h, hx => by
    have h : flatF (flatB d) t = true := h
    unfold flatF at h
    split at h
    · rename_i ht
      obtain ⟨n, rfl, _, hw⟩ := DataW.trod_int ht hx
      intro c hc
      rcases List.mem_singleton.1 hc with rfl
      exact ⟨n, rfl, hw⟩
    · rename_i fs ht
      obtain ⟨xs, n, _, _, hl, hlen, hf⟩ := DataW.trod_struct ht hx
      intro c hc
      obtain ⟨j, hj, rfl⟩ := List.mem_iff_getElem.1 hc
      have h1 := List.all_eq_true.1 h j (List.mem_range.2 (by omega))
      obtain ⟨f, hfm, h2⟩ := List.any_eq_true.1 h1
      rw [Bool.and_eq_true, Bool.and_eq_true, decide_eq_true_eq, decide_eq_true_eq] at h2
      obtain ⟨a1, a2, a3⟩ := h2
      obtain ⟨i, hi, rfl⟩ := List.mem_iff_getElem.1 hfm
      have hi' : i < fs.size := by simpa using hi
      have hfi := hf i _ (by simp [hi'] : fs[i]? = some fs.toList[i])
      have hxi : xs[i]? = some (xs[i]'(by omega)) := by simp [hlen, hi']
      rw [hxi] at hfi
      refine trod_flat d a3 hfi _ ?_
      rw [List.mem_iff_getElem]
      refine ⟨j - fs.toList[i].offset, ?_, ?_⟩
      · simp only [List.length_take, List.length_drop]; omega
      · rw [List.getElem_take, List.getElem_drop]
        congr 1; omega
    · rename_i m e ht
      rw [Bool.and_eq_true, Bool.and_eq_true, decide_eq_true_eq, decide_eq_true_eq] at h
      obtain ⟨a1, a2, a3⟩ := h
      obtain ⟨xs, n, _, _, hl, hlen, hf⟩ := DataW.trod_array ht hx
      intro c hc
      obtain ⟨j, hj, rfl⟩ := List.mem_iff_getElem.1 hc
      have hjm : j / Try.prog.cellsOf e < m := by
        rw [Nat.div_lt_iff_lt_mul a2]; omega
      have hfi := hf (j / Try.prog.cellsOf e) hjm
      have hxi : xs[j / Try.prog.cellsOf e]? = some (xs[j / Try.prog.cellsOf e]'(by omega)) := by simp [hlen, hjm]
      rw [hxi] at hfi
      refine trod_flat d a1 hfi _ ?_
      rw [List.mem_iff_getElem]
      have e1 := Nat.div_add_mod j (Try.prog.cellsOf e)
      have e2 := Nat.mod_lt j a2
      have e3 : j / Try.prog.cellsOf e * Try.prog.cellsOf e = Try.prog.cellsOf e * (j / Try.prog.cellsOf e) := Nat.mul_comm _ _
      refine ⟨j % Try.prog.cellsOf e, ?_, ?_⟩
      · simp only [List.length_take, List.length_drop]
        rw [e3]
        have : j < Try.prog.cellsOf t := by omega
        omega
      · rw [List.getElem_take, List.getElem_drop]
        congr 1
        rw [e3]; exact e1
    · cases h
theorem ints_list : ∀ {cs : List Value}, (∀ c ∈ cs, isInt c) → ∃ l : List Int, cs = l.map (Value.int .i64) ∧ ∀ x ∈ l, -9223372036854775808 ≤ x ∧ x ≤ 9223372036854775807
  | [], _ => ⟨[], rfl, fun x hx => (by cases hx)⟩
  | c :: r, h => by
    obtain ⟨n, rfl, hn⟩ := h c (List.mem_cons_self ..)
    obtain ⟨l, rfl, hl⟩ := ints_list fun c hc => h c (List.mem_cons_of_mem _ hc)
    refine ⟨n :: l, rfl, fun x hx => ?_⟩
    rcases List.mem_cons.1 hx with rfl | hx
    · exact rng_i64 hn
    · exact hl x hx
end
/-- So many whole numbers. -/
def FlatIs (v : Value) (n : Nat) (l : List Int) : Prop := v = .agg (l.map (Value.int .i64)).toArray ∧ l.length = n ∧ ∀ x ∈ l, -9223372036854775808 ≤ x ∧ x ≤ 9223372036854775807
/-- A slice of elements of so many whole numbers each. -/
def FlatAt (w : World) (v : Value) (st : Nat) (l : List Int) (len : Nat) : Prop := ∃ ao cap, v = .slice ao len cap ∧ l.length = len * st ∧ (∀ x ∈ l, -9223372036854775808 ≤ x ∧ x ≤ 9223372036854775807) ∧
  (len = 0 ∨ ∃ b off, ao = some ⟨b, off, none⟩ ∧ ∀ j, j < l.length → w.cell? ⟨b, off + j, none⟩ = some (.int .i64 (l.getD j 0)))
section
variable {H : Type} {enc : TypeId × Value → H} {W : World} {base : Nat} {d : DataW H} {p : List MemPlace} {v : Value}
/-- A struct or an array of whole numbers. -/
theorem flat_cell {t : TypeId} {fuel : Nat} {cs : Array Value} {x : DataW H × List MemPlace} {n : Nat} (hB : flatB 6 t = true) (hn : Try.prog.cellsOf t = n) (hs : cs.size = n) (h : DataW.trod enc Try.prog W 0 (fun _ => true) true fuel t cs.toList = some x) :
    ∃ l, FlatIs (.agg cs) n l := by
  obtain ⟨l, h1, h2⟩ := ints_list (trod_flat 6 hB h)
  refine ⟨l, ?_, ?_, h2⟩
  · rw [← h1]
  · have := congrArg List.length h1
    simp at this
    omega
theorem flat_struct {r : Reach} {t : TypeId} {fs : Array Field} {n : Nat} (ht : Try.prog.underlying t = some (.struct fs)) (hB : flatB 6 t = true) (hn : Try.prog.cellsOf t = n) (hv : Value.okWide Try.prog W r base t v) (h : DataW.Trod enc Try.prog W 0 (fun _ => true) true t v d p) :
    ∃ l, FlatIs v n l := by
  simp only [Value.okWide, ht] at hv
  obtain ⟨cs, rfl, hsz, _⟩ := hv
  obtain ⟨fuel, hf⟩ := h
  simp only [Value.cells] at hf
  exact flat_cell hB hn (by omega) hf
theorem flat_array {r : Reach} {t e : TypeId} {m n : Nat} (ht : Try.prog.underlying t = some (.array m e)) (hB : flatB 6 t = true) (hn : Try.prog.cellsOf t = n) (hv : Value.okWide Try.prog W r base t v) (h : DataW.Trod enc Try.prog W 0 (fun _ => true) true t v d p) :
    ∃ l, FlatIs v n l := by
  simp only [Value.okWide, ht] at hv
  obtain ⟨cs, rfl, hsz, _⟩ := hv
  obtain ⟨fuel, hf⟩ := h
  simp only [Value.cells] at hf
  exact flat_cell hB hn (by omega) hf
theorem cells_len {w : World} {base : Nat} {a : Addr} : ∀ {n : Nat} {cs : List Value}, w.cells? base a n = some cs → cs.length = n ∧ ∀ j, j < n → w.cell? (a.add j) = cs[j]? := by
  intro n cs h
  unfold World.cells? at h
  split at h
  · have key : ∀ (l : List Nat) (cs : List Value), (l.mapM fun i => w.cell? (a.add i)) = some cs → cs.length = l.length ∧ ∀ j, j < l.length → w.cell? (a.add (l.getD j 0)) = cs[j]? := by
      intro l
      induction l with
      | nil => intro cs h; simp at h; subst h; exact ⟨rfl, fun j hj => by simp at hj⟩
      | cons i r ih =>
        intro cs h
        rw [List.mapM_cons] at h
        cases h0 : w.cell? (a.add i) with
        | none => rw [h0] at h; simp at h
        | some c =>
          cases h1 : (r.mapM fun i => w.cell? (a.add i)) with
          | none => rw [h0, h1] at h; simp at h
          | some cr =>
            rw [h0, h1] at h
            have h : c :: cr = cs := by simpa using h
            subst h
            obtain ⟨e1, e2⟩ := ih cr h1
            refine ⟨by simp [e1], fun j hj => ?_⟩
            cases j with
            | zero => simpa using h0
            | succ j => simpa using e2 j (by simpa using hj)
    obtain ⟨e1, e2⟩ := key _ _ h
    rw [List.length_range] at e1 e2
    refine ⟨e1, fun j hj => ?_⟩
    have := e2 j hj
    rwa [show (List.range n).getD j 0 = j by simp [List.getD_eq_getElem?_getD, hj]] at this
  · cases h
/-- A slice of structs of whole numbers. -/
theorem flats_cell {t e : TypeId} {fuel st : Nat} {x : DataW H × List MemPlace} (ht : Try.prog.underlying t = some (.slice e)) (hB : flatB 6 e = true) (hc : Try.prog.cellsOf e = st) (hst : 0 < st)
    (hf : DataW.trod enc Try.prog W 0 (fun _ => true) true fuel t [v] = some x) : ∃ l len, FlatAt W v st l len := by
  rcases open_slice ht hf with ⟨hcs, _⟩ | ⟨a, len, cap, m, n, D, Pl, hcs, _, hl, hm, hmm, _, hel⟩
  · simp at hcs
    subst hcs
    exact ⟨[], 0, none, 0, rfl, by simp, by simp, Or.inl rfl⟩
  · simp at hcs
    subst hcs
    have hm' : m = cap := by simpa using hmm
    subst hm'
    rw [hc] at hel
    have key : ∀ j, j < len * st → ∃ q : Int, W.cell? (a.add j) = some (.int .i64 q) ∧ (Lit.int .i64 q).wf = true := by
      intro j hj
      have hi : j / st < len := by rw [Nat.div_lt_iff_lt_mul hst]; exact hj
      obtain ⟨cs', h1, h2⟩ := hel (j / st) (by omega)
      obtain ⟨g1, g2⟩ := cells_len h1
      have g := g2 (j % st) (Nat.mod_lt _ hst)
      have hlt : j % st < cs'.length := by rw [g1]; exact Nat.mod_lt _ hst
      obtain ⟨q, hq, hw⟩ := trod_flat 6 hB h2 cs'[j % st] (List.getElem_mem _)
      refine ⟨q, ?_, hw⟩
      have e : ((a.add (j / st * st)).add (j % st)) = a.add j := by
        rw [Addr.add_add]
        have h1 := Nat.div_add_mod j st
        have h2 : j / st * st = st * (j / st) := Nat.mul_comm _ _
        congr 1
        rw [h2]; exact h1
      rw [← e, g, List.getElem?_eq_getElem hlt, hq]
    obtain ⟨q, hq⟩ : ∃ q : Nat → Int, ∀ j, j < len * st → W.cell? (a.add j) = some (.int .i64 (q j)) ∧ (Lit.int .i64 (q j)).wf = true := by
      refine ⟨fun j => if h : j < len * st then Classical.choose (key j h) else 0, fun j hj => ?_⟩
      have e : (if h : j < len * st then Classical.choose (key j h) else 0) = Classical.choose (key j hj) := dif_pos hj
      simp only [e]
      exact Classical.choose_spec (key j hj)
    refine ⟨(List.range (len * st)).map q, len, some a, m, rfl, by simp, fun x hx => ?_, ?_⟩
    · obtain ⟨i, hi, rfl⟩ := List.mem_map.1 hx
      exact rng_i64 (hq i (by simpa using hi)).2
    · rcases Nat.eq_zero_or_pos len with h0 | h0
      · left; exact h0
      · right
        have hp : 0 < len * st := Nat.mul_pos h0 hst
        obtain ⟨b, off, spot⟩ := a
        have hspot : spot = none := by simpa [Addr.add] using World.cell?_spot (hq 0 hp).1
        subst hspot
        refine ⟨b, off, rfl, fun j hj => ?_⟩
        have hj' : j < len * st := by simpa using hj
        have e : ((List.range (len * st)).map q).getD j 0 = q j := by simp [List.getD_eq_getElem?_getD, hj']
        rw [e]
        have := (hq j hj').1
        rwa [add_plain] at this
theorem flats_of {r : Reach} {t e : TypeId} {st : Nat} (ht : Try.prog.underlying t = some (.slice e)) (hB : flatB 6 e = true) (hc : Try.prog.cellsOf e = st) (hst : 0 < st) (hv : Value.okWide Try.prog W r base t v) (h : DataW.Trod enc Try.prog W 0 (fun _ => true) true t v d p) :
    ∃ l len, FlatAt W v st l len := by
  obtain ⟨a0, len, cap, rfl⟩ := okWide_slice ht hv
  obtain ⟨fuel, hf⟩ := h
  exact flats_cell ht hB hc hst hf
end
end Go.Proofs.Ytmmpnjcmaodkcaa.Mem
namespace Go.Proofs.Ytmmpnjcmaodkcaa.Ef
open Go Go.Proofs.Ytmmpnjcmaodkcaa.Sep Go.Proofs.Ytmmpnjcmaodkcaa.Mem
theorem flats_row {w : World} {v : Value} {st : Nat} {l : List Int} {len : Nat} (h : FlatAt w v st l len) (hst : 0 < st) (i : Nat) : ∃ (off : Int) (cap b : Nat) (ao : Option Addr), RowAt w v l len st i off cap b ao := by
  obtain ⟨ao, cap, rfl, hl, hr, hc⟩ := h
  by_cases hx : len = 0
  · subst hx
    have : l = [] := List.length_eq_zero_iff.1 (by omega)
    subst this
    exact ⟨i, cap, 0, ao, ⟨by simp, fun _ => rfl, ⟨by omega, by simp, .inr (by simp), fun j hj => by simp at hj, fun x hx => by cases hx⟩⟩⟩
  · rcases hc with hc | ⟨b, off, rfl, hc⟩
    · exact absurd hc hx
    · have hp : 0 < l.length := by rw [hl]; exact Nat.mul_pos (by omega) hst
      refine ⟨off, cap, b, none, ⟨?_, fun h => by omega, ⟨by omega, by rw [hl]; simp, .inl ?_, fun j hj => ?_, hr⟩⟩⟩
      · rw [if_neg (by omega)]; simp
      · exact World.block_lt_of_cell? w _ (hc 0 hp)
      · simpa using hc j hj
end Go.Proofs.Ytmmpnjcmaodkcaa.Ef
/- What is proved: the table of contracts of the functions on words and memories in this translation. Conditions: none beyond the contracts' own. -/
namespace Go.Proofs.Ytmmpnjcmaodkcaa.Ef
open Go Go.RowKit Go.Proofs.Ytmmpnjcmaodkcaa.Sep Go.Proofs.Ytmmpnjcmaodkcaa.Num Go.Proofs.Ytmmpnjcmaodkcaa.Mem
open Go.Proofs.Ytmmpnjcmaodkcaa.Ev (Fast topAt topVer topNext topNext_rng)
set_option maxRecDepth 100000
set_option linter.unusedVariables false
set_option linter.unusedSimpArgs false
set_option linter.unusedSectionVars false
theorem valA_wf [Ext] [Exp] (π : Pi) (x : Tm) (n : Nat) : (valA π x).wf n ∧ (valA π x).isTop = false := ⟨aggI_wf _ n, rfl⟩
theorem headA_wf [Ext] [Exp] (π : Pi) (x : Tm) (n : Nat) : (headA π x).wf n ∧ (headA π x).isTop = false := ⟨aggI_wf _ n, rfl⟩
theorem topA_wf [Ext] [Exp] (π : Pi) (x : Tm) (n : Nat) : (topA π x).wf n ∧ (topA π x).isTop = false := ⟨aggI_wf _ n, rfl⟩
section
variable [Ext] [Exp] [Vars]
theorem valA_den {π : Pi} (hπ : facts π) (x : Tm) (β : Bl) (h : 0 ≤ x.v ∧ x.v < 18446744073709551616) : (valA π x).den β = .agg #[.int .i64 (vK x.v), .int .i64 (vN x.v)] := by
  have e1 := vkT_v hπ x
  have e2 := vnT_v hπ x
  rw [cl64_in h] at e2
  simp only [valA, aggI, SV.den, SA.den, dens, List.map_cons, List.map_nil, SC.den, e1, e2]
theorem hdL_den (x : Tm) (β : Bl) : (aggI (hdL x)).den β = (HV.of x.v).agg := by
  simp only [hdL, aggI, SV.den, SA.den, dens, List.map_cons, List.map_nil, SC.den, HV.agg,
    m1_v (n := 3) (f := fun w => (HV.of w).st) (fun _ => rfl), m1_v (n := 4) (f := fun w => (HV.of w).cl) (fun _ => rfl), m1_v (n := 5) (f := fun w => (HV.of w).ct) (fun _ => rfl), m1_v (n := 6) (f := fun w => (HV.of w).mr) (fun _ => rfl),
    m1_v (n := 7) (f := fun w => (HV.of w).gr) (fun _ => rfl), m1_v (n := 8) (f := fun w => (HV.of w).tg) (fun _ => rfl), m1_v (n := 9) (f := fun w => (HV.of w).lk) (fun _ => rfl)]
theorem headA_den {π : Pi} (hπ : facts π) (x : Tm) (β : Bl) : (headA π x).den β = (HV.of x.v).agg := by
  unfold headA hdT
  split
  · rename_i a b c d e f g
    rw [Bool.cond_eq_ite]
    split
    · rename_i h
      simp only [Bool.and_eq_true] at h
      obtain ⟨h1, h2, h3, h4, h5, h6, h7⟩ := h
      have h1 := Rg.inside_ok (selRg_ok hπ a) h1
      have h2 := Rg.inside_ok (selRg_ok hπ b) h2
      have h3 := Rg.inside_ok (selRg_ok hπ c) h3
      have h4 := Rg.inside_ok (selRg_ok hπ d) h4
      have h5 := Rg.inside_ok (selRg_ok hπ e) h5
      have h6 := Rg.inside_ok (selRg_ok hπ f) h6
      have h7 := Rg.inside_ok (selRg_ok hπ g) h7
      show _ = (HV.of (HV.mk a.v b.v c.v d.v e.v f.v g.v).w).agg
      rw [HV.of_w _ ⟨by simp only; omega, by simp only; omega, by simp only; omega, by simp only; omega, by simp only; omega, by simp only; omega, by simp only; omega⟩]
      rfl
    · exact hdL_den _ β
  · exact hdL_den _ β
theorem topA_den (π : Pi) (x : Tm) (β : Bl) : (topA π x).den β = .agg #[.int .i64 (topAt x.v), .int .i64 (topVer x.v)] := by
  simp only [topA, aggI, SV.den, SA.den, dens, List.map_cons, List.map_nil, SC.den, m1_v (n := 10) (f := topAt) (fun _ => rfl), m1_v (n := 11) (f := topVer) (fun _ => rfl)]
end
section
variable [Ext] [Exp]
def Γb : Ctr :=
  ctrCons 18 (cEx (cLoad 1)) <|
  ctrCons 20 (cEx (cStore 1)) <|
  ctrCons 44 (cEx (cCas 1)) <|
  ctrCons 56 (cEx (cLoad 2)) <|
  ctrCons 25 (cEx (cStore 2)) <|
  ctrCons 58 (cEx (cCas 2)) <|
  ctrCons 32 (cNew 1) <|
  ctrCons 33 (cNew 2) <|
  ctrCons 42 (cU1 valA) <|
  ctrCons 15 (cU1 valA) <|
  ctrCons 43 (cU1 headA) <|
  ctrCons 17 (cU1 headA) <|
  ctrCons 98 (cU1 topA) <|
  ctrCons 79 (cU1 topA) <|
  ctrCons 85 (cWord) <|
  ctrCons 21 (cWord) <|
  ctrCons 45 (cHeadWord) <|
  ctrCons 24 (cHeadWord) <|
  ctrCons 95 (cMoved) <|
  ctrCons 69 (cMoved) <|
  ctrCons 99 (cW2 3 topNext .u64) <|
  ctrCons 80 (cW2 3 topNext .u64) <|
  ctrCons 10 (cKindF 3) <|
  ctrNone
variable [Vars]
theorem Γb_ok : CtrOk Try.prog Γb :=
  ctrCons_ok (cEx_ok (cLoad_ok (.inl ⟨rfl, rfl⟩) load_calls)) <|
  ctrCons_ok (cEx_ok (cStore_ok (.inl ⟨rfl, rfl⟩) store_calls)) <|
  ctrCons_ok (cEx_ok (cCas_ok (.inl ⟨rfl, rfl⟩) cas_calls)) <|
  ctrCons_ok (cEx_ok (cLoad_ok (.inr ⟨rfl, rfl⟩) refLoad_calls)) <|
  ctrCons_ok (cEx_ok (cStore_ok (.inr ⟨rfl, rfl⟩) refStore_calls)) <|
  ctrCons_ok (cEx_ok (cCas_ok (.inr ⟨rfl, rfl⟩) refCas_calls)) <|
  ctrCons_ok (cNew_ok (.inl ⟨rfl, rfl⟩) memNew_calls) <|
  ctrCons_ok (cNew_ok (.inr ⟨rfl, rfl⟩) refNew_calls) <|
  ctrCons_ok (cU1_ok valA_wf fun π x β w hπ h0 h1 => by rw [valA_den hπ _ _ ⟨h0, h1⟩]; exact slotOf_calls _ w h0 h1) <|
  ctrCons_ok (cU1_ok valA_wf fun π x β w hπ h0 h1 => by rw [valA_den hπ _ _ ⟨h0, h1⟩]; exact ref01Of_calls _ w h0 h1) <|
  ctrCons_ok (cU1_ok headA_wf fun π x β w hπ h0 h1 => by rw [headA_den hπ]; exact headOf_calls _ w h0 h1) <|
  ctrCons_ok (cU1_ok headA_wf fun π x β w hπ h0 h1 => by rw [headA_den hπ]; exact ref02Of_calls _ w h0 h1) <|
  ctrCons_ok (cU1_ok topA_wf fun π x β w hπ h0 h1 => by rw [topA_den]; exact Ev.ofTop_c _ w h0 h1) <|
  ctrCons_ok (cU1_ok topA_wf fun π x β w hπ h0 h1 => by rw [topA_den]; exact Ev.rofTop_c _ w h0 h1) <|
  ctrCons_ok (cWord_ok Ev.slotWord_c) <|
  ctrCons_ok (cWord_ok ref01Word_calls) <|
  ctrCons_ok (cHeadWord_ok Ev.headWord_c) <|
  ctrCons_ok (cHeadWord_ok ref02Word_calls) <|
  ctrCons_ok (cMoved_ok headMoved_calls) <|
  ctrCons_ok (cMoved_ok ref02Moved_calls) <|
  ctrCons_ok (cW2_ok (fun _ _ => rfl) Ev.next_c) <|
  ctrCons_ok (cW2_ok (fun _ _ => rfl) Ev.rnext_c) <|
  ctrCons_ok (cKindF_ok 3 kind_calls) <|
  ctrNone_ok _
end
theorem noGos : NoGos Try.prog := by
  have h : (Try.prog.funcs.toList.all fun fn => !(fn.name == "runtime.NumGoroutine")) = true := by kernel_rfl
  intro f fn hf
  have hm : fn ∈ Try.prog.funcs.toList := by
    have := Array.mem_of_getElem? hf
    exact Array.mem_toList_iff.2 this
  have := List.all_eq_true.1 h fn hm
  simpa using this
theorem mixedOrders : Try.prog.follows .mixedOrders = true := by kernel_rfl
end Go.Proofs.Ytmmpnjcmaodkcaa.Ef
/- What is proved: a contract from a function's own evaluation: of numbers alone, and the memory stays. Conditions: stated with the rule. -/
namespace Go.Proofs.Ytmmpnjcmaodkcaa.Ef
open Go Go.RowKit Go.Proofs.Ytmmpnjcmaodkcaa.Sep Go.Proofs.Ytmmpnjcmaodkcaa.Num Go.Proofs.Ytmmpnjcmaodkcaa.Mem
open Go.Proofs.Ytmmpnjcmaodkcaa.Ev (Fast)
set_option maxRecDepth 100000
set_option linter.unusedVariables false
set_option linter.unusedSimpArgs false
set_option linter.unusedSectionVars false
def mtArgs : List SV → List SV → Mt → Mt
  | .a (.one c) :: r, .a (.one d) :: s, m => mtArgs r s (mtC 0 c d m)
  | .a (.agg c) :: r, .a (.agg d) :: s, m => mtArgs r s (mtCs 0 c d m)
  | _ :: r, _ :: s, m => mtArgs r s m
  | _, _, m => m
section
variable [Ext] [Exp]
def SV.subV (σ : List (Nat × Tm)) (τ : List (Nat × SC)) : SV → SV
  | .a (.one c) => .a (.one (c.sub σ τ []))
  | .a (.agg l) => .a (.agg (l.map (SC.sub σ τ [])))
  | v => v
def chArgs (m : Mt) : List SV → List SV → Bool
  | [], [] => true
  | x :: r, y :: s => bif chV ⟨m.σ, m.τ, []⟩ x y then chArgs m r s else false
  | _, _ => false
def okRes : SV → Bool
  | .a (.one c) => SC.wfB 0 c
  | .a (.agg l) => lwfB 0 l
  | _ => false
def subPi (σ : List (Nat × Tm)) : Pi → List Tm
  | [] => []
  | (c, true) :: r => c.sub σ :: subPi σ r
  | (c, false) :: r => mkNot (c.sub σ) :: subPi σ r
/-- A function of numbers that leaves the memory: what it answers, by a pattern. -/
def cTm (pargs : List SV) (pre : Pi) (res : SV) : CtrAt := fun args s =>
  match mtArgs pargs args ⟨[], [], []⟩ with
  | ⟨σ, _, _⟩ => bif chArgs ⟨σ, [], []⟩ pargs args && okRes res then some (needs s.pi (subPi σ pre) (frcV (res.subV σ []) fun v => .done (v, s))) else none
variable [V : Vars]
theorem chArgs_ok {m : Mt} {β : Bl} : ∀ {p a : List SV}, chArgs m p a = true → a.map (SV.den β) = p.map (@SV.den _ (Ef.subV m.σ m.τ β) β)
  | [], [], _ => rfl
  | [], _ :: _, h => by cases h
  | _ :: _, [], h => by cases h
  | x :: r, y :: s, h => by
    unfold chArgs at h
    rw [Bool.cond_eq_ite] at h
    split at h
    · rename_i hc
      have h1 := (chV_ok hc β).1
      have e : subN [] β = β := rfl
      rw [List.map_cons, List.map_cons, chArgs_ok h, h1]
      rfl
    · cases h
theorem subPi_ok {σ : List (Nat × Tm)} {β : Bl} : ∀ {pre : Pi}, (∀ p ∈ subPi σ pre, p.tv = true) → @facts _ (Ef.subV σ [] β) pre
  | [], _ => fun q hq => by cases hq
  | (c, b) :: r, h => by
    intro q hq
    have ih : @facts _ (Ef.subV σ [] β) r := subPi_ok fun p hp => h p (by cases b <;> exact List.mem_cons_of_mem _ hp)
    rcases List.mem_cons.1 hq with rfl | hq
    · cases b with
      | true =>
        have := h _ (List.mem_cons_self ..)
        rw [sub_tv σ [] β] at this
        exact this
      | false =>
        have := h _ (List.mem_cons_self ..)
        rw [mkNot_tv, sub_tv σ [] β] at this
        simpa using this
    · exact ih q hq
theorem subV_wf {σ : List (Nat × Tm)} {v : SV} (h : okRes v = true) (n : Nat) : (v.subV σ []).wf n ∧ (v.subV σ []).isTop = false := by
  have one : ∀ c : SC, SC.wfB 0 c = true → (c.sub σ [] []).wf n := by
    intro c hc
    cases c <;> simp only [SC.wfB, SC.sub, SC.wf] at * <;> first
      | trivial
      | (exact absurd (Nat.le_of_ble_eq_true hc) (by omega))
      | (rw [Bool.cond_eq_ite] at hc
         split at hc
         · rename_i a c h1
           refine ⟨fun p hp => ?_, fun p hp => ?_⟩
           · obtain ⟨q, hq, rfl⟩ := List.mem_map.1 hp
             exact absurd (bltAll_ok h1 q hq) (Nat.not_lt_zero _)
           · obtain ⟨q, hq, rfl⟩ := List.mem_map.1 hp
             exact absurd (bltAll_ok hc q hq) (Nat.not_lt_zero _)
         · cases hc)
  have all : ∀ l : List SC, lwfB 0 l = true → lwf n (l.map (SC.sub σ [] [])) := by
    intro l
    induction l with
    | nil => exact fun _ c hc => by cases hc
    | cons c r ih =>
      intro h c' hc
      unfold lwfB at h
      rw [Bool.cond_eq_ite] at h
      split at h
      · rename_i h1
        rcases List.mem_cons.1 hc with rfl | hc
        · exact one c h1
        · exact ih h c' hc
      · cases h
  unfold okRes at h
  split at h
  · exact ⟨one _ h, rfl⟩
  · exact ⟨all _ h, rfl⟩
  · cases h
theorem subV_den {σ : List (Nat × Tm)} {v : SV} (h : okRes v = true) (β : Bl) : (v.subV σ []).den β = @SV.den _ (Ef.subV σ [] β) β v := by
  unfold okRes at h
  split at h
  · rename_i c
    exact subC_den σ [] [] β c
  · rename_i l
    show Value.agg (dens β (l.map (SC.sub σ [] []))) = .agg (@dens _ (Ef.subV σ [] β) β l)
    unfold dens
    rw [List.map_map]
    congr 2
    exact List.map_congr_left fun c _ => subC_den σ [] [] β c
  · cases h
end
section
variable [Ext] [Exp] [Vars]
theorem cTm_ok {P : Program} {f : Nat} {pargs : List SV} {pre : Pi} {res : SV}
    (h : ∀ (V : Vars) (β : Bl) (w : World) (R : HProp), @facts _ V pre → Holds w R → Calls P f (pargs.map (@SV.den _ V β)).toArray w fun e w' => e = .returned (@SV.den _ V β res) ∧ Holds w' R ∧ Strm w w') : CAtOk P f (cTm pargs pre res) := by
  intro args s t ht L β hl ha htp w R hw Q hk
  unfold cTm at ht
  split at ht
  · rename_i σ _ _ _
    rw [Bool.cond_eq_ite] at ht
    split at ht
    · rename_i hc
      rw [Bool.and_eq_true] at hc
      simp only [Option.some.injEq, frcV_eq] at ht
      subst ht
      obtain ⟨h1, h2⟩ := needs_leads hw.pi hl
      have e := chArgs_ok (β := β) hc.1
      rw [e]
      refine (h (Ef.subV σ [] β) β w _ (subPi_ok h1) hw.hold).mono ?_
      rintro e w' ⟨rfl, g1, g2⟩
      have := hk β (res.subV σ []) s w' h2 (subV_wf hc.2 _).1 (subV_wf hc.2 0).2 ⟨Ag.refl _ _, Nat.le_refl _, ⟨hw.pi, hw.wf, g1⟩, g2⟩
      rw [subV_den hc.2] at this
      exact this
    · cases ht
/-- Its evaluation. -/
def svBeq : SV → SV → Bool
  | .a (.one c), .a (.one d) => SC.beq c d
  | .a (.agg c), .a (.agg d) => csBeq c d
  | _, _ => false
theorem svBeq_ok {x y : SV} (h : svBeq x y = true) : x = y := by
  unfold svBeq at h
  split at h
  · rw [SC.beq_eq h]
  · rw [csBeq_eq h]
  · cases h
def noNs : List SV → Bool
  | [] => true
  | v :: r => bif okRes v then noNs r else false
end
section
variable [Ext] [Exp]
def evT (P : Program) [Fast P] [Ab P] (Γ : Ctr) (mf : Nat → Bool) (g f : Nat) (args : List SV) (s : St) : Rt := callBy P ctrNone (fun _ => true) (fun mg => evCode P Γ mf g mg) f args s
theorem okRes_ext [Vars] {v : SV} (h : okRes v = true) (β β' : Bl) : v.den β' = v.den β := by
  have hag : Ag 0 β β' := fun m hm => absurd hm (Nat.not_lt_zero _)
  have one : ∀ c : SC, SC.wfB 0 c = true → c.wf 0 := fun c hc => SC.wfB_ok hc
  unfold okRes at h
  split at h
  · rename_i c
    exact SC.ext hag (SC.wfB_ok h)
  · rename_i l
    show Value.agg (dens β' l) = .agg (dens β l)
    rw [dens_ext hag (lwfB_ok h)]
  · cases h
def knownC (π : Pi) : SC → SC
  | .int k t => .int k (known1 π t)
  | .bool t => .bool (known1 π t)
  | c => c
def knownV (π : Pi) : SV → SV
  | .a (.one c) => .a (.one (knownC π c))
  | .a (.agg l) => .a (.agg (l.map (knownC π)))
  | v => v
theorem knownC_den [Vars] {π : Pi} (hπ : facts π) (β : Bl) (c : SC) : (knownC π c).den β = c.den β := by
  cases c <;> simp only [knownC, SC.den, Tm.v, Tm.tv, known1_den hπ]
theorem knownV_den [Vars] {π : Pi} (hπ : facts π) (β : Bl) (v : SV) : (knownV π v).den β = v.den β := by
  unfold knownV
  split
  · exact knownC_den hπ β _
  · rename_i l
    show Value.agg (dens β _) = .agg (dens β l)
    unfold dens
    rw [List.map_map]
    congr 2
    exact List.map_congr_left fun c _ => knownC_den hπ β c
  · rfl
theorem tm_calls {P : Program} [Fast P] [Ab P] [okP : ∀ [Vars], AbOk P] (hn : NoGos P) (hm : P.follows .mixedOrders = true) {Γ : Ctr} (hΓ : ∀ V : Vars, @CtrOk _ V P Γ) (mf : Nat → Bool) (g : Nat) {f : Nat} {pargs : List SV} {pre : Pi} {res : SV}
    (hp : noNs pargs = true) (hr : okRes res = true)
    (chk : (evT P Γ mf g f pargs ⟨pre, [], 0⟩).allB (fun q => svBeq (knownV q.2.pi q.1) (knownV q.2.pi res)) = true) :
    ∀ (V : Vars) (β : Bl) (w : World) (R : HProp), @facts _ V pre → Holds w R → Calls P f (pargs.map (@SV.den _ V β)).toArray w fun e w' => e = .returned (@SV.den _ V β res) ∧ Holds w' R ∧ Strm w w' := by
  intro V β w R hpre hR
  have hpa : ∀ {l : List SV}, noNs l = true → ∀ x ∈ l, okRes x = true := by
    intro l
    induction l with
    | nil => exact fun _ x hx => by cases hx
    | cons v r ih =>
      intro h x hx
      unfold noNs at h
      rw [Bool.cond_eq_ite] at h
      split at h
      · rename_i h1
        rcases List.mem_cons.1 hx with rfl | hx
        · exact h1
        · exact ih h x hx
      · cases h
  have hwt : ∀ x : SV, okRes x = true → x.wf 0 ∧ x.isTop = false := by
    intro x h
    unfold okRes at h
    split at h
    · exact ⟨SC.wfB_ok h, rfl⟩
    · exact ⟨lwfB_ok h, rfl⟩
    · cases h
  have hat : At β (⟨pre, [], 0⟩ : St) w R := ⟨hpre, fun q hq => (by cases hq), hR.cast (by show R = emp * R; rw [star_comm, star_emp])⟩
  refine callBy_ok (ctrNone_ok P) (fun mg => evCode_ok hn hm (hΓ V) mf g mg) f pargs ⟨pre, [], 0⟩ _ β (allB_leads chk) (fun x hx => (hwt x (hpa hp x hx)).1) (fun x hx => (hwt x (hpa hp x hx)).2) w R hat _ fun β' v s' w' h1 h2 h3 h4 => ?_
  have e := svBeq_ok h1
  simp only at e
  have hp := h4.at_.pi
  have e1 := knownV_den hp β' v
  have e2 := knownV_den hp β' res
  rw [e] at e1
  exact ⟨by rw [← e1, e2, okRes_ext hr β β'], h4.at_.hold.drop, h4.st⟩
end
end Go.Proofs.Ytmmpnjcmaodkcaa.Ef
/- What is proved: nothing; what a value of the statements of layers 13 to 15 is. Conditions: none. -/
namespace Go.Proofs.Ytmmpnjcmaodkcaa.Num
open Go
def opVal3 (k n : Int) : Int × Int :=
  if kindOf k 3 < 1 then (0, kindOf n 10) else if kindOf k 3 < 2 then (1, 0) else (1, if kindOf n 3 < 1 then 96 else if kindOf n 3 < 2 then 100 else 112)
theorem opVal3_1 (k n : Int) : 0 ≤ (opVal3 k n).1 ∧ (opVal3 k n).1 ≤ 1 := by
  unfold opVal3
  split
  · simp
  · split <;> simp
theorem opVal3_2 (k n : Int) : 0 ≤ (opVal3 k n).2 ∧ (opVal3 k n).2 ≤ 112 := by
  have h1 := kindOf_lo n 10 (by omega)
  have h2 := kindOf_hi n 10 (by omega)
  unfold opVal3
  split
  · simp only; omega
  · split
    · simp
    · simp only
      split
      · omega
      · split <;> omega
end Go.Proofs.Ytmmpnjcmaodkcaa.Num
/- What is proved: what the scalars of the statements of layers 13 to 15 are, and that the document's examples hold, by the second evaluator. Conditions: none. -/
namespace Go.Proofs.Ytmmpnjcmaodkcaa.Ef
open Go Go.RowKit Go.Proofs.Ytmmpnjcmaodkcaa.Sep Go.Proofs.Ytmmpnjcmaodkcaa.Num Go.Proofs.Ytmmpnjcmaodkcaa.Mem
open Go.Proofs.Ytmmpnjcmaodkcaa.Ev (Fast)
set_option maxRecDepth 100000
set_option linter.unusedVariables false
def lawV1 (n : Nat) (x : U Om) : U Om := if n = 101 then .i (opVal3 x.fst.int x.snd.int).1 else if n = 102 then .i (opVal3 x.fst.int x.snd.int).2 else x
def lawG1 (n : Nat) : Rg := bif Nat.beq n 101 then rg 0 1 else bif Nat.beq n 102 then rg 0 112 else .top
theorem lawG1_ok (n : Nat) (u : U Om) : (lawG1 n).has (lawV1 n u).int := by
  unfold lawG1 lawV1
  rw [Bool.cond_eq_ite, Bool.cond_eq_ite]
  split
  · rename_i h
    have h := Nat.eq_of_beq_eq_true h
    subst h
    exact rg_has (opVal3_1 _ _)
  · split
    · rename_i h
      have h := Nat.eq_of_beq_eq_true h
      subst h
      exact rg_has (opVal3_2 _ _)
    · exact Rg.top_has _
@[reducible] def extL : Ext := ⟨lawV1, fun _ x _ => x, fun _ _ _ _ => Sep.emp, lawG1, fun _ => .top, lawG1_ok, fun _ _ _ => Rg.top_has _⟩
instance : Ext := extL
def isW (x : Nat) : Pi := [(.a2 .lt (.var x) (.lit (-9223372036854775808)), false), (.a2 .lt (.var x) (.lit 9223372036854775808), true)]
def sel3 (c x y : Tm) : Tm := .a2 .sel c (.a2 .pair x y)
def lt3 (x : Tm) (n : Int) : Tm := .a2 .lt (i1 1003 x) (.lit n)
def val1 (k n : Tm) : Tm := sel3 (lt3 k 1) (.lit 0) (.lit 1)
def val2 (k n : Tm) : Tm := sel3 (lt3 k 1) (i1 1010 n) (sel3 (lt3 k 2) (.lit 0) (sel3 (lt3 n 1) (.lit 96) (sel3 (lt3 n 2) (.lit 100) (.lit 112))))
def valRes : SV := .a (.agg [.int .i64 (i1 101 (.a2 .pair (.var 0) (.var 1))), .int .i64 (i1 102 (.a2 .pair (.var 0) (.var 1)))])
def valRes0 : SV := .a (.agg [.int .i64 (val1 (.var 0) (.var 1)), .int .i64 (val2 (.var 0) (.var 1))])
def valArg : List SV := [.a (.agg [.int .i64 (.var 0), .int .i64 (.var 1)])]
theorem lt3_tv [Vars] (x : Tm) (n : Int) : (lt3 x n).tv = decide (kindOf x.v 3 < n) := rfl
theorem sel3_v [Vars] (c x y : Tm) (p : Prop) [Decidable p] (h : c.tv = decide p) : (sel3 c x y).v = if p then x.v else y.v := by
  show (bif c.tv then x.den else y.den).int = _
  rw [h]
  by_cases hp : p
  · rw [if_pos hp, decide_eq_true hp]; rfl
  · rw [if_neg hp, decide_eq_false hp]; rfl
theorem val1_v [Vars] (k n : Tm) : (val1 k n).v = (i1 101 (.a2 .pair k n)).v := by
  show _ = (opVal3 k.v n.v).1
  unfold val1 opVal3
  rw [sel3_v _ _ _ _ (lt3_tv k 1)]
  split
  · rfl
  · split <;> rfl
theorem val2_v [Vars] (k n : Tm) : (val2 k n).v = (i1 102 (.a2 .pair k n)).v := by
  show _ = (opVal3 k.v n.v).2
  unfold val2 opVal3
  rw [sel3_v _ _ _ _ (lt3_tv k 1), sel3_v _ _ _ _ (lt3_tv k 2), sel3_v _ _ _ _ (lt3_tv n 1), sel3_v _ _ _ _ (lt3_tv n 2)]
  split
  · rfl
  · split
    · rfl
    · rfl
theorem val1_den [Vars] (k n : Tm) : (val1 k n).den = (i1 101 (.a2 .pair k n)).den := by
  have h := val1_v k n
  have : ∃ x, (val1 k n).den = .i x := by
    show ∃ x, (bif (lt3 k 1).tv then (U.i 0 : UM) else .i 1) = .i x
    cases (lt3 k 1).tv <;> exact ⟨_, rfl⟩
  obtain ⟨x, hx⟩ := this
  have e : (i1 101 (.a2 .pair k n)).den = .i (i1 101 (.a2 .pair k n)).v := rfl
  rw [e, ← h, Tm.v, hx]
  rfl
theorem val2_den [Vars] (k n : Tm) : (val2 k n).den = (i1 102 (.a2 .pair k n)).den := by
  have h := val2_v k n
  have : ∃ x, (val2 k n).den = .i x := by
    show ∃ x, (bif (lt3 k 1).tv then (i1 1010 n).den else (bif (lt3 k 2).tv then (U.i 0 : UM) else (bif (lt3 n 1).tv then (U.i 96 : UM) else (bif (lt3 n 2).tv then (U.i 100 : UM) else .i 112)))) = .i x
    cases (lt3 k 1).tv
    · cases (lt3 k 2).tv
      · cases (lt3 n 1).tv
        · cases (lt3 n 2).tv <;> exact ⟨_, rfl⟩
        · exact ⟨_, rfl⟩
      · exact ⟨_, rfl⟩
    · exact ⟨kindOf n.v 10, rfl⟩
  obtain ⟨x, hx⟩ := this
  have e : (i1 102 (.a2 .pair k n)).den = .i (i1 102 (.a2 .pair k n)).v := rfl
  rw [e, ← h, Tm.v, hx]
  rfl
/-- Numbers of scalars, which words tell as they are. -/
def isKd : Tm → Bool
  | .lit n => intLe 0 n && intLe n 3
  | .a1 (.usr f) _ => Nat.beq f 101
  | .a2 .sel _ (.a2 .pair x y) => bif isKd x then isKd y else false
  | _ => false
def isNr : Tm → Bool
  | .lit n => intLe 0 n && intLe n 2305843009213693951
  | .a1 (.usr f) _ => Nat.beq f 102 || Nat.beq f 1010
  | .a2 .sel _ (.a2 .pair x y) => bif isNr x then isNr y else false
  | _ => false
theorem isKd_ok [Vars] : ∀ {t : Tm}, isKd t = true → t.den = .i t.v ∧ 0 ≤ t.v ∧ t.v ≤ 3
  | .lit n, h => by
    unfold isKd at h
    rw [Bool.and_eq_true] at h
    exact ⟨rfl, of_decide_eq_true h.1, of_decide_eq_true h.2⟩
  | .bl _, h => by cases h
  | .var _, h => by cases h
  | .a1 f x, h => by
    unfold isKd at h
    split at h
    · rename_i e; cases e
    · rename_i f' y e
      cases e
      have h := Nat.eq_of_beq_eq_true h
      subst h
      have := opVal3_1 x.den.fst.int x.den.snd.int
      refine ⟨rfl, this.1, ?_⟩
      have h2 : (i1 101 x).v ≤ 1 := this.2
      show (i1 101 x).v ≤ 3
      omega
    · rename_i e; cases e
    · cases h
  | .a2 f c z, h => by
    unfold isKd at h
    split at h
    · rename_i e; cases e
    · rename_i e; cases e
    · rename_i c' x y e
      cases e
      rw [Bool.cond_eq_ite] at h
      split at h
      · rename_i hx
        obtain ⟨a1, a2, a3⟩ := isKd_ok hx
        obtain ⟨b1, b2, b3⟩ := isKd_ok h
        show (bif c.tv then x.den else y.den) = .i (bif c.tv then x.den else y.den).int ∧ 0 ≤ (bif c.tv then x.den else y.den).int ∧ (bif c.tv then x.den else y.den).int ≤ 3
        cases c.tv
        · exact ⟨b1, b2, b3⟩
        · exact ⟨a1, a2, a3⟩
      · cases h
    · cases h
theorem isNr_ok [Vars] : ∀ {t : Tm}, isNr t = true → t.den = .i t.v ∧ 0 ≤ t.v ∧ t.v ≤ 2305843009213693951
  | .lit n, h => by
    unfold isNr at h
    rw [Bool.and_eq_true] at h
    exact ⟨rfl, of_decide_eq_true h.1, of_decide_eq_true h.2⟩
  | .bl _, h => by cases h
  | .var _, h => by cases h
  | .a1 f x, h => by
    unfold isNr at h
    split at h
    · rename_i e; cases e
    · rename_i f' y e
      cases e
      rw [Bool.or_eq_true] at h
      rcases h with h | h
      · have h := Nat.eq_of_beq_eq_true h
        subst h
        have := opVal3_2 x.den.fst.int x.den.snd.int
        refine ⟨rfl, this.1, ?_⟩
        have h2 : (i1 102 x).v ≤ 112 := this.2
        show (i1 102 x).v ≤ _
        omega
      · have h := Nat.eq_of_beq_eq_true h
        subst h
        have e : (i1 1010 x).v = kindOf x.v 10 := rfl
        have k1 := kindOf_lo x.v 10 (by omega)
        have k2 := kindOf_hi x.v 10 (by omega)
        refine ⟨rfl, ?_, ?_⟩
        · show 0 ≤ (i1 1010 x).v; omega
        · show (i1 1010 x).v ≤ _; omega
    · rename_i e; cases e
    · cases h
  | .a2 f c z, h => by
    unfold isNr at h
    split at h
    · rename_i e; cases e
    · rename_i e; cases e
    · rename_i c' x y e
      cases e
      rw [Bool.cond_eq_ite] at h
      split at h
      · rename_i hx
        obtain ⟨a1, a2, a3⟩ := isNr_ok hx
        obtain ⟨b1, b2, b3⟩ := isNr_ok h
        show (bif c.tv then x.den else y.den) = .i (bif c.tv then x.den else y.den).int ∧ 0 ≤ (bif c.tv then x.den else y.den).int ∧ (bif c.tv then x.den else y.den).int ≤ _
        cases c.tv
        · exact ⟨b1, b2, b3⟩
        · exact ⟨a1, a2, a3⟩
      · cases h
    · cases h
/-- The scalars' kinds and numbers, by their definition; what a word tells that was made of them. -/
def exV : Tm → Option Tm
  | .a1 (.usr f) (.a2 .pair k n) => bif Nat.beq f 101 then some (val1 k n) else bif Nat.beq f 102 then some (val2 k n) else none
  | .a1 (.usr f) (.a2 (.usr g) k n) => bif Nat.beq g 1 then (bif Nat.beq f 1 then (bif isKd k then some k else none) else bif Nat.beq f 2 then (bif isNr n then some n else none) else none) else none
  | _ => none
theorem exV_ok [Vars] (x y : Tm) (h : exV x = some y) : y.den = x.den := by
  unfold exV at h
  split at h
  · rename_i f k n
    rw [Bool.cond_eq_ite, Bool.cond_eq_ite] at h
    split at h
    · rename_i hf; have hf := Nat.eq_of_beq_eq_true hf; subst hf; cases h; exact val1_den k n
    · split at h
      · rename_i hf; have hf := Nat.eq_of_beq_eq_true hf; subst hf; cases h; exact val2_den k n
      · cases h
  · rename_i f g k n
    rw [Bool.cond_eq_ite] at h
    split at h
    · rename_i hg
      have hg := Nat.eq_of_beq_eq_true hg
      subst hg
      rw [Bool.cond_eq_ite] at h
      split at h
      · rename_i hf; have hf := Nat.eq_of_beq_eq_true hf; subst hf
        rw [Bool.cond_eq_ite] at h
        split at h
        · rename_i hk
          have h := Option.some.inj h
          subst h
          obtain ⟨a1, a2, a3⟩ := isKd_ok hk
          show _ = U.i (vK (sW k.v n.v))
          rw [a1, vK_sW _ _ (by omega) (by omega)]
        · cases h
      · rw [Bool.cond_eq_ite] at h
        split at h
        · rename_i hf; have hf := Nat.eq_of_beq_eq_true hf; subst hf
          rw [Bool.cond_eq_ite] at h
          split at h
          · rename_i hk
            have h := Option.some.inj h
            subst h
            obtain ⟨a1, a2, a3⟩ := isNr_ok hk
            show _ = U.i (vN (cl64 (sW k.v n.v)))
            rw [a1, cl64_in ⟨sW_lo _ _, sW_hi _ _⟩, vN_sW _ _ (by omega) (by omega)]
          · cases h
        · cases h
    · cases h
  · cases h
instance : Exp := ⟨exV, fun x y h => exV_ok x y h⟩
instance (P : Program) [Fast P] : Ab P := abM P
instance (P : Program) [Fast P] [Vars] : AbOk P := abM_ok P
theorem shown_tm : ∀ (V : Vars) (β : Bl) (w : World) (R : HProp), @facts _ V ([]) → Holds w R → Calls Try.prog 8 ((([] : List SV)).map (@SV.den _ V β)).toArray w fun e w' => e = .returned (@SV.den _ V β (.c (.bool (.bl true)))) ∧ Holds w' R ∧ Strm w w' :=
  tm_calls (P := Try.prog) noGos mixedOrders (fun _ => Γb_ok) (fun _ => false) 1000 (f := 8) (pargs := []) (pre := []) (res := .c (.bool (.bl true))) (by kernel_rfl) (by kernel_rfl) (by kernel_rfl)
theorem val_tm0 : ∀ (V : Vars) (β : Bl) (w : World) (R : HProp), @facts _ V (isW 0 ++ isW 1) → Holds w R → Calls Try.prog 19 ((valArg).map (@SV.den _ V β)).toArray w fun e w' => e = .returned (@SV.den _ V β (valRes0)) ∧ Holds w' R ∧ Strm w w' :=
  tm_calls (P := Try.prog) noGos mixedOrders (fun _ => Γb_ok) (fun _ => false) 1000 (f := 19) (pargs := valArg) (pre := isW 0 ++ isW 1) (res := valRes0) (by kernel_rfl) (by kernel_rfl) (by kernel_rfl)
theorem val_tm : ∀ (V : Vars) (β : Bl) (w : World) (R : HProp), @facts _ V (isW 0 ++ isW 1) → Holds w R → Calls Try.prog 19 ((valArg).map (@SV.den _ V β)).toArray w fun e w' => e = .returned (@SV.den _ V β (valRes)) ∧ Holds w' R ∧ Strm w w' := by
  intro V β w R hp hR
  have e : @SV.den _ V β valRes0 = @SV.den _ V β valRes := by
    show Value.agg #[.int .i64 (@Tm.v _ V (val1 (.var 0) (.var 1))), .int .i64 (@Tm.v _ V (val2 (.var 0) (.var 1)))] = _
    rw [@val1_v V, @val2_v V]
    rfl
  rw [← e]
  exact val_tm0 V β w R hp hR
def Γ1 : Ctr := ctrCons 8 (cTm [] [] (.c (.bool (.bl true)))) <| ctrCons 19 (cTm valArg (isW 0 ++ isW 1) valRes) Γb
theorem Γ1_ok [Vars] : CtrOk Try.prog Γ1 := ctrCons_ok (cTm_ok shown_tm) (ctrCons_ok (cTm_ok val_tm) Γb_ok)
/-- An access of a statement: fifteen numbers. -/
def opVs (i : Nat) : Nat → List SC
  | 0 => []
  | n + 1 => .int .i64 (.var i) :: opVs (i + 1) n
def opWs (i : Nat) : Nat → Pi
  | 0 => []
  | n + 1 => isW i ++ opWs (i + 1) n
def opArg : List SV := [.a (.agg (opVs 0 15))]
def lt4 (x : Tm) (n : Int) : Tm := .a2 .lt (i1 1004 x) (.lit n)
def atT (x : Tm) : Tm := sel3 (lt4 x 1) (.lit 96) (sel3 (lt4 x 2) (.lit 96) (sel3 (lt4 x 3) (.lit 100) (.lit 0)))
def valC (k n : Nat) : List SC := [.int .i64 (i1 101 (.a2 .pair (.var k) (.var n))), .int .i64 (i1 102 (.a2 .pair (.var k) (.var n)))]
def reqRes : SV := .a (.agg ([.int .i64 (.a2 .add (.a2 .rem (i1 1004 (.var 2)) (.lit 3)) (.lit 1)), .int .i64 (atT (.var 0)), .int .i64 (i1 1004 (.var 1))] ++ valC 4 5 ++ valC 6 7))
def envRes : SV := .a (.agg [.int .i64 (i1 1009 (.var 3)), .int .i64 (sel3 (.a2 .lt (i1 1002 (.var 3)) (.lit 1)) (.lit 0) (.lit 1)), .int .i64 (.lit 9)])
theorem req_tm : ∀ (V : Vars) (β : Bl) (w : World) (R : HProp), @facts _ V (opWs 0 15) → Holds w R → Calls Try.prog 16 ((opArg).map (@SV.den _ V β)).toArray w fun e w' => e = .returned (@SV.den _ V β (reqRes)) ∧ Holds w' R ∧ Strm w w' :=
  tm_calls (P := Try.prog) noGos mixedOrders (fun _ => Γ1_ok) (fun _ => false) 1000 (f := 16) (pargs := opArg) (pre := opWs 0 15) (res := reqRes) (by kernel_rfl) (by kernel_rfl) (by kernel_rfl)
theorem env_tm : ∀ (V : Vars) (β : Bl) (w : World) (R : HProp), @facts _ V (opWs 0 15) → Holds w R → Calls Try.prog 26 ((opArg).map (@SV.den _ V β)).toArray w fun e w' => e = .returned (@SV.den _ V β (envRes)) ∧ Holds w' R ∧ Strm w w' :=
  tm_calls (P := Try.prog) noGos mixedOrders (fun _ => Γ1_ok) (fun _ => false) 1000 (f := 26) (pargs := opArg) (pre := opWs 0 15) (res := envRes) (by kernel_rfl) (by kernel_rfl) (by kernel_rfl)
def Γ2 : Ctr := ctrCons 16 (cTm opArg (opWs 0 15) reqRes) <| ctrCons 26 (cTm opArg (opWs 0 15) envRes) Γ1
theorem Γ2_ok [Vars] : CtrOk Try.prog Γ2 := ctrCons_ok (cTm_ok req_tm) (ctrCons_ok (cTm_ok env_tm) Γ1_ok)
end Go.Proofs.Ytmmpnjcmaodkcaa.Ef
/- What is proved: how a statement's walk begins and ends: its arguments as rows and numbers, the memory that lay there before stays. Conditions: stated with each lemma. -/
namespace Go.Proofs.Ytmmpnjcmaodkcaa.Ef
open Go Go.RowKit Go.Proofs.Ytmmpnjcmaodkcaa.Sep Go.Proofs.Ytmmpnjcmaodkcaa.Num Go.Proofs.Ytmmpnjcmaodkcaa.Mem
open Go.Proofs.Ytmmpnjcmaodkcaa.Ev (Fast)
set_option maxRecDepth 100000
set_option linter.unusedVariables false
set_option linter.unusedSectionVars false
/-- A whole number of 64 bits; one that is not negative. -/
def iv (x : Nat) : Tm := i1 31 (.var x)
def nv (x : Nat) : Tm := i1 32 (.var x)
def flatv (b : Nat) : Nat → List SC
  | 0 => []
  | n + 1 => .int .i64 (iv b) :: flatv (b + 1) n
def p2 (x y : Tm) : Tm := .a2 .pair x y
/-- A row's record: row, offset, length, cells an element. -/
def rowT (r : Nat) (st : Int) : Tm := p2 (.var r) (p2 (.var (r + 1)) (p2 (nv (r + 2)) (.lit st)))
def rowV (nm r : Nat) : SC := .sliceQ nm (.var (r + 1)) (nv (r + 2)) (.var (r + 3))
section
variable [Ext] [V : Vars]
theorem facts_nil : facts [] := fun q hq => by cases hq
theorem iv_v {x : Nat} (h : -9223372036854775808 ≤ (Tm.var x).v ∧ (Tm.var x).v ≤ 9223372036854775807) : (iv x).v = (Tm.var x).v := ci64_in h
theorem row_rec {w : World} {B : Nat} {l : List Int} {off st : Int} {n b : Nat} (h : RowOk w B l off (n : Int) st b) : RowOk w B l off (if (n : Int) < 0 then 0 else (n : Int)) st b := by
  rw [if_neg (by omega)]; exact h
theorem nv_v {x : Nat} (h : 0 ≤ (Tm.var x).v) : (nv x).v = (Tm.var x).v := by
  show (if (Tm.var x).v < 0 then 0 else (Tm.var x).v) = _
  rw [if_neg (by omega)]
theorem flatv_den (β : Bl) : ∀ {n b : Nat} {l : List Int}, l.length = n → (∀ j, j < n → (Tm.var (b + j)).v = l.getD j 0) → (∀ x ∈ l, -9223372036854775808 ≤ x ∧ x ≤ 9223372036854775807) → (flatv b n).map (SC.den β) = l.map (Value.int .i64)
  | 0, b, l, hl, _, _ => by rw [List.length_eq_zero_iff.1 hl]; rfl
  | n + 1, b, [], hl, _, _ => by simp at hl
  | n + 1, b, x :: r, hl, h, hr => by
    have h0 := h 0 (by omega)
    have e := flatv_den β (n := n) (b := b + 1) (l := r) (by simpa using hl) (fun j hj => by
      have := h (j + 1) (by omega)
      rw [show b + 1 + j = b + (j + 1) by omega, this]; simp) fun y hy => hr y (List.mem_cons_of_mem _ hy)
    show Value.int .i64 (iv b).v :: (flatv (b + 1) n).map (SC.den β) = _
    rw [e]
    have : (Tm.var b).v = x := by simpa using h0
    rw [iv_v (by rw [this]; exact hr x (List.mem_cons_self ..)), this]
    rfl
theorem flat_den {β : Bl} {b n : Nat} {v : Value} {l : List Int} (h : FlatIs v n l) (hv : ∀ j, j < n → (Tm.var (b + j)).v = l.getD j 0) : (SV.a (.agg (flatv b n))).den β = v := by
  show Value.agg (dens β (flatv b n)) = v
  rw [dens, flatv_den β h.2.1 hv h.2.2, h.1]
theorem int_den {β : Bl} {b : Nat} {x : Int} (h : -9223372036854775808 ≤ x ∧ x ≤ 9223372036854775807) (hv : (Tm.var b).v = x) : (SV.c (.int .i64 (iv b))).den β = .int .i64 x := by
  show Value.int .i64 (iv b).v = _
  rw [iv_v (by rw [hv]; exact h), hv]
theorem row_den {β : Bl} {w : World} {v : Value} {l : List Int} {len : Nat} {st : Int} {i off : Int} {cap b r nm : Nat} {ao : Option Addr} (h : RowAt w v l len st i off cap b ao) (h1 : (Tm.var (r + 1)).v = off) (h2 : (Tm.var (r + 2)).v = (len : Int)) (h3 : (Tm.var (r + 3)).v = cap) (hb : β nm = b) (ha : (len : Int) ≤ 0 → Vars.ad off = ao) :
    (SV.c (rowV nm r)).den β = v := by
  rw [h.v]
  show Value.slice (if (nv (r + 2)).v ≤ 0 then Vars.ad (Tm.var (r + 1)).v else some ⟨β nm, (Tm.var (r + 1)).v.toNat, none⟩) (nv (r + 2)).v.toNat (Tm.var (r + 3)).v.toNat = _
  rw [nv_v (by rw [h2]; omega), h1, h2, h3, hb]
  by_cases hl : (len : Int) ≤ 0
  · rw [if_pos hl, if_pos hl, ha hl]; simp
  · rw [if_neg hl, if_neg hl]; simp
end
section
variable [Ext] [Exp]
/-- The statement holds, and what was there before is there. -/
def okT (nm : Nat) (x : Tm) (ns : List Nat) (v : SV) (s : St) : Bool :=
  (match v with | .a (.one (.bool t)) => pv s.pi true t | _ => false) && (match find s.H nm with | some (.abs 9 y ms) => Tm.beq y x && nsBeq ms ns | _ => false)
theorem okT_ok {nm : Nat} {x r : Tm} {ns : List Nat} {v : SV} {s : St} (h : okT nm x ns v s = true) (hx : x = p2 (.var 0) r) {V : Vars} {β : Bl} {w w' : World} {R : HProp} (ht : @At _ V β s w' R) (h0 : oldOf (V.ρ 0) = some (w, w.heap.size)) (hs : Strm w w') :
    @SV.den _ V β v = .bool true ∧ Below w.heap.size w w' := by
  unfold okT at h
  rw [Bool.and_eq_true] at h
  obtain ⟨h1, h2⟩ := h
  refine ⟨?_, ?_⟩
  · split at h1
    · rename_i t
      have := @pv_ok _ _ V s.pi ht.pi true t h1
      show Value.bool (@Tm.tv _ V t) = _
      rw [this]
    · cases h1
  · split at h2
    · rename_i y ms hf
      rw [Bool.and_eq_true] at h2
      have e := Tm.beq_eq h2.1
      subst e
      have H := @focus _ V w' R β s.H nm _ hf ht.hold
      subst hx
      exact old_end (u := @Tm.den _ V (p2 (.var 0) r)) h0 H hs
    · cases h2
/-- The loops' own patterns: none. -/
abbrev noCut (P : Program) [Fast P] [Ab P] (Γ : Ctr) (mf : Nat → Bool) (fn : Func) (body : Code) (args : List SV) (s : St) (okV : SV → St → Bool) : Bool :=
  (evS P Γ mf 1000 [] body none (Frm.start fn.ntmps args) s).allB (okL [] [] 100 [] (fun e fr s => (ends P fn (e, fr, s)).allB fun q => okV q.1 q.2) none)
end
end Go.Proofs.Ytmmpnjcmaodkcaa.Ef
