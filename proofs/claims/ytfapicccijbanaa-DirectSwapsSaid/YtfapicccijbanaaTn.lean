/- What is proved: the rule for loops of unknown length: states at the loops' heads, each a pattern; what is between two of them by the second evaluator. Conditions: that each way from a pattern comes to a pattern at less, or to an end that is asked for. -/
import Derived.Test.YtfapicccijbanaaTm
namespace Go.Proofs.Ytfapicccijbanaa.Ef
open Go Go.Proofs.Ytfapicccijbanaa.Sep
open Go.Proofs.Ytfapicccijbanaa.Ev (Fast)
set_option linter.unusedVariables false
set_option linter.unusedSimpArgs false
set_option linter.unusedSectionVars false
def Tree.allB {α : Type} (p : α → Bool) : Tree α → Bool
  | .done x => p x
  | .ite _ a b => bif a.allB p then b.allB p else false
  | .new _ t => t.allB p
  | .both a b => bif a.allB p then b.allB p else false
  | .fail _ => false
theorem allB_leads [Interp] [Vars] {α : Type} {p : α → Bool} : ∀ {t : Tree α} {β : Bl}, t.allB p = true → t.Leads (fun _ x => p x = true) β
  | .done x, β, h => h
  | .ite c a b, β, h => by
    unfold Tree.allB at h
    rw [Bool.cond_eq_ite] at h
    split at h
    · rename_i ha; exact ⟨fun _ => allB_leads ha, fun _ => allB_leads h⟩
    · cases h
  | .new n t, β, h => fun b => allB_leads (t := t) h
  | .both a b, β, h => by
    unfold Tree.allB at h
    rw [Bool.cond_eq_ite] at h
    split at h
    · rename_i ha; exact ⟨allB_leads ha, allB_leads h⟩
    · cases h
  | .fail _, β, h => by cases h
inductive Lv where
  | at (k : Nat)
  | ex (e : Exit)
abbrev Ls := Lv × Frm × St
def keyOf : Code → Option Nat
  | .region id _ _ => some id
  | .seq a b => match keyOf a with
    | some k => some k
    | none => keyOf b
  | .block _ c => keyOf c
  | .scope c => keyOf c
  | .loop c => keyOf c
  | .cond _ a b => match keyOf a with
    | some k => some k
    | none => keyOf b
  | _ => none
def isK (k : Nat) (c : Code) : Bool :=
  match keyOf c with
  | some j => Nat.beq j k
  | none => false
def hasKey (k : Nat) : Code → Bool
  | .seq a b => bif hasKey k a then true else hasKey k b
  | .block _ c => hasKey k c
  | .scope c => hasKey k c
  | .cond _ a b => bif hasKey k a then true else hasKey k b
  | .loop c => isK k c
  | _ => false
def memN : List Nat → Nat → Bool
  | [], _ => false
  | j :: r, i => bif Nat.beq j i then true else memN r i
def anyKey (ks : List Nat) : Code → Bool
  | .seq a b => bif anyKey ks a then true else anyKey ks b
  | .block _ c => anyKey ks c
  | .scope c => anyKey ks c
  | .cond _ a b => bif anyKey ks a then true else anyKey ks b
  | .loop c => match keyOf c with
    | some k => memN ks k
    | none => false
  | _ => false
def lift (t : Tree Ex) : Tree Ls := t.bind fun q => match q with
  | (e, fr, s) => .done (.ex e, fr, s)
/-- No loop of the first part is met from the second. -/
def late (a : Code) (t : Tree Ls) : Tree Ls := t.bind fun q => match q with
  | (.at k, fr, s) => bif hasKey k a then .fail 50 else .done (.at k, fr, s)
  | (.ex e, fr, s) => .done (.ex e, fr, s)
section
variable [Interp] [Rules]
def evS (P : Program) [Fast P] [Ab P] (Γ : Ctr) (mf : Nat → Bool) (g : Nat) (ks : List Nat) : Code → Option Nat → Frm → St → Tree Ls
  | .seq a b, none, fr, s => (evS P Γ mf g ks a none fr s).bind fun q => match q with
    | (.ex .normal, fr, s) => late a (evS P Γ mf g ks b none fr s)
    | q => .done q
  | .seq a b, some k, fr, s =>
    bif hasKey k a then (evS P Γ mf g ks a (some k) fr s).bind fun q => match q with
      | (.ex .normal, fr, s) => late a (evS P Γ mf g ks b none fr s)
      | q => .done q
    else late a (evS P Γ mf g ks b (some k) fr s)
  | .block id c, st, fr, s => (evS P Γ mf g ks c st fr s).bind fun q => match q with
    | (.ex (.exit id'), fr, s) => bif Nat.beq id' id then .done (.ex .normal, fr, s) else .done (.ex (.exit id'), fr, s)
    | q => .done q
  | .scope c, st, fr, s => (evS P Γ mf g ks c st fr s).bind fun q => match q with
    | (.ex (.goto _), fr, s) => .fail 51
    | q => .done q
  | .cond x a b, none, fr, s =>
    bif anyKey ks (.cond x a b) then
      match opnd fr x with
      | .a (.one (.bool c)) => br c s.pi fun π t => bif t then evS P Γ mf g ks a none fr ⟨π, s.H, s.n⟩ else late a (evS P Γ mf g ks b none fr ⟨π, s.H, s.n⟩)
      | _ => .fail 52
    else lift (evCode P Γ mf g false (.cond x a b) fr s)
  | .cond x a b, some k, fr, s => bif hasKey k a then evS P Γ mf g ks a (some k) fr s else late a (evS P Γ mf g ks b (some k) fr s)
  | .loop c, none, fr, s =>
    match keyOf c with
    | some k => bif memN ks k then .done (.at k, fr, s) else lift (evCode P Γ mf g false (.loop c) fr s)
    | none => lift (evCode P Γ mf g false (.loop c) fr s)
  | .loop c, some k, fr, s => (evCode P Γ mf g false c fr s).bind fun q => match q with
    | (.normal, fr, s) => .done (.at k, fr, s)
    | (e, fr, s) => .done (.ex e, fr, s)
  | c, none, fr, s => lift (evCode P Γ mf g false c fr s)
  | _, some _, _, _ => .fail 53
end
/-- What has to hold at a loop's head, of so many rounds at most. -/
def wpAt (P : Program) (m k : Nat) : Code → (Exit → Act → World → Prop) → Act → World → Prop
  | .seq a b, Q => if hasKey k a = true then wpAt P m k a (Exit.then (b.wp P Q) Q) else wpAt P m k b Q
  | .block id c, Q => wpAt P m k c (Exit.inBlock id Q)
  | .scope c, Q => wpAt P m k c (Exit.noGoto Q)
  | .cond _ a b, Q => if hasKey k a = true then wpAt P m k a Q else wpAt P m k b Q
  | .loop c, Q => Code.rounds P c Q m
  | _, _ => fun _ _ => False
section
variable [Interp] [Rules] [Vars]
theorem lift_leads {L : Bl → Ls → Prop} {t : Tree Ex} {β : Bl} (h : (lift t).Leads L β) : t.Leads (fun β' q => L β' (.ex q.1, q.2.1, q.2.2)) β := Tree.Leads.mono (fun β' q h => h) (bind_leads h)
theorem late_leads {L : Bl → Ls → Prop} {a : Code} {t : Tree Ls} {β : Bl} (h : (late a t).Leads L β) : t.Leads (fun β' q => L β' q ∧ ∀ k, q.1 = .at k → hasKey k a = false) β := by
  refine Tree.Leads.mono (fun β' q h => ?_) (bind_leads h)
  obtain ⟨lv, fr, s⟩ := q
  cases lv with
  | ex e => exact ⟨h, fun k hk => by cases hk⟩
  | «at» k =>
    simp only at h
    rw [Bool.cond_eq_ite] at h
    split at h
    · exact h.elim
    · rename_i hk
      exact ⟨h, fun k' hk' => by cases hk'; simpa using hk⟩
/-- Where a way that comes to loop k' goes on. -/
def Goes (P : Program) (st : Option Nat) (m : Nat) (c : Code) (Q : Exit → Act → World → Prop) (a : Act) (w : World) (k' : Nat) : Prop :=
  (st = some k' → wpAt P m k' c Q a w) ∧ (st ≠ some k' → ∃ m', wpAt P m' k' c Q a w)
theorem Goes.imp {P : Program} {st : Option Nat} {m : Nat} {c d : Code} {Q Q' : Exit → Act → World → Prop} {a : Act} {w : World} {k' : Nat} (h : ∀ m, wpAt P m k' c Q a w → wpAt P m k' d Q' a w) (g : Goes P st m c Q a w k') : Goes P st m d Q' a w k' :=
  ⟨fun e => h _ (g.1 e), fun e => let ⟨m', x⟩ := g.2 e; ⟨m', h _ x⟩⟩
theorem Goes.none {P : Program} {m : Nat} {c : Code} {Q : Exit → Act → World → Prop} {a : Act} {w : World} {k' : Nat} {st : Option Nat} (g : Goes P st m c Q a w k') : Goes P none m c Q a w k' := by
  refine ⟨fun e => (by cases e), fun _ => ?_⟩
  by_cases h : st = some k'
  · exact ⟨m, g.1 h⟩
  · exact g.2 h
variable {P : Program} [Fast P] [Ab P] [AbOk P]
theorem evS_ok (hn : NoGos P) (hm : P.follows .mixedOrders = true) {Γ : Ctr} (hΓ : CtrOk P Γ) {mf : Nat → Bool} {g : Nat} {ks : List Nat} (m : Nat) :
    ∀ (c : Code) (st : Option Nat) (fr : Frm) (s : St) (L : Bl → Ls → Prop) (β : Bl) (a : Act) (w : World) (R : HProp) (Q : Exit → Act → World → Prop), (evS P Γ mf g ks c st fr s).Leads L β → FrIs s.n β fr a.tmps → a.defers = [] → At β s w R →
      (∀ β' e fr' s' a' w', L β' (.ex e, fr', s') → FrIs s'.n β' fr' a'.tmps → a'.defers = [] → Out β s w R β' s' w' → Q e a' w') →
      (∀ β' k' fr' s' a' w', L β' (.at k', fr', s') → hasKey k' c = true → FrIs s'.n β' fr' a'.tmps → a'.defers = [] → Out β s w R β' s' w' → Goes P st m c Q a' w' k') →
      (st = none → c.wp P Q a w) ∧ (∀ k, st = some k → hasKey k c = true → wpAt P (m + 1) k c Q a w) := by
  have leaf : ∀ (c : Code) (fr : Frm) (s : St) (L : Bl → Ls → Prop) (β : Bl) (a : Act) (w : World) (R : HProp) (Q : Exit → Act → World → Prop), (lift (evCode P Γ mf g false c fr s)).Leads L β → FrIs s.n β fr a.tmps → a.defers = [] → At β s w R →
      (∀ β' e fr' s' a' w', L β' (.ex e, fr', s') → FrIs s'.n β' fr' a'.tmps → a'.defers = [] → Out β s w R β' s' w' → Q e a' w') → c.wp P Q a w :=
    fun c fr s L β a w R Q hl hf hd hw hex => evCode_ok hn hm hΓ mf g false c fr s _ β a w R Q (lift_leads hl) hf hd hw fun β' e fr' s' a' w' h1 h2 h3 h4 => hex β' e fr' s' a' w' h1 h2 h3 h4
  intro c
  induction c with
  | seq x y ihx ihy =>
    intro st fr s L β a w R Q hl hf hd hw hex hat
    have tail : ∀ (st0 : Option Nat) {β' : Bl} {fr' : Frm} {s' : St} {a' : Act} {w' : World}, (late x (evS P Γ mf g ks y none fr' s')).Leads L β' → FrIs s'.n β' fr' a'.tmps → a'.defers = [] → Out β s w R β' s' w' → y.wp P Q a' w' := by
      intro st0 β' fr' s' a' w' h1 h2 h3 h4
      refine (ihy none fr' s' _ β' a' w' R Q (late_leads h1) h2 h3 h4.at_ (fun β'' e fr'' s'' a'' w'' k1 k2 k3 k4 => hex β'' e fr'' s'' a'' w'' k1.1 k2 k3 (h4.trans k4)) fun β'' k' fr'' s'' a'' w'' k1 kk k2 k3 k4 => ?_).1 rfl
      have hx : hasKey k' x = false := k1.2 k' rfl
      have := hat β'' k' fr'' s'' a'' w'' k1.1 (by unfold hasKey; rw [hx]; exact kk) k2 k3 (h4.trans k4)
      refine Goes.none (Goes.imp (fun m h => ?_) this)
      unfold wpAt at h
      rw [if_neg (by rw [hx]; simp)] at h
      exact h
    cases st with
    | none =>
      refine ⟨fun _ => ?_, fun k hk => by cases hk⟩
      unfold evS at hl
      refine wp_seq ((ihx none fr s _ β a w R _ (bind_leads hl) hf hd hw (fun β' e fr' s' a' w' h1 h2 h3 h4 => ?_) fun β' k' fr' s' a' w' h1 hk h2 h3 h4 => ?_).1 rfl)
      · cases e with
        | normal => exact tail none h1 h2 h3 h4
        | exit id => exact hex β' _ fr' s' a' w' h1 h2 h3 h4
        | goto l => exact hex β' _ fr' s' a' w' h1 h2 h3 h4
        | ret => exact hex β' _ fr' s' a' w' h1 h2 h3 h4
        | panic ch => exact hex β' _ fr' s' a' w' h1 h2 h3 h4
        | outgrown => exact hex β' _ fr' s' a' w' h1 h2 h3 h4
      · have := hat β' k' fr' s' a' w' h1 (by unfold hasKey; rw [hk]; rfl) h2 h3 h4
        refine Goes.imp (fun m h => ?_) this
        unfold wpAt at h
        rw [if_pos hk] at h
        exact h
    | some k =>
      refine ⟨(fun h => by cases h), fun k1 hk1 hkey => ?_⟩
      cases hk1
      unfold evS at hl
      rw [Bool.cond_eq_ite] at hl
      unfold wpAt
      split at hl
      · rename_i hkx
        rw [if_pos hkx]
        refine (ihx (some k) fr s _ β a w R _ (bind_leads hl) hf hd hw (fun β' e fr' s' a' w' h1 h2 h3 h4 => ?_) fun β' k' fr' s' a' w' h1 hk h2 h3 h4 => ?_).2 k rfl hkx
        · cases e with
          | normal => exact tail (some k) h1 h2 h3 h4
          | exit id => exact hex β' _ fr' s' a' w' h1 h2 h3 h4
          | goto l => exact hex β' _ fr' s' a' w' h1 h2 h3 h4
          | ret => exact hex β' _ fr' s' a' w' h1 h2 h3 h4
          | panic ch => exact hex β' _ fr' s' a' w' h1 h2 h3 h4
          | outgrown => exact hex β' _ fr' s' a' w' h1 h2 h3 h4
        · have := hat β' k' fr' s' a' w' h1 (by unfold hasKey; rw [hk]; rfl) h2 h3 h4
          refine Goes.imp (fun m h => ?_) this
          unfold wpAt at h
          rw [if_pos hk] at h
          exact h
      · rename_i hkx
        rw [if_neg hkx]
        have hkx' : hasKey k x = false := by simpa using hkx
        refine (ihy (some k) fr s _ β a w R Q (late_leads hl) hf hd hw (fun β' e fr' s' a' w' h1 h2 h3 h4 => hex β' e fr' s' a' w' h1.1 h2 h3 h4) fun β' k' fr' s' a' w' h1 hk h2 h3 h4 => ?_).2 k rfl (by unfold hasKey at hkey; rw [hkx'] at hkey; exact hkey)
        have hx : hasKey k' x = false := h1.2 k' rfl
        have := hat β' k' fr' s' a' w' h1.1 (by unfold hasKey; rw [hx]; exact hk) h2 h3 h4
        refine Goes.imp (fun m h => ?_) this
        unfold wpAt at h
        rw [if_neg (by rw [hx]; simp)] at h
        exact h
  | block id c ih =>
    intro st fr s L β a w R Q hl hf hd hw hex hat
    unfold evS at hl
    have := ih st fr s _ β a w R (Exit.inBlock id Q) (bind_leads hl) hf hd hw (fun β' e fr' s' a' w' h1 h2 h3 h4 => by
      cases e with
      | exit id' =>
        simp only at h1
        simp only [Exit.inBlock]
        cases hid : Nat.beq id' id with
        | true =>
          rw [hid] at h1
          rw [if_pos (Nat.eq_of_beq_eq_true hid)]
          exact hex β' _ fr' s' a' w' h1 h2 h3 h4
        | false =>
          rw [hid] at h1
          rw [if_neg (fun h => by rw [h, Nat.beq_refl] at hid; cases hid)]
          exact hex β' _ fr' s' a' w' h1 h2 h3 h4
      | normal => exact hex β' _ fr' s' a' w' h1 h2 h3 h4
      | goto l => exact hex β' _ fr' s' a' w' h1 h2 h3 h4
      | ret => exact hex β' _ fr' s' a' w' h1 h2 h3 h4
      | panic ch => exact hex β' _ fr' s' a' w' h1 h2 h3 h4
      | outgrown => exact hex β' _ fr' s' a' w' h1 h2 h3 h4) (fun β' k' fr' s' a' w' h1 hk h2 h3 h4 => hat β' k' fr' s' a' w' h1 hk h2 h3 h4)
    exact ⟨fun h => wp_block (this.1 h), fun k hk hkey => this.2 k hk hkey⟩
  | scope c ih =>
    intro st fr s L β a w R Q hl hf hd hw hex hat
    unfold evS at hl
    have := ih st fr s _ β a w R (Exit.noGoto Q) (bind_leads hl) hf hd hw (fun β' e fr' s' a' w' h1 h2 h3 h4 => by
      cases e with
      | goto l => exact h1.elim
      | exit id => exact hex β' _ fr' s' a' w' h1 h2 h3 h4
      | normal => exact hex β' _ fr' s' a' w' h1 h2 h3 h4
      | ret => exact hex β' _ fr' s' a' w' h1 h2 h3 h4
      | panic ch => exact hex β' _ fr' s' a' w' h1 h2 h3 h4
      | outgrown => exact hex β' _ fr' s' a' w' h1 h2 h3 h4) (fun β' k' fr' s' a' w' h1 hk h2 h3 h4 => hat β' k' fr' s' a' w' h1 hk h2 h3 h4)
    exact ⟨fun h => wp_scope_straight (this.1 h), fun k hk hkey => this.2 k hk hkey⟩
  | cond x c1 c2 ih1 ih2 =>
    intro st fr s L β a w R Q hl hf hd hw hex hat
    have hat1 : ∀ β' k' fr' s' a' w', L β' (.at k', fr', s') → hasKey k' c1 = true → FrIs s'.n β' fr' a'.tmps → a'.defers = [] → Out β s w R β' s' w' → Goes P st m c1 Q a' w' k' := by
      intro β' k' fr' s' a' w' h1 hk h2 h3 h4
      have := hat β' k' fr' s' a' w' h1 (by unfold hasKey; rw [hk]; rfl) h2 h3 h4
      refine Goes.imp (fun m h => ?_) this
      unfold wpAt at h
      rw [if_pos hk] at h
      exact h
    have hat2 : ∀ β' k' fr' s' a' w', L β' (.at k', fr', s') → hasKey k' c1 = false → hasKey k' c2 = true → FrIs s'.n β' fr' a'.tmps → a'.defers = [] → Out β s w R β' s' w' → Goes P st m c2 Q a' w' k' := by
      intro β' k' fr' s' a' w' h1 hx hk h2 h3 h4
      have := hat β' k' fr' s' a' w' h1 (by unfold hasKey; rw [hx]; exact hk) h2 h3 h4
      refine Goes.imp (fun m h => ?_) this
      unfold wpAt at h
      rw [if_neg (by rw [hx]; simp)] at h
      exact h
    cases st with
    | none =>
      refine ⟨fun _ => ?_, fun k hk => by cases hk⟩
      unfold evS at hl
      rw [Bool.cond_eq_ite] at hl
      split at hl
      · split at hl
        · rename_i c hx
          have ec : a.eval x = .bool c.tv := (opnd_is hf hx rfl).1
          obtain ⟨π', p1, p2⟩ := br_leads hl hw.pi
          have hw' : At β ⟨π', s.H, s.n⟩ w R := ⟨p1, hw.wf, hw.hold⟩
          have o1 := Out.pi hw p1
          cases ht : c.tv with
          | true =>
            rw [ht] at p2 ec
            exact wp_cond_true ec ((ih1 none fr _ L β a w R Q p2 hf hd hw' (fun β' e fr' s' a' w' h1 h2 h3 h4 => hex β' e fr' s' a' w' h1 h2 h3 (o1.trans h4)) (fun β' k' fr' s' a' w' h1 hk h2 h3 h4 => hat1 β' k' fr' s' a' w' h1 hk h2 h3 (o1.trans h4))).1 rfl)
          | false =>
            rw [ht] at p2 ec
            exact wp_cond_false ec ((ih2 none fr _ _ β a w R Q (late_leads p2) hf hd hw' (fun β' e fr' s' a' w' h1 h2 h3 h4 => hex β' e fr' s' a' w' h1.1 h2 h3 (o1.trans h4)) (fun β' k' fr' s' a' w' h1 hk h2 h3 h4 => hat2 β' k' fr' s' a' w' h1.1 (h1.2 k' rfl) hk h2 h3 (o1.trans h4))).1 rfl)
        · exact hl.elim
      · exact leaf _ fr s L β a w R Q hl hf hd hw hex
    | some k =>
      refine ⟨(fun h => by cases h), fun k1 hk1 hkey => ?_⟩
      cases hk1
      unfold evS at hl
      rw [Bool.cond_eq_ite] at hl
      unfold wpAt
      split at hl
      · rename_i hkx
        rw [if_pos hkx]
        exact (ih1 (some k) fr s L β a w R Q hl hf hd hw hex hat1).2 k rfl hkx
      · rename_i hkx
        rw [if_neg hkx]
        have hkx' : hasKey k c1 = false := by simpa using hkx
        exact (ih2 (some k) fr s _ β a w R Q (late_leads hl) hf hd hw (fun β' e fr' s' a' w' h1 h2 h3 h4 => hex β' e fr' s' a' w' h1.1 h2 h3 h4) (fun β' k' fr' s' a' w' h1 hk h2 h3 h4 => hat2 β' k' fr' s' a' w' h1.1 (h1.2 k' rfl) hk h2 h3 h4)).2 k rfl (by unfold hasKey at hkey; rw [hkx'] at hkey; exact hkey)
  | loop c ih =>
    intro st fr s L β a w R Q hl hf hd hw hex hat
    cases st with
    | none =>
      refine ⟨fun _ => ?_, fun k hk => by cases hk⟩
      unfold evS at hl
      split at hl
      · rename_i k hkey
        rw [Bool.cond_eq_ite] at hl
        split at hl
        · obtain ⟨m', h⟩ := (hat β k fr s a w hl (by unfold hasKey isK; rw [hkey]; exact Nat.beq_refl k) hf hd (Out.refl hw)).2 (by simp)
          exact wp_loop_rounds m' h
        · exact leaf _ fr s L β a w R Q hl hf hd hw hex
      · exact leaf _ fr s L β a w R Q hl hf hd hw hex
    | some k =>
      refine ⟨(fun h => by cases h), fun k1 hk1 hkey => ?_⟩
      cases hk1
      unfold evS at hl
      show Code.rounds P c Q (m + 1) a w
      rw [rounds_succ]
      refine evCode_ok hn hm hΓ mf g false c fr s _ β a w R _ (bind_leads hl) hf hd hw fun β' e fr' s' a' w' h1 h2 h3 h4 => ?_
      cases e with
      | normal => exact (hat β' k fr' s' a' w' h1 hkey h2 h3 h4).1 rfl
      | exit id => exact hex β' _ fr' s' a' w' h1 h2 h3 h4
      | goto l => exact hex β' _ fr' s' a' w' h1 h2 h3 h4
      | ret => exact hex β' _ fr' s' a' w' h1 h2 h3 h4
      | panic ch => exact hex β' _ fr' s' a' w' h1 h2 h3 h4
      | outgrown => exact hex β' _ fr' s' a' w' h1 h2 h3 h4
  | skip | label _ | ret | exit _ | goto _ | region _ _ _ | rangeFunc _ _ _ _ _ _ | refuse _ =>
    intro st fr s L β a w R Q hl hf hd hw hex hat
    cases st with
    | none => exact ⟨fun _ => leaf _ fr s L β a w R Q hl hf hd hw hex, fun k hk => by cases hk⟩
    | some k => exact hl.elim
end
/-! ### a pattern at a loop's head -/
structure Cut where
  key : Nat
  fr : List (Nat × SV)
  sz : Nat
  H : SH
  n : Nat
  pi : Pi
  B : Int
  me : Tm
def Fr.tops : Nat → Fr
  | 0 => .e
  | d + 1 => .n .top (Fr.tops d) (Fr.tops d)
theorem Fr.tops_full : ∀ d, (Fr.tops d).Full d
  | 0 => trivial
  | d + 1 => ⟨tops_full d, tops_full d⟩
theorem Fr.tops_get : ∀ (d i : Nat), (Fr.tops d).get i = .un ∨ ((Fr.tops d).get i).isTop = true
  | 0, _ => .inl rfl
  | d + 1, 0 => .inr rfl
  | d + 1, k + 1 => by
    show (bif Nat.beq (k % 2) 0 then (Fr.tops d).get (k / 2) else (Fr.tops d).get (k / 2)) = .un ∨ (bif Nat.beq (k % 2) 0 then (Fr.tops d).get (k / 2) else (Fr.tops d).get (k / 2)).isTop = true
    cases Nat.beq (k % 2) 0 <;> exact tops_get d _
theorem Fr.tops_top : ∀ (d i : Nat), i + 1 < 2 ^ d → ((Fr.tops d).get i).isTop = true
  | 0, _, h => by simp at h
  | d + 1, 0, _ => rfl
  | d + 1, k + 1, h => by
    rw [Nat.pow_succ] at h
    show (bif Nat.beq (k % 2) 0 then (Fr.tops d).get (k / 2) else (Fr.tops d).get (k / 2)).isTop = true
    cases Nat.beq (k % 2) 0 <;> exact tops_top d _ (by omega)
def putAll : Fr → List (Nat × SV) → Fr
  | f, [] => f
  | f, (i, v) :: r => putAll (f.set i v) r
def cutF (c : Cut) : Frm := ⟨c.sz, putAll (Fr.tops (dep c.sz)) c.fr⟩
def cutS (c : Cut) : St := ⟨c.pi, c.H, c.n⟩
def ixB (sz : Nat) : List (Nat × SV) → Bool
  | [] => true
  | (i, _) :: r => bif Nat.blt i sz then ixB sz r else false
def Cut.wfB (c : Cut) : Bool := Nat.blt c.sz 4095 && (ixB c.sz c.fr && (hwfB c.n c.H && vwfB c.n c.fr))
theorem putAll_full {D : Nat} : ∀ (l : List (Nat × SV)) (f : Fr), f.Full D → (putAll f l).Full D
  | [], f, h => h
  | (i, v) :: r, f, h => putAll_full r _ (Fr.set_full _ _ _ _ h)
theorem putAll_get : ∀ (l : List (Nat × SV)) (f : Fr) (D : Nat), f.Full D → (∀ q ∈ l, q.1 + 1 < 2 ^ D) → ∀ i, ((putAll f l).get i = f.get i ∧ ∀ v, (i, v) ∉ l) ∨ (i, (putAll f l).get i) ∈ l
  | [], f, D, h, hl, i => .inl ⟨rfl, fun v hv => by cases hv⟩
  | (j, v) :: r, f, D, h, hl, i => by
    rcases putAll_get r (f.set j v) D (Fr.set_full _ _ _ _ h) (fun q hq => hl q (List.mem_cons_of_mem _ hq)) i with ⟨h1, h2⟩ | h1
    · by_cases e : i = j
      · subst e
        right
        show (i, (putAll (f.set i v) r).get i) ∈ _
        rw [h1, Fr.get_set_eq D _ _ _ h (hl _ (List.mem_cons_self ..))]
        exact List.mem_cons_self ..
      · left
        refine ⟨?_, fun u hu => ?_⟩
        · show (putAll (f.set j v) r).get i = _
          rw [h1, Fr.get_set_ne _ _ _ _ e]
        · rcases List.mem_cons.1 hu with hu | hu
          · cases hu; exact e rfl
          · exact h2 u hu
    · exact .inr (List.mem_cons_of_mem _ h1)
theorem ixB_ok {sz : Nat} : ∀ {l : List (Nat × SV)}, ixB sz l = true → ∀ q ∈ l, q.1 < sz
  | [], _, q, hq => by cases hq
  | (i, v) :: r, h, q, hq => by
    unfold ixB at h
    rw [Bool.cond_eq_ite] at h
    split at h
    · rename_i hi
      rcases List.mem_cons.1 hq with rfl | hq
      · exact Nat.le_of_ble_eq_true hi
      · exact ixB_ok h q hq
    · cases h
def allGe (base : Nat) : List (Nat × Tm) → Bool
  | [] => true
  | (i, _) :: r => bif Nat.blt i base then false else allGe base r
theorem allGe_ok {base : Nat} : ∀ {l : List (Nat × Tm)}, allGe base l = true → ∀ i, i < base → lkT l i = none
  | [], _, _, _ => rfl
  | (j, t) :: r, h, i, hi => by
    unfold allGe at h
    rw [Bool.cond_eq_ite] at h
    split at h
    · cases h
    · rename_i hj
      unfold lkT
      have hne : Nat.beq j i = false := by
        cases hh : Nat.beq j i with
        | false => rfl
        | true =>
          have := Nat.eq_of_beq_eq_true hh
          exfalso; apply hj
          exact Nat.ble_eq_true_of_le (show j + 1 ≤ base by omega)
      rw [hne]
      exact allGe_ok h i hi
section
variable [Interp] [Rules] [Wk]
/-- What a state binds of a pattern. -/
def cutM (base : Nat) (c : Cut) (fr : Frm) (s : St) : Mt := mtH base c.H s.H (mtVs base c.fr fr ⟨[], [], []⟩)
def frcMt {R : Type} (m : Mt) (k : Mt → R) : R := match m with | ⟨σ, τ, ν⟩ => k ⟨σ, τ, ν⟩
theorem frcMt_eq {R : Type} (m : Mt) (k : Mt → R) : frcMt m k = k m := rfl
def fits (base : Nat) (c : Cut) (fr : Frm) (s : St) (p : Mt → Bool) : Bool :=
  bif Nat.beq fr.sz c.sz then frcMt (cutM base c fr s) fun m =>
    bif allGe base m.σ then
    bif chVs s.pi m c.fr fr then
    match chH s.pi m c.H s.H with
    | some _ => bif chPi s.pi m c.pi then p m else false
    | none => false
    else false else false else false
variable [V : Vars]
theorem chVs_ok {π : Pi} (hπ : facts π) {m : Mt} {β : Bl} {fr : Frm} : ∀ {l : List (Nat × SV)}, chVs π m l fr = true → ∀ q ∈ l, (fr.get q.1).den β = @SV.den _ (subV m.σ m.τ β) (subN m.ν β) q.2 ∧ (fr.get q.1).isTop = false
  | [], _, q, hq => by cases hq
  | (i, v) :: r, h, q, hq => by
    unfold chVs at h
    rw [Bool.cond_eq_ite] at h
    split at h
    · rename_i hv
      rcases List.mem_cons.1 hq with rfl | hq
      · exact chW_ok hπ hv β
      · exact chVs_ok hπ h q hq
    · cases h
theorem fits_ok {base : Nat} {c : Cut} {fr : Frm} {s : St} {p : Mt → Bool} (h : fits base c fr s p = true) (hc : c.wfB = true) {β : Bl} {a : Act} {w : World} {R : HProp} (hf : FrIs s.n β fr a.tmps) (hw : At β s w R) :
    ∃ m : Mt, p m = true ∧ (∀ i, i < base → (subV m.σ m.τ β).ρ i = V.ρ i) ∧ @FrIs _ (subV m.σ m.τ β) c.n (subN m.ν β) (cutF c) a.tmps ∧ @At _ (subV m.σ m.τ β) (subN m.ν β) (cutS c) w R := by
  unfold fits at h
  rw [Bool.cond_eq_ite] at h
  split at h
  · rename_i hsz
    have hsz := Nat.eq_of_beq_eq_true hsz
    rw [frcMt_eq] at h
    generalize cutM base c fr s = m at h
    rw [Bool.cond_eq_ite] at h
    split at h
    · rename_i hge
      rw [Bool.cond_eq_ite] at h
      split at h
      · rename_i hvs
        split at h
        · rename_i rest hH
          rw [Bool.cond_eq_ite] at h
          split at h
          · rename_i hpi
            unfold Cut.wfB at hc
            rw [Bool.and_eq_true, Bool.and_eq_true, Bool.and_eq_true] at hc
            obtain ⟨c1, c2, c3, c4⟩ := hc
            have c1 : c.sz < 4095 := Nat.le_of_ble_eq_true c1
            have hlt := dep_ok c1
            have hix := ixB_ok c2
            have hvw := vwfB_ok c4
            have hg := putAll_get c.fr (Fr.tops (dep c.sz)) (dep c.sz) (Fr.tops_full _) (fun q hq => by have := hix q hq; omega)
            refine ⟨m, h, fun i hi => ?_, @FrIs.mk _ (subV m.σ m.τ β) c.n (subN m.ν β) (cutF c) a.tmps ?_ ⟨dep c.sz, putAll_full _ _ (Fr.tops_full _), hlt⟩ (fun i hi => ?_) (fun i => ?_) (fun i hi ht => ?_), @At.mk _ (subV m.σ m.τ β) (subN m.ν β) (cutS c) w R (chPi_ok hw.pi β hpi) (hwfB_ok c3) ?_⟩
            · show (match lkT m.σ i with | some t => t.den | none => Vars.ρ i) = _
              rw [allGe_ok hge i hi]
            · exact hf.size.trans hsz
            · rcases hg i with ⟨h1, _⟩ | h1
              · show (putAll (Fr.tops (dep c.sz)) c.fr).get i = .un ∨ ((putAll (Fr.tops (dep c.sz)) c.fr).get i).isTop = true
                rw [h1]
                exact Fr.tops_get _ _
              · have := hix _ h1
                have hi' : c.sz ≤ i := hi
                exact absurd this (by simp only; omega)
            · rcases hg i with ⟨h1, _⟩ | h1
              · show ((putAll _ _).get i).wf _
                rw [h1]
                rcases Fr.tops_get (dep c.sz) i with e | e
                · rw [e]; exact un_wf _
                · cases hx : (Fr.tops (dep c.sz)).get i <;> rw [hx] at e <;> first | trivial | cases e
              · exact (hvw _ h1).1
            · have hi' : i < c.sz := hi
              rcases hg i with ⟨h1, _⟩ | h1
              · exfalso
                have e : ((putAll (Fr.tops (dep c.sz)) c.fr).get i).isTop = false := ht
                rw [h1, Fr.tops_top _ _ (by omega)] at e
                cases e
              · obtain ⟨e1, e2⟩ := chVs_ok hw.pi (β := β) hvs _ h1
                show a.tmps[i]? = some (@SV.den _ (subV m.σ m.τ β) (subN m.ν β) ((putAll (Fr.tops (dep c.sz)) c.fr).get i))
                rw [← e1]
                exact hf.val i (by rw [hsz]; exact hi') e2
            · have h1 := chH_ok hw.pi (R := R) hH hw.hold
              have h2 : Holds w (hden β rest * (@hden _ (subV m.σ m.τ β) (subN m.ν β) c.H * R)) := h1.cast (by ac_rfl)
              exact h2.drop
          · cases h
        · cases h
      · cases h
    · cases h
  · cases h
end
/-! ### the whole -/
def posOf : List Nat → Nat → Nat
  | [], _ => 0
  | j :: r, i => bif Nat.beq j i then 0 else posOf r i + 1
section
variable [Interp] [Rules] [Wk]
def anyB {α : Type} (p : α → Bool) : List α → Bool
  | [] => false
  | x :: r => bif p x then true else anyB p r
theorem anyB_ok {α : Type} {p : α → Bool} : ∀ {l : List α}, anyB p l = true → ∃ x ∈ l, p x = true
  | [], h => by cases h
  | x :: r, h => by
    unfold anyB at h
    rw [Bool.cond_eq_ite] at h
    split at h
    · rename_i hx; exact ⟨x, List.mem_cons_self .., hx⟩
    · obtain ⟨y, hy, h2⟩ := anyB_ok h; exact ⟨y, List.mem_cons_of_mem _ hy, h2⟩
/-- A way comes to one of the patterns; to the loop that it comes from at less. -/
def okAt (ks : List Nat) (base : Nat) (Θ : List Cut) (from_ : Option Cut) (k : Nat) (fr : Frm) (s : St) : Bool :=
  anyB (fun c => bif Nat.beq c.key k then fits base c fr s fun m =>
    match from_ with
    | none => true
    | some c0 => bif Nat.beq c0.key k then intBeq c0.B c.B && (pv s.pi true (mkLt c0.me (c.me.sub m.σ)) && pv s.pi true (mkLt c0.me (.lit c0.B))) else Nat.blt (posOf ks c0.key) (posOf ks k) else false) Θ
/-- Where ways part before patterns are held against: at a loop's head, whether a slot is less than a number. -/
abbrev Spl := List (Nat × Nat × Int)
def Spl.find : Spl → Nat → Option (Nat × Int)
  | [], _ => none
  | (k, x) :: r, i => bif Nat.beq k i then some x else Spl.find r i
def okA (sp : Spl) (ks : List Nat) (base : Nat) (Θ : List Cut) (from_ : Option Cut) (k : Nat) (fr : Frm) (s : St) : Bool :=
  match sp.find k with
  | none => okAt ks base Θ from_ k fr s
  | some (i, b) =>
    match fr.get i with
    | .a (.one (.int _ t)) =>
      match dec s.pi (mkLt t (.lit b)) with
      | some _ => okAt ks base Θ from_ k fr s
      | none => bif okAt ks base Θ from_ k fr ⟨(mkLt t (.lit b), true) :: s.pi, s.H, s.n⟩ then okAt ks base Θ from_ k fr ⟨(mkLt t (.lit b), false) :: s.pi, s.H, s.n⟩ else false
    | _ => false
def okL (sp : Spl) (ks : List Nat) (base : Nat) (Θ : List Cut) (fin : Exit → Frm → St → Bool) (from_ : Option Cut) (q : Ls) : Bool :=
  match q with
  | (.at k, fr, s) => okA sp ks base Θ from_ k fr s
  | (.ex e, fr, s) => fin e fr s
def chkCut (P : Program) [Fast P] [Ab P] (Γ : Ctr) (mf : Nat → Bool) (g : Nat) (sp : Spl) (ks : List Nat) (base : Nat) (Θ : List Cut) (fin : Exit → Frm → St → Bool) (body : Code) (c : Cut) : Bool :=
  c.wfB && (hasKey c.key body && (evS P Γ mf g ks body (some c.key) (cutF c) (cutS c)).allB (okL sp ks base Θ fin (some c)))
def meas [Vars] (c : Cut) : Nat := (c.B - c.me.v).toNat
/-- What holds at a loop's head. -/
def Inv [V0 : Vars] (base : Nat) (Θ : List Cut) (w0 : World) (R : HProp) (k m : Nat) (a : Act) (w : World) : Prop :=
  ∃ c ∈ Θ, c.key = k ∧ ∃ (V : Vars) (β : Bl), (∀ i, i < base → V.ρ i = V0.ρ i) ∧ @FrIs _ V c.n β (cutF c) a.tmps ∧ a.defers = [] ∧ @At _ V β (cutS c) w R ∧ Strm w0 w ∧ @meas _ V c < m
/-- What holds at the end. -/
def Fin [V0 : Vars] (base : Nat) (fin : Exit → Frm → St → Bool) (w0 : World) (R : HProp) (e : Exit) (a : Act) (w : World) : Prop :=
  ∃ (V : Vars) (β : Bl) (fr : Frm) (s : St), (∀ i, i < base → V.ρ i = V0.ρ i) ∧ fin e fr s = true ∧ @FrIs _ V s.n β fr a.tmps ∧ a.defers = [] ∧ @At _ V β s w R ∧ Strm w0 w
variable {P : Program} [Fast P] [Ab P] [okP : ∀ [Vars], AbOk P]
theorem okAt_inv [V0 : Vars] {ks : List Nat} {base : Nat} {Θ : List Cut} (hwf : ∀ c ∈ Θ, c.wfB = true) {from_ : Option Cut} {k : Nat} {fr : Frm} {s : St} {V : Vars} {β : Bl} {a : Act} {w w0 : World} {R : HProp}
    (h : okAt ks base Θ from_ k fr s = true) (hV : ∀ i, i < base → V.ρ i = V0.ρ i) (hf : @FrIs _ V s.n β fr a.tmps) (hd : a.defers = []) (hw : @At _ V β s w R) (hs : Strm w0 w) :
    ∃ m, Inv (V0 := V0) base Θ w0 R k (m + 1) a w ∧ ∀ c0, from_ = some c0 → (c0.key = k → m < @meas _ V c0) ∧ (c0.key ≠ k → posOf ks c0.key < posOf ks k) := by
  obtain ⟨c, hc, h1⟩ := anyB_ok h
  rw [Bool.cond_eq_ite] at h1
  split at h1
  · rename_i hk
    have hk := Nat.eq_of_beq_eq_true hk
    obtain ⟨m, hp, g1, g2, g3⟩ := @fits_ok _ _ _ V base c fr s _ h1 (hwf c hc) β a w R hf hw
    refine ⟨@meas _ (@subV _ V m.σ m.τ β) c, ⟨c, hc, hk, @subV _ V m.σ m.τ β, _, fun i hi => (g1 i hi).trans (hV i hi), g2, hd, g3, hs, Nat.lt_succ_self _⟩, fun c0 e => ?_⟩
    subst e
    simp only at hp
    rw [Bool.cond_eq_ite] at hp
    split at hp
    · rename_i hk0
      have hk0 := Nat.eq_of_beq_eq_true hk0
      refine ⟨fun _ => ?_, fun h => absurd hk0 h⟩
      rw [Bool.and_eq_true, Bool.and_eq_true] at hp
      obtain ⟨b1, b2, b3⟩ := hp
      have b1 := intBeq_eq b1
      have b2 := @pv_ok _ _ V s.pi hw.pi _ _ b2
      have b3 := @pv_ok _ _ V s.pi hw.pi _ _ b3
      rw [@mkLt_tv _ V] at b2 b3
      rw [@lit_v _ V] at b3
      have b2 := of_decide_eq_true b2
      have b3 := of_decide_eq_true b3
      rw [@sub_v _ _ V m.σ m.τ β] at b2
      unfold meas
      omega
    · rename_i hk0
      exact ⟨fun h => absurd (by rw [h]; exact Nat.beq_refl k) hk0, fun _ => Nat.le_of_ble_eq_true hp⟩
  · cases h1
theorem okA_inv [V0 : Vars] {sp : Spl} {ks : List Nat} {base : Nat} {Θ : List Cut} (hwf : ∀ c ∈ Θ, c.wfB = true) {from_ : Option Cut} {k : Nat} {fr : Frm} {s : St} {V : Vars} {β : Bl} {a : Act} {w w0 : World} {R : HProp}
    (h : okA sp ks base Θ from_ k fr s = true) (hV : ∀ i, i < base → V.ρ i = V0.ρ i) (hf : @FrIs _ V s.n β fr a.tmps) (hd : a.defers = []) (hw : @At _ V β s w R) (hs : Strm w0 w) :
    ∃ m, Inv (V0 := V0) base Θ w0 R k (m + 1) a w ∧ ∀ c0, from_ = some c0 → (c0.key = k → m < @meas _ V c0) ∧ (c0.key ≠ k → posOf ks c0.key < posOf ks k) := by
  unfold okA at h
  split at h
  · exact okAt_inv (V0 := V0) hwf h hV hf hd hw hs
  · rename_i i b _
    split at h
    · rename_i t _
      split at h
      · exact okAt_inv (V0 := V0) hwf h hV hf hd hw hs
      · rw [Bool.cond_eq_ite] at h
        split at h
        · rename_i h1
          cases hb : @Tm.tv _ V (mkLt t (.lit b)) with
          | true => exact okAt_inv (V0 := V0) hwf h1 hV hf hd ⟨facts_cons hw.pi hb, hw.wf, hw.hold⟩ hs
          | false => exact okAt_inv (V0 := V0) hwf h hV hf hd ⟨facts_cons hw.pi hb, hw.wf, hw.hold⟩ hs
        · cases h
    · cases h
/-- **From each pattern on, the rest comes to an end that is asked for.** -/
theorem cuts_ok [V0 : Vars] (hn : NoGos P) (hm : P.follows .mixedOrders = true) {Γ : Ctr} (hΓ : ∀ V : Vars, @CtrOk _ V P Γ) {mf : Nat → Bool} {g : Nat} {sp : Spl} {ks : List Nat} {base : Nat} {Θ : List Cut} {fin : Exit → Frm → St → Bool} {body : Code}
    (chk : ∀ c ∈ Θ, chkCut P Γ mf g sp ks base Θ fin body c = true) (w0 : World) (R : HProp) :
    ∀ (N : Nat) (k m : Nat) (a : Act) (w : World), ks.length - posOf ks k < N → Inv (V0 := V0) base Θ w0 R k m a w → wpAt P m k body (Fin (V0 := V0) base fin w0 R) a w := by
  have hwf : ∀ c ∈ Θ, c.wfB = true := fun c hc => by
    have := chk c hc
    unfold chkCut at this
    rw [Bool.and_eq_true] at this
    exact this.1
  have posle : ∀ (l : List Nat) (k : Nat), posOf l k ≤ l.length := by
    intro l k
    induction l with
    | nil => exact Nat.le_refl _
    | cons j r ih => unfold posOf; cases Nat.beq j k <;> simp <;> omega
  intro N
  induction N with
  | zero => intro k m a w h; exact absurd h (Nat.not_lt_zero _)
  | succ N ihN =>
    intro k m
    induction m with
    | zero => intro a w _ hi; obtain ⟨c, hc, _, V, β, _, _, _, _, _, h⟩ := hi; exact absurd h (Nat.not_lt_zero _)
    | succ m ihm =>
      intro a w hN hi
      obtain ⟨c, hc, hk, V, β, hV, hf, hd, hw, hs, hlt⟩ := hi
      have hck := chk c hc
      unfold chkCut at hck
      rw [Bool.and_eq_true, Bool.and_eq_true] at hck
      obtain ⟨c1, c2, c3⟩ := hck
      subst hk
      refine (@evS_ok _ _ V P _ _ (@okP V) hn hm Γ (hΓ V) mf g ks m body (some c.key) (cutF c) (cutS c) _ β a w R _ (@allB_leads _ V _ _ _ β c3) hf hd hw ?_ ?_).2 c.key rfl c2
      · intro β' e fr' s' a' w' h1 h2 h3 h4
        exact ⟨V, β', fr', s', hV, h1, h2, h3, h4.at_, hs.trans h4.st⟩
      · intro β' k' fr' s' a' w' h1 hkk h2 h3 h4
        have h1' : okA sp ks base Θ (some c) k' fr' s' = true := h1
        obtain ⟨m', i1, i2⟩ := okA_inv (V0 := V0) hwf h1' hV h2 h3 h4.at_ (hs.trans h4.st)
        obtain ⟨i3, i4⟩ := i2 c rfl
        refine ⟨fun e => ?_, fun e => ?_⟩
        · cases e
          refine ihm a' w' hN ?_
          obtain ⟨c', hc', x1, x2, x3, x4, x5, x6, x7, x8, x9⟩ := i1
          have := i3 rfl
          exact ⟨c', hc', x1, x2, x3, x4, x5, x6, x7, x8, by omega⟩
        · have hne : c.key ≠ k' := fun h => e (by rw [h])
          have := i4 hne
          have := posle ks k'
          exact ⟨m' + 1, ihN k' (m' + 1) a' w' (by omega) i1⟩
/-- **A function with loops, by patterns.** -/
theorem calls_of_cuts [V0 : Vars] (hn : NoGos P) (hm : P.follows .mixedOrders = true) {Γ : Ctr} (hΓ : ∀ V : Vars, @CtrOk _ V P Γ) {mf : Nat → Bool} {g : Nat} {sp : Spl} {ks : List Nat} {base : Nat} {Θ : List Cut} {f : Nat} {fn : Func} {body : Code} {okV : SV → St → Bool}
    (hfn : Fast.func P f = some fn) (hb : fn.body = some body) {args : List SV} {s : St}
    (hsz : Nat.blt (args.length + (fn.ntmps - args.length)) 4095 = true)
    (chk0 : (evS P Γ mf g ks body none (Frm.start fn.ntmps args) s).allB (okL sp ks base Θ (fun e fr s => (ends P fn (e, fr, s)).allB fun q => okV q.1 q.2) none) = true)
    (chk : ∀ c ∈ Θ, chkCut P Γ mf g sp ks base Θ (fun e fr s => (ends P fn (e, fr, s)).allB fun q => okV q.1 q.2) body c = true)
    {β : Bl} {w : World} {R : HProp} (hwf : ∀ x ∈ args, x.wf s.n) (htop : ∀ x ∈ args, x.isTop = false) (hw : At β s w R) :
    Calls P f (args.map (SV.den β)).toArray w fun e w' => ∃ (V : Vars) (β' : Bl) (v : SV) (s' : St), (∀ i, i < base → V.ρ i = V0.ρ i) ∧ okV v s' = true ∧ e = .returned (@SV.den _ V β' v) ∧ @At _ V β' s' w' R ∧ Strm w w' := by
  have hwf' : ∀ c ∈ Θ, c.wfB = true := fun c hc => by
    have := chk c hc
    unfold chkCut at this
    rw [Bool.and_eq_true] at this
    exact this.1
  refine calls_of_wp (Fast.func_ok hfn) hb ?_
  have hst := start_is (n := s.n) (β := β) (k := fn.ntmps) (args := args) (Nat.le_of_ble_eq_true hsz) hwf htop
  have key : ∀ {e : Exit} {a' : Act} {w' : World}, Fin (V0 := V0) base (fun e fr s => (ends P fn (e, fr, s)).allB fun q => okV q.1 q.2) w R e a' w' → bodyPost P fn (fun e w' => ∃ (V : Vars) (β' : Bl) (v : SV) (s' : St), (∀ i, i < base → V.ρ i = V0.ρ i) ∧ okV v s' = true ∧ e = .returned (@SV.den _ V β' v) ∧ @At _ V β' s' w' R ∧ Strm w w') e a' w' := by
    rintro e a' w' ⟨V, β', fr, s', hV, hfin, hf, hd, hw', hs⟩
    have hl := @allB_leads _ V _ _ _ β' hfin
    unfold ends at hl
    have core : ∀ {ps l v}, resV P s'.pi fr s'.H fn.results.toList = some (ps, l) → resOf l = some v → @Tree.Leads _ V _ (fun _ q => okV q.1 q.2 = true) (needs s'.pi ps (frcV v fun v => Tree.done (v, s'))) β' → ∃ v, (results fn a'.tmps).run P w' = .ok v w' ∧ ∃ (V : Vars) (β' : Bl) (u : SV) (s' : St), (∀ i, i < base → V.ρ i = V0.ρ i) ∧ okV u s' = true ∧ Ending.returned v = .returned (@SV.den _ V β' u) ∧ @At _ V β' s' w' R ∧ Strm w w' := by
      intro ps l v hr hv hn'
      obtain ⟨g1, g2⟩ := @needs_leads _ _ V _ _ hw'.pi _ _ β' _ hn'
      rw [frcV_eq] at g2
      obtain ⟨r1, r2, r3⟩ := @results_ok _ _ V P _ _ (@okP V) s'.pi hw'.pi fn s'.n β' fr a'.tmps hf s'.H hw'.wf w' R hw'.hold ps l v hr g1 hv
      exact ⟨_, r1, V, β', v, s', hV, g2, rfl, hw', hs⟩
    cases e with
    | normal =>
      simp only at hl
      split at hl
      · rename_i ps l hr
        split at hl
        · rename_i v hv
          obtain ⟨v, k1, k2⟩ := core hr hv hl
          exact ⟨hd, v, k1, k2⟩
        · exact hl.elim
      · exact hl.elim
    | ret =>
      simp only at hl
      split at hl
      · rename_i ps l hr
        split at hl
        · rename_i v hv
          obtain ⟨v, k1, k2⟩ := core hr hv hl
          exact ⟨hd, v, k1, k2⟩
        · exact hl.elim
      · exact hl.elim
    | exit id => exact hl.elim
    | goto l => exact hl.elim
    | panic ch => exact hl.elim
    | outgrown => exact hl.elim
  refine Code.wp_mono (fun e a w h => key h) ?_
  refine (evS_ok hn hm (hΓ V0) 0 body none (Frm.start fn.ntmps args) s _ β ⟨(args.map (SV.den β)).toArray ++ Array.replicate (fn.ntmps - (args.map (SV.den β)).toArray.size) undef, []⟩ w R _ (allB_leads chk0) hst rfl hw ?_ ?_).1 rfl
  · intro β' e fr' s' a' w' h1 h2 h3 h4
    exact ⟨V0, β', fr', s', fun _ _ => rfl, h1, h2, h3, h4.at_, h4.st⟩
  · intro β' k' fr' s' a' w' h1 hkk h2 h3 h4
    have h1' : okA sp ks base Θ none k' fr' s' = true := h1
    obtain ⟨m', i1, _⟩ := okA_inv (V0 := V0) (V := V0) hwf' h1' (fun _ _ => rfl) h2 h3 h4.at_ h4.st
    exact ⟨(fun e => by cases e), fun _ => ⟨m' + 1, cuts_ok (V0 := V0) (okP := @okP) hn hm hΓ chk w R (ks.length + 1) k' (m' + 1) a' w' (by omega) i1⟩⟩
end
end Go.Proofs.Ytfapicccijbanaa.Ef
