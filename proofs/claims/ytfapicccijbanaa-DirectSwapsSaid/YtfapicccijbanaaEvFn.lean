/- What is proved: the evaluator of functions over a heap that is described block by block. Conditions: the evaluator's own premises. -/
import Derived.Test.YtfapicccijbanaaEvRun
namespace Go.Proofs.Ytfapicccijbanaa.Ev
open Go Go.Proofs.Ytfapicccijbanaa.Sep
set_option linter.unusedVariables false
set_option linter.unusedSimpArgs false
section
variable {A : Type} [Abs A]
abbrev KontE (A : Type) := Exit → List SV → SH A → Nat → Tree A
abbrev Ctr (A : Type) := Nat → List SV → SH A → Nat → Kont A → Option (Tree A)
def loopE (body : List SV → SH A → Nat → KontE A → Tree A) : Nat → List SV → SH A → Nat → KontE A → Tree A
  | 0, _, _, _, _ => .fail
  | m + 1, fr, H, n, K => body fr H n fun e fr H n =>
    match e with
    | .normal => loopE body m fr H n K
    | e => K e fr H n
def resV (P : Program) [Fast P] (fr : List SV) (H : SH A) : List ResultVar → Option (List Prop × List SV)
  | [] => some ([], [])
  | .tmp t :: r =>
    match resV P fr H r with
    | some (ps, l) => some (ps, fr.getD t .un :: l)
    | none => none
  | .cell a t :: r =>
    match loadV P t H (fr.getD a .un), resV P fr H r with
    | some (qs, v), some (ps, l) => some (qs ++ ps, v :: l)
    | _, _ => none
def toSA : List SV → Option (List SA)
  | [] => some []
  | .a x :: r => (toSA r).map (x :: ·)
  | _ => none
def resOf : List SV → Option SV
  | [v] => some v
  | l => (toSA l).map .tup
def ends (P : Program) [Fast P] (fn : Func) (k : Kont A) : KontE A := fun e fr H n =>
  match e with
  | .normal | .ret =>
    match resV P fr H fn.results.toList with
    | some (ps, l) =>
      match resOf l with
      | some v => needs ps (k v H n)
      | none => .fail
    | none => .fail
  | _ => .fail
def callBy (P : Program) [Fast P] (Γ : Ctr A) (ev : Code → List SV → SH A → Nat → KontE A → Tree A) : Caller A := fun f args H n k =>
  match Γ f args H n k with
  | some t => t
  | none =>
    match Fast.func P f with
    | some fn =>
      match fn.body with
      | some c => ev c (args ++ List.replicate (fn.ntmps - args.length) .un) H n (ends P fn k)
      | none => .fail
    | none => .fail
def evCode (P : Program) [Fast P] (Γ : Ctr A) : Nat → Bool → Code → List SV → SH A → Nat → KontE A → Tree A
  | 0, _, _, _, _, _, _ => .fail
  | g + 1, s, c, fr, H, n, K =>
    match c with
    | .skip => K .normal fr H n
    | .label _ => K .normal fr H n
    | .ret => K .ret fr H n
    | .exit id => K (.exit id) fr H n
    | .goto l => K (.goto l) fr H n
    | .seq a b => evCode P Γ g s a fr H n fun e fr H n =>
      match e with
      | .normal => evCode P Γ g s b fr H n K
      | e => K e fr H n
    | .block id c => evCode P Γ g s c fr H n fun e fr H n =>
      match e with
      | .exit id' => bif Nat.beq id' id then K .normal fr H n else K (.exit id') fr H n
      | e => K e fr H n
    | .scope c => evCode P Γ g s c fr H n fun e fr H n =>
      match e with
      | .goto _ => .fail
      | e => K e fr H n
    | .cond x a b =>
      match opnd fr x with
      | .a (.one (.bool (.lit true))) => evCode P Γ g s a fr H n K
      | .a (.one (.bool (.lit false))) => evCode P Γ g s b fr H n K
      | .a (.one (.bool (.sym c))) => .ite c (evCode P Γ g s a fr H n K) (evCode P Γ g s b fr H n K)
      | _ => .fail
    | .loop c => bif s then .loop c fr H n K else loopE (evCode P Γ g s c) g fr H n K
    | .region _ ops draw =>
      bif draw then
        (bif Region.noSelect ops then
          evAny P (callBy P Γ (evCode P Γ g false)) ops.toList (gathered P ops.toList fr H) (4 * ops.toList.length + 8) ops.toList.length (Array.replicate ops.toList.length false) fr H n (K .normal)
        else .fail)
      else evList P (callBy P Γ (evCode P Γ g false)) ops.toList ops.toList fr H n (K .normal)
    | _ => .fail
/-- What a table of contracts says holds of the program. -/
def CtrOk (P : Program) (Γ : Ctr A) : Prop :=
  ∀ f args H n k t, Γ f args H n k = some t → ∀ (L : Leaf A → Prop), t.Leads P L → ∀ (w : World) (R : HProp), Holds w (hden H * R) → ∀ Q : Ending → World → Prop,
    (∀ v H' n' w', (k v H' n').Leads P L → Holds w' (hden H' * R) → Strm w w' → Q (.returned v.den) w') → Calls P f (args.map SV.den).toArray w Q
theorem resV_ok {P : Program} [Fast P] {fr : List SV} {H : SH A} {w : World} {R : HProp} (hw : Holds w (hden H * R)) : ∀ (l : List ResultVar) (ps : List Prop) (vs : List SV), resV P fr H l = some (ps, vs) → (∀ p ∈ ps, p) →
    (l.mapM fun
      | .tmp t => pure ((fden fr).getD t undef)
      | .cell a t => do loadVar t (← asAddr ((fden fr).getD a undef)) : Sem (List Value)).run P w = .ok (vs.map SV.den) w
  | [], ps, vs, h, hp => by simp [resV] at h; obtain ⟨rfl, rfl⟩ := h; rfl
  | .tmp t :: r, ps, vs, h, hp => by
    unfold resV at h
    split at h
    · rename_i ps' l hr
      simp only [Option.some.injEq, Prod.mk.injEq] at h
      obtain ⟨rfl, rfl⟩ := h
      have ih := resV_ok hw r ps' l hr hp
      have e : (fden fr).getD t undef = (fr.getD t .un).den := opnd_den fr [] (.tmp t)
      rw [List.mapM_cons]
      simp only [Sem.run_bind, Sem.run_pure, Result.andThen_ok, ih, e, List.map_cons]
    · simp at h
  | .cell a t :: r, ps, vs, h, hp => by
    unfold resV at h
    split at h
    · rename_i qs v ps' l hl hr
      simp at h
      obtain ⟨rfl, rfl⟩ := h
      have ih := resV_ok hw r ps' l hr (fun p hp' => hp p (by simp [hp']))
      have e : (fden fr).getD a undef = (fr.getD a .un).den := opnd_den fr [] (.tmp a)
      have hv := run_loadV (P := P) hl (fun p hp' => hp p (by simp [hp'])) hw
      have hv' : (do loadVar t (← asAddr ((fden fr).getD a undef)) : Sem Value).run P w = .ok v.den w := by
        unfold loadV at hl
        split at hl
        · rename_i nm b off hx
          rw [e, hx]
          rw [hx] at hv
          exact hv
        · simp at hl
      rw [List.mapM_cons]
      simp only [Sem.run_bind] at hv' ⊢
      simp only [hv', Sem.run_pure, Result.andThen_ok, ih, List.map_cons]
    · simp at h
theorem toSA_den : ∀ (l : List SV) (r : List SA), toSA l = some r → l.map SV.den = r.map SA.den
  | [], r, h => by simp [toSA] at h; subst h; rfl
  | .a x :: l, r, h => by
    simp only [toSA] at h
    cases hl : toSA l with
    | none => rw [hl] at h; simp at h
    | some r' =>
      rw [hl] at h
      simp at h
      subst h
      simp only [List.map_cons, toSA_den l r' hl]
      rfl
  | .tup _ :: l, r, h => by simp [toSA] at h
theorem results_ok {P : Program} [Fast P] {fn : Func} {fr : List SV} {H : SH A} {w : World} {R : HProp} (hw : Holds w (hden H * R)) {ps : List Prop} {l : List SV} {v : SV} (h : resV P fr H fn.results.toList = some (ps, l)) (hp : ∀ p ∈ ps, p) (hv : resOf l = some v) :
    (results fn (fden fr)).run P w = .ok v.den w := by
  have h1 := resV_ok hw _ ps l h hp
  suffices key : ∀ r, r = Result.ok (l.map SV.den) w → ((r.andThen fun a w' => Result.ok a.toArray w').andThen fun vs w' => (pure (if h : vs.size = 1 then vs[0] else .tuple vs) : Sem Value).run P w') = .ok v.den w by
    unfold results
    rw [Array.mapM_eq_mapM_toList, Sem.run_bind, Sem.run_map]
    exact key _ h1
  intro r hr
  subst hr
  simp only [Result.andThen_ok]
  unfold resOf at hv
  split at hv
  · rename_i v'
    simp at hv
    subst hv
    simp
  · rename_i hne
    cases ht : toSA l with
    | none => rw [ht] at hv; simp at hv
    | some r =>
      rw [ht] at hv
      simp at hv
      subst hv
      have e := toSA_den l r ht
      have hs : ¬ (l.map SV.den).toArray.size = 1 := by
        intro hh
        have hh' : l.length = 1 := by simpa using hh
        match l, hh' with
        | [v], _ => exact hne v rfl
      rw [dif_neg hs, Sem.run_pure, e]
      rfl
theorem loopE_ok {P : Program} {c : Code} {body : List SV → SH A → Nat → KontE A → Tree A} {L : Leaf A → Prop} {R : HProp} {Q : Exit → Act → World → Prop} {K : KontE A}
    (hb : ∀ fr H n K' w Q', (body fr H n K').Leads P L → Holds w (hden H * R) → (∀ e fr' H' n' w', (K' e fr' H' n').Leads P L → Holds w' (hden H' * R) → Strm w w' → Q' e ⟨fden fr', []⟩ w') → c.wp P Q' ⟨fden fr, []⟩ w) :
    ∀ (m : Nat) (fr : List SV) (H : SH A) (n : Nat) (w : World), (loopE body m fr H n K).Leads P L → Holds w (hden H * R) →
      (∀ e fr' H' n' w', (K e fr' H' n').Leads P L → Holds w' (hden H' * R) → Strm w w' → Q e ⟨fden fr', []⟩ w') → Code.rounds P c Q m ⟨fden fr, []⟩ w
  | 0, fr, H, n, w, hl, hw, hk => hl.elim
  | m + 1, fr, H, n, w, hl, hw, hk => by
    rw [rounds_succ]
    refine hb fr H n _ w _ hl hw fun e fr' H' n' w' h1 h2 h3 => ?_
    cases e with
    | normal => exact loopE_ok hb m fr' H' n' w' h1 h2 fun e fr'' H'' n'' w'' k1 k2 k3 => hk e fr'' H'' n'' w'' k1 k2 (h3.trans k3)
    | exit id => exact hk _ fr' H' n' w' h1 h2 h3
    | goto l => exact hk _ fr' H' n' w' h1 h2 h3
    | ret => exact hk _ fr' H' n' w' h1 h2 h3
    | panic ch => exact hk _ fr' H' n' w' h1 h2 h3
    | outgrown => exact hk _ fr' H' n' w' h1 h2 h3
def CodeOk (P : Program) (ev : Code → List SV → SH A → Nat → KontE A → Tree A) : Prop :=
  ∀ (c : Code) (fr : List SV) (H : SH A) (n : Nat) (K : KontE A) (L : Leaf A → Prop) (w : World) (R : HProp) (Q : Exit → Act → World → Prop), (ev c fr H n K).Leads P L → Holds w (hden H * R) →
    (∀ e fr' H' n' w', (K e fr' H' n').Leads P L → Holds w' (hden H' * R) → Strm w w' → Q e ⟨fden fr', []⟩ w') → c.wp P Q ⟨fden fr, []⟩ w
theorem callBy_ok {P : Program} [Fast P] {Γ : Ctr A} (hΓ : CtrOk P Γ) {ev : Code → List SV → SH A → Nat → KontE A → Tree A} (hev : CodeOk P ev) : CallerOk P (callBy P Γ ev) := by
  intro f args H n k L hl w R hw Q hk
  unfold callBy at hl
  split at hl
  · rename_i t ht
    exact hΓ f args H n k t ht L hl w R hw Q hk
  · split at hl
    · rename_i fn hf
      split at hl
      · rename_i c hc
        refine calls_of_wp (Fast.func_ok hf) hc ?_
        have e : (args.map SV.den).toArray ++ Array.replicate (fn.ntmps - (args.map SV.den).toArray.size) undef = fden (args ++ List.replicate (fn.ntmps - args.length) .un) := by
          unfold fden
          simp [un_den]
        rw [e]
        refine hev c _ H n _ L w R _ hl hw fun e fr' H' n' w' h1 h2 h3 => ?_
        unfold ends at h1
        cases e with
        | normal =>
          simp only at h1
          split at h1
          · rename_i ps l hr
            split at h1
            · rename_i v hv
              obtain ⟨g1, g2⟩ := needs_leads h1
              exact ⟨rfl, v.den, results_ok h2 hr g1 hv, hk v H' n' w' g2 h2 h3⟩
            · exact h1.elim
          · exact h1.elim
        | ret =>
          simp only at h1
          split at h1
          · rename_i ps l hr
            split at h1
            · rename_i v hv
              obtain ⟨g1, g2⟩ := needs_leads h1
              exact ⟨rfl, v.den, results_ok h2 hr g1 hv, hk v H' n' w' g2 h2 h3⟩
            · exact h1.elim
          · exact h1.elim
        | exit id => exact h1.elim
        | goto l => exact h1.elim
        | panic ch => exact h1.elim
        | outgrown => exact h1.elim
      · exact hl.elim
    · exact hl.elim
theorem evCode_ok {P : Program} [Fast P] (hn : NoGos P) (hm : P.follows .mixedOrders = true) {Γ : Ctr A} (hΓ : CtrOk P Γ) : ∀ g s, CodeOk P (evCode P Γ g s)
  | 0, s => fun c fr H n K L w R Q hl hw hk => hl.elim
  | g + 1, s => fun c fr H n K L w R Q hl hw hk => by
    have ih := evCode_ok hn hm hΓ g s
    have hcall := callBy_ok hΓ (evCode_ok hn hm hΓ g false)
    unfold evCode at hl
    cases c with
    | skip => exact wp_skip (hk _ fr H n w hl hw (Strm.refl w))
    | label l => exact wp_label (hk _ fr H n w hl hw (Strm.refl w))
    | ret => exact wp_ret (hk _ fr H n w hl hw (Strm.refl w))
    | exit id => exact wp_exit (hk _ fr H n w hl hw (Strm.refl w))
    | goto l => exact wp_goto (hk _ fr H n w hl hw (Strm.refl w))
    | seq a b =>
      refine wp_seq (ih a fr H n _ L w R _ hl hw fun e fr' H' n' w' h1 h2 h3 => ?_)
      cases e with
      | normal => exact ih b fr' H' n' K L w' R Q h1 h2 fun e fr'' H'' n'' w'' k1 k2 k3 => hk e fr'' H'' n'' w'' k1 k2 (h3.trans k3)
      | exit id => exact hk _ fr' H' n' w' h1 h2 h3
      | goto l => exact hk _ fr' H' n' w' h1 h2 h3
      | ret => exact hk _ fr' H' n' w' h1 h2 h3
      | panic ch => exact hk _ fr' H' n' w' h1 h2 h3
      | outgrown => exact hk _ fr' H' n' w' h1 h2 h3
    | block id c =>
      refine wp_block (ih c fr H n _ L w R _ hl hw fun e fr' H' n' w' h1 h2 h3 => ?_)
      cases e with
      | exit id' =>
        simp only at h1
        simp only [Exit.inBlock]
        cases hid : Nat.beq id' id with
        | true =>
          rw [hid] at h1
          rw [if_pos (Nat.eq_of_beq_eq_true hid)]
          exact hk _ fr' H' n' w' h1 h2 h3
        | false =>
          rw [hid] at h1
          rw [if_neg (fun h => by rw [h, Nat.beq_refl] at hid; cases hid)]
          exact hk _ fr' H' n' w' h1 h2 h3
      | normal => exact hk _ fr' H' n' w' h1 h2 h3
      | goto l => exact hk _ fr' H' n' w' h1 h2 h3
      | ret => exact hk _ fr' H' n' w' h1 h2 h3
      | panic ch => exact hk _ fr' H' n' w' h1 h2 h3
      | outgrown => exact hk _ fr' H' n' w' h1 h2 h3
    | scope c =>
      refine wp_scope_straight (ih c fr H n _ L w R _ hl hw fun e fr' H' n' w' h1 h2 h3 => ?_)
      cases e with
      | goto l => exact h1.elim
      | exit id => exact hk _ fr' H' n' w' h1 h2 h3
      | normal => exact hk _ fr' H' n' w' h1 h2 h3
      | ret => exact hk _ fr' H' n' w' h1 h2 h3
      | panic ch => exact hk _ fr' H' n' w' h1 h2 h3
      | outgrown => exact hk _ fr' H' n' w' h1 h2 h3
    | cond x a b =>
      simp only at hl
      split at hl
      · rename_i hx
        exact wp_cond_true (by rw [opnd_den, hx]; rfl) (ih a fr H n K L w R Q hl hw hk)
      · rename_i hx
        exact wp_cond_false (by rw [opnd_den, hx]; rfl) (ih b fr H n K L w R Q hl hw hk)
      · rename_i c hx
        obtain ⟨h1, h2⟩ := hl
        refine wp_cond_split (t := c) (by rw [opnd_den, hx]; rfl) (fun hc => ih a fr H n K L w R Q (h1 hc) hw hk) (fun hc => ih b fr H n K L w R Q (h2 hc) hw hk)
      · exact hl.elim
    | loop c =>
      cases s with
      | true => exact hl w R Q hw hk
      | false => exact wp_loop_rounds g (loopE_ok (fun fr H n K' w Q' h1 h2 h3 => ih c fr H n K' L w R Q' h1 h2 h3) g fr H n w hl hw hk)
    | region id ops draw =>
      cases draw with
      | true =>
        simp only [cond_true] at hl
        cases hns : Region.noSelect ops with
        | false => rw [hns] at hl; exact hl.elim
        | true =>
          rw [hns] at hl
          simp only [cond_true] at hl
          have hwd : Holds { w with drawn := w.drawn + 1 } (hden H * R) := hw
          refine wp_region_noPanic ?_
          refine wp_region_held (S := heldS (gathered P ops.toList fr H)) hm ?_
          have := evAny_ok hn hcall (ops := ops.toList) (S := gathered P ops.toList fr H) (by simpa using hns) (Q := NoPanic Q) (fun c a a' w h => h) _ _ _ fr H n _ hl hwd (gathered_held hwd)
            (fun fr' H' n' w' k1 k2 k3 => hk .normal fr' H' n' w' k1 k2 ⟨k3.os, k3.tape, k3.output, k3.size⟩)
          simpa using this
      | false =>
        simp only [cond_false] at hl
        refine wp_region_list ?_
        have := evList_ok hn hcall (ops := ops.toList) ops.toList fr H n w hl hw (Q := Q) (hk .normal)
        simpa using this
    | rangeFunc f p a b => exact hl.elim
    | refuse why => exact hl.elim
/-- Only what can be come to from the names at hand, in the order in which it is met. -/
def ptrsOf : List SC → List Nat
  | [] => []
  | .ptr nm _ _ :: r => nm :: ptrsOf r
  | .slice nm _ _ _ _ :: r => nm :: ptrsOf r
  | .func _ a c :: r => a.map (·.1) ++ (c.map (·.1) ++ ptrsOf r)
  | _ :: r => ptrsOf r
def gc : Nat → List Nat → SH A → SH A
  | 0, _, _ => []
  | _, [], _ => []
  | g + 1, nm :: r, H =>
    match find H nm with
    | some (b, o) => (nm, b, o) :: gc g (r ++ (match o with | .cells l _ => ptrsOf l | _ => [])) (del H nm)
    | none => gc g r H
theorem gc_holds {w : World} : ∀ (g : Nat) (l : List Nat) (H : SH A) (R : HProp), Holds w (hden H * R) → ∃ R', Holds w (hden (gc g l H) * (R' * R))
  | 0, l, H, R, h => ⟨hden H, h.cast (by unfold gc hden; rw [star_empl])⟩
  | g + 1, [], H, R, h => ⟨hden H, h.cast (by unfold gc hden; rw [star_empl])⟩
  | g + 1, nm :: r, H, R, h => by
    unfold gc
    split
    · rename_i b o hf
      obtain ⟨R', h'⟩ := gc_holds g _ (del H nm) (o.den b * R) ((focus hf h).cast (by ac_rfl))
      exact ⟨R', h'.cast (by show _ = (o.den b * hden (gc g _ (del H nm))) * (R' * R); ac_rfl)⟩
    · exact gc_holds g r H R h
def namesV : SV → List Nat
  | .a x => ptrsOf x.cells
  | .tup l => l.flatMap fun x => ptrsOf x.cells
def fin (roots : List Nat) : Kont A := fun v H n => .done (.val v (gc 1000 (roots ++ namesV v) H) n)
/-- **What the evaluator finds of a function holds of its calls.** -/
def evF (P : Program) [Fast P] (Γ : Ctr A) (g : Nat) (s : Bool) (f : Nat) (args : List SV) (H : SH A) (n : Nat) (roots : List Nat) : Tree A :=
  match Fast.func P f with
  | some fn =>
    match fn.body with
    | some c => evCode P Γ g s c (args ++ List.replicate (fn.ntmps - args.length) .un) H n (ends P fn (fin roots))
    | none => .fail
  | none => .fail
theorem evF_ok {P : Program} [Fast P] (hn : NoGos P) (hm : P.follows .mixedOrders = true) {Γ : Ctr A} (hΓ : CtrOk P Γ) {g f : Nat} {s : Bool} {args : List SV} {H : SH A} {n : Nat} {roots : List Nat} {t : Tree A} (ht : evF P Γ g s f args H n roots = t) {L : Leaf A → Prop} (hl : t.Leads P L)
    {w : World} {R : HProp} (hw : Holds w (hden H * R)) : Calls P f (args.map SV.den).toArray w fun e w' => ∃ v H' n', L (.val v H' n') ∧ e = .returned v.den ∧ Holds w' (hden H' * R) ∧ Strm w w' := by
  subst ht
  have hno : CtrOk P (fun _ _ _ _ _ => none : Ctr A) := fun f args H n k t h => by cases h
  refine callBy_ok (Γ := fun _ _ _ _ _ => none) hno (evCode_ok hn hm hΓ g s) f args H n (fin roots) L hl w R hw _ fun v H' n' w' h1 h2 h3 => ?_
  obtain ⟨R', h4⟩ := gc_holds 1000 (roots ++ namesV v) H' R h2
  exact ⟨v, _, n', h1, rfl, (h4.cast (by show _ = R' * (hden _ * R); ac_rfl)).drop, h3⟩
end
end Go.Proofs.Ytfapicccijbanaa.Ev
