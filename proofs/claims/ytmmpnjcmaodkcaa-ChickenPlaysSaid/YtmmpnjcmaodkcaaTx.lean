/- What is proved: a contract that parts cells of its first argument into what they may be, then runs the function. Conditions: stated with each lemma. -/
import Derived.Test.YtmmpnjcmaodkcaaTk
namespace Go.Proofs.Ytmmpnjcmaodkcaa.Ef
open Go Go.RowKit Go.Proofs.Ytmmpnjcmaodkcaa.Sep Go.Proofs.Ytmmpnjcmaodkcaa.Num Go.Proofs.Ytmmpnjcmaodkcaa.Mem
open Go.Proofs.Ytmmpnjcmaodkcaa.Ev (Fast tyAgg tySize)
set_option maxRecDepth 100000
set_option linter.unusedVariables false
set_option linter.unusedSimpArgs false
set_option linter.unusedSectionVars false
section
variable [Ext] [Exp]
def isSel : Tm → Bool
  | .a2 .sel _ (.a2 .pair _ _) => true
  | .lit _ => true
  | _ => false
/-- A small range: from where, how many. -/
def smallR (r : Rg) : Option (Nat × Nat) :=
  match r.lo, r.hi with
  | some a, some b => bif intLe 0 a && (intLe a b && intLe b (a + 8)) then some (a.toNat, (b - a).toNat + 1) else none
  | _, _ => none
/-- Cells parted into what they may be: those of the mask that are choices. -/
def concCs {α : Type} : List Bool → List SC → Pi → (Pi → List SC → Tree α) → Tree α
  | true :: ms, .int j a :: r, π, k => bif isSel (exK π a) then conc 8 (exK π a) π fun π a' => frcT a' fun a' => concCs ms r π fun π r' => k π (.int j a' :: r')
      else match smallR (rng π a) with
        | some (lo, n) => forkI a (fun π i => concCs ms r π fun π r' => k π (.int j (.lit (i : Int)) :: r')) n lo π
        | none => concCs ms r π fun π r' => k π (.int j a :: r')
  | _ :: ms, c :: r, π, k => concCs ms r π fun π r' => k π (c :: r')
  | _, l, π, k => k π l
/-- The first argument's cells of the mask are parted; then the function is run. -/
def cPre (ms : List Bool) (call : Caller) (f : Nat) : CtrAt := fun args s =>
  match args with
  | .a (.agg l) :: r => some (concCs ms l s.pi fun π l' => call f (.a (.agg l') :: r) ⟨π, s.H, s.n⟩)
  | _ => none
variable [Vars]
def SameC (l' l : List SC) : Prop := (∀ β, l'.map (SC.den β) = l.map (SC.den β)) ∧ ∀ n, lwf n l → lwf n l'
theorem SameC.cons {l' l : List SC} (h : SameC l' l) (c : SC) : SameC (c :: l') (c :: l) :=
  ⟨fun β => by rw [List.map_cons, List.map_cons, h.1 β], fun n hw x hx => by
    rcases List.mem_cons.1 hx with rfl | hx
    · exact hw _ (List.mem_cons_self ..)
    · exact h.2 n (fun y hy => hw y (List.mem_cons_of_mem _ hy)) x hx⟩
theorem SameC.consI {l' l : List SC} (h : SameC l' l) {j : IntKind} {a a' : Tm} (e : a'.den = a.den) : SameC (.int j a' :: l') (.int j a :: l) :=
  ⟨fun β => by
    rw [List.map_cons, List.map_cons, h.1 β]
    congr 1
    show Value.int j a'.v = .int j a.v
    rw [Tm.v, Tm.v, e], fun n hw x hx => by
    rcases List.mem_cons.1 hx with rfl | hx
    · exact trivial
    · exact h.2 n (fun y hy => hw y (List.mem_cons_of_mem _ hy)) x hx⟩
theorem SameC.consV {l' l : List SC} (h : SameC l' l) {j : IntKind} {a a' : Tm} (e : a'.v = a.v) : SameC (.int j a' :: l') (.int j a :: l) :=
  ⟨fun β => by
    rw [List.map_cons, List.map_cons, h.1 β]
    congr 1
    show Value.int j a'.v = .int j a.v
    rw [e], fun n hw x hx => by
    rcases List.mem_cons.1 hx with rfl | hx
    · exact trivial
    · exact h.2 n (fun y hy => hw y (List.mem_cons_of_mem _ hy)) x hx⟩
theorem concCs_leads {α : Type} {L : Bl → α → Prop} {β : Bl} : ∀ {ms : List Bool} {l : List SC} {π : Pi} {k : Pi → List SC → Tree α}, (concCs ms l π k).Leads L β → facts π → ∃ π' l', facts π' ∧ SameC l' l ∧ (k π' l').Leads L β
  | ms, [], π, k, h, hπ => ⟨π, [], hπ, ⟨fun _ => rfl, fun _ h => h⟩, by cases ms with | nil => exact h | cons b _ => cases b <;> exact h⟩
  | [], c :: r, π, k, h, hπ => ⟨π, c :: r, hπ, ⟨fun _ => rfl, fun _ h => h⟩, h⟩
  | b :: ms, c :: r, π, k, h, hπ => by
    have other : (concCs ms r π fun π r' => k π (c :: r')).Leads L β → ∃ π' l', facts π' ∧ SameC l' (c :: r) ∧ (k π' l').Leads L β := fun h => by
      obtain ⟨π', l', h1, h2, h3⟩ := concCs_leads h hπ
      exact ⟨π', c :: l', h1, h2.cons c, h3⟩
    cases b with
    | false => exact other (by unfold concCs at h; exact h)
    | true =>
      cases c with
      | int j a =>
        unfold concCs at h
        rw [Bool.cond_eq_ite] at h
        split at h
        · obtain ⟨π', a', h1, h2, h3⟩ := conc_leads h hπ
          rw [frcT_eq] at h3
          rw [exK_den hπ] at h2
          obtain ⟨π'', l', h4, h5, h6⟩ := concCs_leads h3 h1
          exact ⟨π'', _, h4, h5.consI h2, h6⟩
        · split at h
          · obtain ⟨π', m, h1, h2, h3⟩ := forkI_leads h hπ
            obtain ⟨π'', l', h4, h5, h6⟩ := concCs_leads h3 h1
            exact ⟨π'', _, h4, h5.consV (by rw [lit_v, h2]), h6⟩
          · exact other h
      | _ => exact other (by unfold concCs at h; exact h)
theorem cPre_ok {P : Program} {call : Caller} (hcall : CallerOk P call) (ms : List Bool) (f : Nat) : CAtOk P f (cPre ms call f) := by
  intro args s t ht L β hl ha htp w R hw Q hk
  unfold cPre at ht
  split at ht
  · rename_i l r
    simp only [Option.some.injEq] at ht
    subst ht
    obtain ⟨π', l', h1, h2, h3⟩ := concCs_leads hl hw.pi
    have e : (SV.a (.agg l) :: r).map (SV.den β) = (SV.a (.agg l') :: r).map (SV.den β) := by
      have : (SV.a (.agg l)).den β = (SV.a (.agg l')).den β := by
        show Value.agg (dens β l) = .agg (dens β l')
        unfold dens
        rw [h2.1 β]
      rw [List.map_cons, List.map_cons, this]
    rw [e]
    refine hcall f _ ⟨π', s.H, s.n⟩ L β h3 (fun x hx => ?_) (fun x hx => ?_) w R ⟨h1, hw.wf, hw.hold⟩ Q fun β' v s' w' g1 g2 g3 g4 => hk β' v s' w' g1 g2 g3 ⟨g4.ag, g4.n, g4.at_, g4.st⟩
    · rcases List.mem_cons.1 hx with rfl | hx
      · exact h2.2 _ (ha _ (List.mem_cons_self ..))
      · exact ha _ (List.mem_cons_of_mem _ hx)
    · rcases List.mem_cons.1 hx with rfl | hx
      · rfl
      · exact htp _ (List.mem_cons_of_mem _ hx)
  · cases ht
/-- The same of the second argument. -/
def cPre2 (ms : List Bool) (call : Caller) (f : Nat) : CtrAt := fun args s =>
  match args with
  | x :: .a (.agg l) :: r => some (concCs ms l s.pi fun π l' => call f (x :: .a (.agg l') :: r) ⟨π, s.H, s.n⟩)
  | _ => none
theorem cPre2_ok {P : Program} {call : Caller} (hcall : CallerOk P call) (ms : List Bool) (f : Nat) : CAtOk P f (cPre2 ms call f) := by
  intro args s t ht L β hl ha htp w R hw Q hk
  unfold cPre2 at ht
  split at ht
  · rename_i x0 l r
    simp only [Option.some.injEq] at ht
    subst ht
    obtain ⟨π', l', h1, h2, h3⟩ := concCs_leads hl hw.pi
    have e : (x0 :: SV.a (.agg l) :: r).map (SV.den β) = (x0 :: SV.a (.agg l') :: r).map (SV.den β) := by
      have : (SV.a (.agg l)).den β = (SV.a (.agg l')).den β := by
        show Value.agg (dens β l) = .agg (dens β l')
        unfold dens
        rw [h2.1 β]
      rw [List.map_cons, List.map_cons, List.map_cons, List.map_cons, this]
    rw [e]
    refine hcall f _ ⟨π', s.H, s.n⟩ L β h3 (fun x hx => ?_) (fun x hx => ?_) w R ⟨h1, hw.wf, hw.hold⟩ Q fun β' v s' w' g1 g2 g3 g4 => hk β' v s' w' g1 g2 g3 ⟨g4.ag, g4.n, g4.at_, g4.st⟩
    · rcases List.mem_cons.1 hx with rfl | hx
      · exact ha _ (List.mem_cons_self ..)
      · rcases List.mem_cons.1 hx with rfl | hx
        · exact h2.2 _ (ha _ (List.mem_cons_of_mem _ (List.mem_cons_self ..)))
        · exact ha _ (List.mem_cons_of_mem _ (List.mem_cons_of_mem _ hx))
    · rcases List.mem_cons.1 hx with rfl | hx
      · exact htp _ (List.mem_cons_self ..)
      · rcases List.mem_cons.1 hx with rfl | hx
        · rfl
        · exact htp _ (List.mem_cons_of_mem _ (List.mem_cons_of_mem _ hx))
  · cases ht
end
end Go.Proofs.Ytmmpnjcmaodkcaa.Ef
