/- What is proved: what the second evaluator finds of code and of calls holds of the program. Conditions: the evaluator's own premises. -/
import Derived.Test.YtfapicccijbanaaTi
namespace Go.Proofs.Ytfapicccijbanaa.Ef
open Go Go.Proofs.Ytfapicccijbanaa.Sep
open Go.Proofs.Ytfapicccijbanaa.Ev (Fast tyAgg tySize run_underlying' run_isAgg' run_sizeOf' run_zeroValue')
set_option linter.unusedVariables false
set_option linter.unusedSimpArgs false
set_option linter.unusedSectionVars false
abbrev Ex := Exit × Frm × St
abbrev Ctr := Nat → List SV → St → Option Rt
def loopE (body : Frm → St → Tree Ex) : Nat → Frm → St → Tree Ex
  | 0, _, _ => .fail 31
  | m + 1, fr, s => (body fr s).bind fun q => match q with
    | (e, fr, s) => match e with
      | .normal => loopE body m fr s
      | e => .done (e, fr, s)
def merge (π : Pi) (c : Tm) (ta tb : Tree Ex) : Tree Ex :=
  match ta, tb with
  | .done (.normal, fa, sa), .done (.normal, fb, sb) =>
    bif Nat.beq fb.sz fa.sz && Nat.beq sa.n sb.n then
      match mrgF c fa.t fb.t, mrgH c sa.H sb.H with
      | some z, some H => .done (.normal, ⟨fa.sz, z⟩, ⟨π, H, sa.n⟩)
      | _, _ => .ite c (.done (.normal, fa, sa)) (.done (.normal, fb, sb))
    else .ite c (.done (.normal, fa, sa)) (.done (.normal, fb, sb))
  | ta, tb => .ite c ta tb
def toSA : List SV → Option (List SA)
  | [] => some []
  | .a x :: r => match toSA r with
    | some l => some (x :: l)
    | none => none
  | _ => none
def resOf : List SV → Option SV
  | [v] => some v
  | l => match toSA l with
    | some l => some (.tup l)
    | none => none
/-- Two values and heaps as one, by the truth that parts them. -/
def mrgR (π : Pi) (c : Tm) (a b : SV × St) : Option (SV × St) :=
  bif Nat.beq a.2.n b.2.n then
    match mrgV c a.1 b.1, mrgH c a.2.H b.2.H with
    | .top, _ => none
    | v, some H => some (v, ⟨π, H, a.2.n⟩)
    | _, none => none
  else none
def collapse : Pi → Rt → Rt
  | π, .ite c a b =>
    match collapse ((c, true) :: π) a, collapse ((c, false) :: π) b with
    | .done x, .done y => match mrgR π c x y with
      | some z => .done z
      | none => .ite c (.done x) (.done y)
    | a, b => .ite c a b
  | π, .new n t => .new n (collapse π t)
  | _, t => t
section
variable [Interp] [Rules]
def resV (P : Program) [Fast P] [Ab P] (π : Pi) (fr : Frm) (H : SH) : List ResultVar → Option (List Tm × List SV)
  | [] => some ([], [])
  | .tmp t :: r =>
    match fr.get t, resV P π fr H r with
    | .top, _ => none
    | v, some (ps, l) => some (ps, v :: l)
    | _, none => none
  | .cell a t :: r =>
    match loadV P π t H (fr.get a), resV P π fr H r with
    | some (qs, v), some (ps, l) => some (qs ++ ps, v :: l)
    | _, _ => none
def ends (P : Program) [Fast P] [Ab P] (fn : Func) (q : Ex) : Rt :=
  match q with
  | (e, fr, s) =>
    match e with
    | .normal | .ret =>
      match resV P s.pi fr s.H fn.results.toList with
      | some (ps, l) =>
        match resOf l with
        | some v => needs s.pi ps (frcV v fun v => .done (v, s))
        | none => .fail 32
      | none => .fail 33
    | _ => .fail 34
def callIn (P : Program) [Fast P] [Ab P] (ev : Code → Frm → St → Tree Ex) (f : Nat) (args : List SV) (s : St) : Rt :=
  match Fast.func P f with
  | some fn =>
    match fn.body with
    | some c => bif Nat.blt (args.length + (fn.ntmps - args.length)) 4095 then (ev c (Frm.start fn.ntmps args) s).bind (ends P fn) else .fail 35
    | none => .fail 36
  | none => .fail 37
def callBy (P : Program) [Fast P] [Ab P] (Γ : Ctr) (mf : Nat → Bool) (ev : Bool → Code → Frm → St → Tree Ex) : Caller := fun f args s =>
  match Γ f args s with
  | some t => t
  | none => bif mf f then collapse s.pi (callIn P (ev true) f args s) else callIn P (ev false) f args s
def evReg (P : Program) [Fast P] [Ab P] (call : Caller) (ops : List Oper) (draw : Bool) (fr : Frm) (s : St) : Tree (Frm × St) :=
  bif draw then
    (bif Region.noSelect ops.toArray then frcHeld (gathered P s.pi ops fr s.H) fun S => evAny P call ops S (4 * ops.length + 8) ops.length (Array.replicate ops.length false) fr s else .fail 38)
  else evList P call ops ops fr s
def evCode (P : Program) [Fast P] [Ab P] (Γ : Ctr) (mf : Nat → Bool) : Nat → Bool → Code → Frm → St → Tree Ex
  | 0, _, _, _, _ => .fail 39
  | g + 1, mg, c, fr, s =>
    match c with
    | .skip => .done (.normal, fr, s)
    | .label _ => .done (.normal, fr, s)
    | .ret => .done (.ret, fr, s)
    | .exit id => .done (.exit id, fr, s)
    | .goto l => .done (.goto l, fr, s)
    | .seq a b => (evCode P Γ mf g mg a fr s).bind fun q => match q with
      | (e, fr, s) => match e with
        | .normal => evCode P Γ mf g mg b fr s
        | e => .done (e, fr, s)
    | .block id c => (evCode P Γ mf g mg c fr s).bind fun q => match q with
      | (e, fr, s) => match e with
        | .exit id' => bif Nat.beq id' id then .done (.normal, fr, s) else .done (.exit id', fr, s)
        | e => .done (e, fr, s)
    | .scope c => (evCode P Γ mf g mg c fr s).bind fun q => match q with
      | (e, fr, s) => match e with
        | .goto l => match findLabel c l with
          | some rest => (evCode P Γ mf g mg rest fr s).bind fun q => match q with
            | (e, fr, s) => match e with
              | .goto _ => .fail 40
              | e => .done (e, fr, s)
          | none => .fail 41
        | e => .done (e, fr, s)
    | .cond x a b =>
      match opnd fr x with
      | .a (.one (.bool c)) =>
        bif mg then
          match dec s.pi c with
          | some t => evCode P Γ mf g mg (bif t then a else b) fr s
          | none => merge s.pi c (evCode P Γ mf g mg a fr ⟨(c, true) :: s.pi, s.H, s.n⟩) (evCode P Γ mf g mg b fr ⟨(c, false) :: s.pi, s.H, s.n⟩)
        else br c s.pi fun π t => evCode P Γ mf g mg (bif t then a else b) fr ⟨π, s.H, s.n⟩
      | _ => .fail 42
    | .loop c => loopE (evCode P Γ mf g mg c) g fr s
    | .region _ ops draw => (evReg P (callBy P Γ mf (evCode P Γ mf g)) ops.toList draw fr s).bind fun q => match q with
      | (fr, s) => .done (.normal, fr, s)
    | _ => .fail 43
/-- **A function, by the evaluator.** -/
def evF (P : Program) [Fast P] [Ab P] (Γ : Ctr) (mf : Nat → Bool) (mg : Bool) (g f : Nat) (args : List SV) (s : St) : Rt := callIn P (evCode P Γ mf g mg) f args s
variable [Vars]
/-- What a table of contracts says holds of the program. -/
def CtrOk (P : Program) (Γ : Ctr) : Prop :=
  ∀ f args s t, Γ f args s = some t → ∀ (L : Bl → SV × St → Prop) β, t.Leads L β → (∀ x ∈ args, x.wf s.n) → (∀ x ∈ args, x.isTop = false) → ∀ (w : World) (R : HProp), At β s w R → ∀ Q : Ending → World → Prop,
    (∀ β' v s' w', L β' (v, s') → v.wf s'.n → v.isTop = false → Out β s w R β' s' w' → Q (.returned (v.den β')) w') → Calls P f (args.map (SV.den β)).toArray w Q
theorem resV_ok {P : Program} [Fast P] [Ab P] [AbOk P] {π : Pi} (hπ : facts π) {n : Nat} {β : Bl} {fr : Frm} {a : Array Value} (hf : FrIs n β fr a) {H : SH} (hH : hwf n H) {w : World} {R : HProp} (hw : Holds w (hden β H * R)) : ∀ (l : List ResultVar) (ps : List Tm) (vs : List SV), resV P π fr H l = some (ps, vs) → (∀ p ∈ ps, p.tv = true) →
    (l.mapM fun
      | .tmp t => pure (a.getD t undef)
      | .cell d t => do loadVar t (← asAddr (a.getD d undef)) : Sem (List Value)).run P w = .ok (vs.map (SV.den β)) w ∧ (∀ v ∈ vs, v.wf n) ∧ ∀ v ∈ vs, v.isTop = false
  | [], ps, vs, h, hp => by simp [resV] at h; obtain ⟨rfl, rfl⟩ := h; exact ⟨rfl, fun v hv => (by cases hv), fun v hv => (by cases hv)⟩
  | .tmp t :: r, ps, vs, h, hp => by
    unfold resV at h
    split at h
    · cases h
    · rename_i ps' l hr hne
      simp only [Option.some.injEq, Prod.mk.injEq] at h
      obtain ⟨rfl, rfl⟩ := h
      obtain ⟨ih, i1, i2⟩ := resV_ok hπ hf hH hw r ps' l hr hp
      have nt : (fr.get t).isTop = false := notTop fun e => by first | exact hne e | exact absurd e (by assumption)
      have e : a.getD t undef = (fr.get t).den β := hf.get t nt
      refine ⟨?_, fun v hv => ?_, fun v hv => ?_⟩
      · rw [List.mapM_cons]
        simp only [Sem.run_bind, Sem.run_pure, Result.andThen_ok, ih, e, List.map_cons]
      · rcases List.mem_cons.1 hv with rfl | hv
        · exact hf.wf t
        · exact i1 v hv
      · rcases List.mem_cons.1 hv with rfl | hv
        · exact nt
        · exact i2 v hv
    · simp at h
  | .cell d t :: r, ps, vs, h, hp => by
    unfold resV at h
    split at h
    · rename_i qs v ps' l hl hr
      simp at h
      obtain ⟨rfl, rfl⟩ := h
      obtain ⟨ih, i1, i2⟩ := resV_ok hπ hf hH hw r ps' l hr (fun p hp' => hp p (by simp [hp']))
      have nt : (fr.get d).isTop = false := by
        unfold loadV at hl
        split at hl
        · rename_i e; rw [e]; rfl
        · rename_i e; rw [e]; rfl
        · cases hl
      have e : a.getD d undef = (fr.get d).den β := hf.get d nt
      have hv := run_loadV (P := P) hπ hl (fun p hp' => hp p (by simp [hp'])) hw
      have hv' : (do loadVar t (← asAddr (a.getD d undef)) : Sem Value).run P w = .ok (v.den β) w := by
        unfold loadV at hl
        split at hl
        · rename_i nm off hx
          rw [e, hx]
          rw [hx] at hv
          exact hv
        · rename_i nm i st o hx
          rw [e, hx]
          rw [hx] at hv
          exact hv
        · simp at hl
      refine ⟨?_, fun u hu => ?_, fun u hu => ?_⟩
      · rw [List.mapM_cons]
        simp only [Sem.run_bind] at hv' ⊢
        simp only [hv', Sem.run_pure, Result.andThen_ok, ih, List.map_cons]
      · rcases List.mem_cons.1 hu with rfl | hu
        · exact loadV_wf hl hH
        · exact i1 u hu
      · rcases List.mem_cons.1 hu with rfl | hu
        · exact loadV_top hl
        · exact i2 u hu
    · simp at h
theorem toSA_den (β : Bl) : ∀ (l : List SV) (r : List SA), toSA l = some r → l.map (SV.den β) = r.map (SA.den β)
  | [], r, h => by simp [toSA] at h; subst h; rfl
  | .a x :: l, r, h => by
    simp only [toSA] at h
    split at h
    · rename_i r' hl
      simp at h
      subst h
      simp only [List.map_cons, toSA_den β l r' hl]
      rfl
    · cases h
  | .tup _ :: l, r, h => by simp [toSA] at h
  | .top :: l, r, h => by simp [toSA] at h
theorem toSA_wf {n : Nat} : ∀ (l : List SV) (r : List SA), toSA l = some r → (∀ v ∈ l, v.wf n) → ∀ x ∈ r, x.wf n
  | [], r, h, hl => by simp [toSA] at h; subst h; intro x hx; cases hx
  | .a x :: l, r, h, hl => by
    simp only [toSA] at h
    split at h
    · rename_i r' hr
      simp at h
      subst h
      intro y hy
      rcases List.mem_cons.1 hy with rfl | hy
      · exact hl _ (List.mem_cons_self ..)
      · exact toSA_wf l r' hr (fun v hv => hl v (List.mem_cons_of_mem _ hv)) y hy
    · cases h
  | .tup _ :: l, r, h, hl => by simp [toSA] at h
  | .top :: l, r, h, hl => by simp [toSA] at h
theorem resOf_wf {n : Nat} {l : List SV} {v : SV} (h : resOf l = some v) (hl : ∀ v ∈ l, v.wf n) (ht : ∀ v ∈ l, v.isTop = false) : v.wf n ∧ v.isTop = false := by
  unfold resOf at h
  split at h
  · simp at h; subst h; exact ⟨hl _ (List.mem_cons_self ..), ht _ (List.mem_cons_self ..)⟩
  · split at h
    · rename_i hr; simp at h; subst h; exact ⟨toSA_wf _ _ hr hl, rfl⟩
    · cases h
theorem results_ok {P : Program} [Fast P] [Ab P] [AbOk P] {π : Pi} (hπ : facts π) {fn : Func} {n : Nat} {β : Bl} {fr : Frm} {a : Array Value} (hf : FrIs n β fr a) {H : SH} (hH : hwf n H) {w : World} {R : HProp} (hw : Holds w (hden β H * R)) {ps : List Tm} {l : List SV} {v : SV} (h : resV P π fr H fn.results.toList = some (ps, l)) (hp : ∀ p ∈ ps, p.tv = true) (hv : resOf l = some v) :
    (results fn a).run P w = .ok (v.den β) w ∧ v.wf n ∧ v.isTop = false := by
  obtain ⟨h1, i1, i2⟩ := resV_ok hπ hf hH hw _ ps l h hp
  refine ⟨?_, resOf_wf hv i1 i2⟩
  suffices key : ∀ r, r = Result.ok (l.map (SV.den β)) w → ((r.andThen fun a w' => Result.ok a.toArray w').andThen fun vs w' => (pure (if h : vs.size = 1 then vs[0] else .tuple vs) : Sem Value).run P w') = .ok (v.den β) w by
    unfold results
    rw [Array.mapM_eq_mapM_toList, Sem.run_bind, Sem.run_map]
    exact key _ h1
  intro r hr
  subst hr
  simp only [Result.andThen_ok]
  unfold resOf at hv
  split at hv
  · rename_i v'
    simp at hv
    subst hv
    simp
  · rename_i hne
    split at hv
    · rename_i r ht
      simp at hv
      subst hv
      have e := toSA_den β l r ht
      have hs : ¬ (l.map (SV.den β)).toArray.size = 1 := by
        intro hh
        have hh' : l.length = 1 := by simpa using hh
        match l, hh' with
        | [v], _ => exact hne v rfl
      rw [dif_neg hs, Sem.run_pure, e]
      rfl
    · cases hv
/-- What the evaluator finds of code holds. -/
def CodeOk (P : Program) (ev : Code → Frm → St → Tree Ex) : Prop :=
  ∀ (c : Code) (fr : Frm) (s : St) (L : Bl → Ex → Prop) (β : Bl) (a : Act) (w : World) (R : HProp) (Q : Exit → Act → World → Prop), (ev c fr s).Leads L β → FrIs s.n β fr a.tmps → a.defers = [] → At β s w R →
    (∀ β' e fr' s' a' w', L β' (e, fr', s') → FrIs s'.n β' fr' a'.tmps → a'.defers = [] → Out β s w R β' s' w' → Q e a' w') → c.wp P Q a w
theorem callIn_ok {P : Program} [Fast P] [Ab P] [AbOk P] {ev : Code → Frm → St → Tree Ex} (hev : CodeOk P ev) : CallerOk P (callIn P ev) := by
  intro f args s L β hl hwf htop w R hw Q hk
  unfold callIn at hl
  split at hl
  · rename_i fn hf
    split at hl
    · rename_i c hc
      rw [Bool.cond_eq_ite] at hl
      split at hl
      · rename_i hlt
        refine calls_of_wp (Fast.func_ok hf) hc ?_
        have hs := start_is (n := s.n) (β := β) (k := fn.ntmps) (args := args) (Nat.le_of_ble_eq_true hlt) hwf htop
        refine hev c _ s _ β _ w R _ (bind_leads hl) hs rfl hw fun β' e fr' s' a' w' h1 h2 hd h3 => ?_
        unfold ends at h1
        have key : ∀ {ps l v}, resV P s'.pi fr' s'.H fn.results.toList = some (ps, l) → resOf l = some v → (needs s'.pi ps (frcV v fun v => Tree.done (v, s'))).Leads L β' → ∃ v, (results fn a'.tmps).run P w' = .ok v w' ∧ Q (.returned v) w' := by
          intro ps l v hr hv hn
          obtain ⟨g1, g2⟩ := needs_leads h3.at_.pi hn
          rw [frcV_eq] at g2
          obtain ⟨r1, r2, r3⟩ := results_ok h3.at_.pi h2 h3.at_.wf h3.at_.hold hr g1 hv
          exact ⟨v.den β', r1, hk β' v s' w' g2 r2 r3 h3⟩
        cases e with
        | normal =>
          simp only at h1
          split at h1
          · rename_i ps l hr
            split at h1
            · rename_i v hv
              obtain ⟨v, k1, k2⟩ := key hr hv h1
              exact ⟨hd, v, k1, k2⟩
            · exact h1.elim
          · exact h1.elim
        | ret =>
          simp only at h1
          split at h1
          · rename_i ps l hr
            split at h1
            · rename_i v hv
              obtain ⟨v, k1, k2⟩ := key hr hv h1
              exact ⟨hd, v, k1, k2⟩
            · exact h1.elim
          · exact h1.elim
        | exit id => exact h1.elim
        | goto l => exact h1.elim
        | panic ch => exact h1.elim
        | outgrown => exact h1.elim
      · exact hl.elim
    · exact hl.elim
  · exact hl.elim
/-- The second says no less of the heap than the first. -/
structure Coarse (β : Bl) (q q' : SV × St) : Prop where
  v : q'.1.den β = q.1.den β
  vw : ∀ n, q.1.wf n → q'.1.wf n
  t : q.1.isTop = false → q'.1.isTop = false
  H : hden β q'.2.H = hden β q.2.H
  n : q'.2.n = q.2.n
  Hw : ∀ n, hwf n q.2.H → hwf n q'.2.H
  pi : facts q.2.pi → facts q'.2.pi
theorem Coarse.refl (β : Bl) (q : SV × St) : Coarse β q q := ⟨rfl, fun _ h => h, fun h => h, rfl, rfl, fun _ h => h, fun h => h⟩
theorem Coarse.trans {β : Bl} {a b c : SV × St} (h : Coarse β a b) (k : Coarse β b c) : Coarse β a c :=
  ⟨k.v.trans h.v, fun n x => k.vw n (h.vw n x), fun x => k.t (h.t x), k.H.trans h.H, k.n.trans h.n, fun n x => k.Hw n (h.Hw n x), fun x => k.pi (h.pi x)⟩
theorem mrgR_ok {π : Pi} (hπ : facts π) {c : Tm} {a b z : SV × St} (h : mrgR π c a b = some z) (β : Bl) : (c.tv = true → Coarse β a z) ∧ (c.tv = false → Coarse β b z) := by
  unfold mrgR at h
  rw [Bool.cond_eq_ite] at h
  split at h
  · rename_i hn
    have hn := Nat.eq_of_beq_eq_true hn
    split at h
    · cases h
    · rename_i H hH hne
      simp only [Option.some.injEq] at h
      subst h
      have nt : (mrgV c a.1 b.1).isTop = false := notTop fun e => by first | exact hne e | exact absurd e (by assumption)
      obtain ⟨e, t1, t2⟩ := mrgV_den c _ _ β nt
      have eH := mrgH_den β hH
      refine ⟨fun hc => ⟨by rw [e, hc]; rfl, fun n h => mrgV_wf c (.inl h), fun _ => nt, by rw [eH, hc]; rfl, rfl, fun n h => mrgH_wf hH (.inl h), fun _ => hπ⟩,
        fun hc => ⟨by rw [e, hc]; rfl, fun n h => mrgV_wf c (.inr h), fun _ => nt, by rw [eH, hc]; rfl, hn, fun n h => mrgH_wf hH (.inr h), fun _ => hπ⟩⟩
    · cases h
  · cases h
theorem collapse_leads : ∀ {t : Rt} {π : Pi} {L : Bl → SV × St → Prop} {β : Bl}, facts π → (collapse π t).Leads L β → t.Leads (fun β' q => ∃ q', Coarse β' q q' ∧ L β' q') β
  | .done x, π, L, β, hπ, h => ⟨x, Coarse.refl _ _, h⟩
  | .new n t, π, L, β, hπ, h => fun b => collapse_leads hπ (h b)
  | .both a b, π, L, β, hπ, h => Tree.Leads.mono (t := .both a b) (fun β' q h => ⟨q, Coarse.refl _ _, h⟩) h
  | .fail i, π, L, β, hπ, h => h.elim
  | .ite c a b, π, L, β, hπ, h => by
    unfold collapse at h
    split at h
    · rename_i x y hx hy
      have ka : c.tv = true → a.Leads (fun β' q => ∃ q', Coarse β' q q' ∧ (β' = β ∧ q' = x)) β := fun hc =>
        collapse_leads (L := fun β' q' => β' = β ∧ q' = x) (facts_cons hπ hc) (by rw [hx]; exact ⟨rfl, rfl⟩)
      have kb : c.tv = false → b.Leads (fun β' q => ∃ q', Coarse β' q q' ∧ (β' = β ∧ q' = y)) β := fun hc =>
        collapse_leads (L := fun β' q' => β' = β ∧ q' = y) (facts_cons hπ hc) (by rw [hy]; exact ⟨rfl, rfl⟩)
      split at h
      · rename_i z hz
        refine ⟨fun hc => Tree.Leads.mono (fun β' q hq => ?_) (ka hc), fun hc => Tree.Leads.mono (fun β' q hq => ?_) (kb hc)⟩
        · obtain ⟨q', c1, rfl, rfl⟩ := hq
          exact ⟨z, c1.trans ((mrgR_ok hπ hz _).1 hc), h⟩
        · obtain ⟨q', c1, rfl, rfl⟩ := hq
          exact ⟨z, c1.trans ((mrgR_ok hπ hz _).2 hc), h⟩
      · refine ⟨fun hc => Tree.Leads.mono (fun β' q hq => ?_) (ka hc), fun hc => Tree.Leads.mono (fun β' q hq => ?_) (kb hc)⟩
        · obtain ⟨q', c1, rfl, rfl⟩ := hq
          exact ⟨q', c1, h.1 hc⟩
        · obtain ⟨q', c1, rfl, rfl⟩ := hq
          exact ⟨q', c1, h.2 hc⟩
    · exact ⟨fun hc => collapse_leads (facts_cons hπ hc) (h.1 hc), fun hc => collapse_leads (facts_cons hπ hc) (h.2 hc)⟩
theorem callBy_ok {P : Program} [Fast P] [Ab P] [AbOk P] {Γ : Ctr} (hΓ : CtrOk P Γ) {mf : Nat → Bool} {ev : Bool → Code → Frm → St → Tree Ex} (hev : ∀ mg, CodeOk P (ev mg)) : CallerOk P (callBy P Γ mf ev) := by
  intro f args s L β hl hwf htop w R hw Q hk
  unfold callBy at hl
  split at hl
  · rename_i t ht
    exact hΓ f args s t ht L β hl hwf htop w R hw Q hk
  · rw [Bool.cond_eq_ite] at hl
    split at hl
    · refine callIn_ok (hev true) f args s _ β (collapse_leads hw.pi hl) hwf htop w R hw Q fun β' v s' w' h1 h2 h3 h4 => ?_
      obtain ⟨⟨v', s''⟩, c, hL⟩ := h1
      have := hk β' v' s'' w' hL (by rw [show s''.n = s'.n from c.n]; exact c.vw _ h2) (c.t h3) ⟨h4.ag, by rw [show s''.n = s'.n from c.n]; exact h4.n, ⟨c.pi h4.at_.pi, by rw [show s''.n = s'.n from c.n]; exact c.Hw _ h4.at_.wf, by rw [show hden β' s''.H = hden β' s'.H from c.H]; exact h4.at_.hold⟩, h4.st⟩
      rw [show v'.den β' = v.den β' from c.v] at this
      exact this
    · exact callIn_ok (hev false) f args s L β hl hwf htop w R hw Q hk
theorem loopE_ok {P : Program} {c : Code} {body : Frm → St → Tree Ex}
    (hb : ∀ (fr : Frm) (s : St) (L : Bl → Ex → Prop) (β : Bl) (a : Act) (w : World) (R : HProp) (Q : Exit → Act → World → Prop), (body fr s).Leads L β → FrIs s.n β fr a.tmps → a.defers = [] → At β s w R →
      (∀ β' e fr' s' a' w', L β' (e, fr', s') → FrIs s'.n β' fr' a'.tmps → a'.defers = [] → Out β s w R β' s' w' → Q e a' w') → c.wp P Q a w) :
    ∀ (m : Nat) (fr : Frm) (s : St) (L : Bl → Ex → Prop) (β : Bl) (a : Act) (w : World) (R : HProp) (Q : Exit → Act → World → Prop), (loopE body m fr s).Leads L β → FrIs s.n β fr a.tmps → a.defers = [] → At β s w R →
      (∀ β' e fr' s' a' w', L β' (e, fr', s') → FrIs s'.n β' fr' a'.tmps → a'.defers = [] → Out β s w R β' s' w' → Q e a' w') → Code.rounds P c Q m a w
  | 0, fr, s, L, β, a, w, R, Q, hl, hf, hd, hw, hk => hl.elim
  | m + 1, fr, s, L, β, a, w, R, Q, hl, hf, hd, hw, hk => by
    rw [rounds_succ]
    refine hb fr s _ β a w R _ (bind_leads hl) hf hd hw fun β' e fr' s' a' w' h1 h2 h3 h4 => ?_
    cases e with
    | normal => exact loopE_ok hb m fr' s' L β' a' w' R Q h1 h2 h3 h4.at_ fun β'' e fr'' s'' a'' w'' k1 k2 k3 k4 => hk β'' e fr'' s'' a'' w'' k1 k2 k3 (h4.trans k4)
    | exit id => exact hk β' _ fr' s' a' w' h1 h2 h3 h4
    | goto l => exact hk β' _ fr' s' a' w' h1 h2 h3 h4
    | ret => exact hk β' _ fr' s' a' w' h1 h2 h3 h4
    | panic ch => exact hk β' _ fr' s' a' w' h1 h2 h3 h4
    | outgrown => exact hk β' _ fr' s' a' w' h1 h2 h3 h4
theorem merge_leads {π : Pi} (hπ : facts π) {c : Tm} {ta tb : Tree Ex} {L : Bl → Ex → Prop} {β : Bl} (h : (merge π c ta tb).Leads L β) :
    (bif c.tv then ta else tb).Leads (fun β' q => L β' q ∨ ∃ (fa fb : Frm) (sa sb : St) (z : Fr) (H : SH), q = (bif c.tv then (.normal, fa, sa) else (.normal, fb, sb)) ∧ mrgF c fa.t fb.t = some z ∧ fb.sz = fa.sz ∧ mrgH c sa.H sb.H = some H ∧ sa.n = sb.n ∧ L β' (.normal, ⟨fa.sz, z⟩, ⟨π, H, sa.n⟩)) β := by
  have plain : ∀ {ta tb : Tree Ex}, (Tree.ite c ta tb).Leads L β → (bif c.tv then ta else tb).Leads (fun β' q => L β' q ∨ ∃ (fa fb : Frm) (sa sb : St) (z : Fr) (H : SH), q = (bif c.tv then (.normal, fa, sa) else (.normal, fb, sb)) ∧ mrgF c fa.t fb.t = some z ∧ fb.sz = fa.sz ∧ mrgH c sa.H sb.H = some H ∧ sa.n = sb.n ∧ L β' (.normal, ⟨fa.sz, z⟩, ⟨π, H, sa.n⟩)) β := by
    intro ta tb h
    cases hc : c.tv with
    | true => exact Tree.Leads.mono (fun _ _ h => .inl h) (h.1 hc)
    | false => exact Tree.Leads.mono (fun _ _ h => .inl h) (h.2 hc)
  unfold merge at h
  split at h
  · rename_i fa sa fb sb
    rw [Bool.cond_eq_ite] at h
    split at h
    · rename_i hb
      rw [Bool.and_eq_true] at hb
      split at h
      · rename_i z H hz hH
        have := h
        cases hc : c.tv with
        | true => exact .inr ⟨fa, fb, sa, sb, z, H, rfl, hz, Nat.eq_of_beq_eq_true hb.1, hH, Nat.eq_of_beq_eq_true hb.2, h⟩
        | false => exact .inr ⟨fa, fb, sa, sb, z, H, rfl, hz, Nat.eq_of_beq_eq_true hb.1, hH, Nat.eq_of_beq_eq_true hb.2, h⟩
      · exact plain h
    · exact plain h
  · exact plain h
theorem wp_scope_goto {P : Program} {c : Code} {Q : Exit → Act → World → Prop} {a : Act} {w : World}
    (h : c.wp P (fun e a w => match e with | .goto l => ∃ rest, findLabel c l = some rest ∧ rest.wp P (Exit.noGoto Q) a w | e => Q e a w) a w) : (Code.scope c).wp P Q a w := by
  intro b k cs
  obtain ⟨e, a₁, w₁, hq, harr⟩ := h b (.inScope c :: k) cs
  cases e with
  | normal => exact ⟨.normal, a₁, w₁, hq, .head step_scope (Steps.trans harr (.one step_inScope))⟩
  | exit id => exact ⟨.exit id, a₁, w₁, hq, fun k' hk => .head step_scope (harr k' (by simp [exitTo, hk]))⟩
  | goto l =>
    obtain ⟨rest, hf, hr⟩ := hq
    have hg : gotoIn l (.inScope c :: k) = some (.code rest :: .inScope c :: k) := by simp [gotoIn, hf]
    have hs := harr _ hg
    obtain ⟨e, a₂, w₂, hq₂, harr₂⟩ := hr b (.inScope c :: k) cs
    cases e with
    | normal => exact ⟨.normal, a₂, w₂, hq₂, .head step_scope (Steps.trans hs (Steps.trans harr₂ (.one step_inScope)))⟩
    | exit id => exact ⟨.exit id, a₂, w₂, hq₂, .of_steps (.head step_scope hs) (fun k' hk => harr₂ k' (by simp [exitTo, hk]) : Arrives P _ b k cs (.exit id) a₂ w₂)⟩
    | goto l => exact hq₂.elim
    | ret => exact ⟨_, a₂, w₂, hq₂, .of_steps (.head step_scope hs) harr₂⟩
    | panic ch => exact ⟨_, a₂, w₂, hq₂, .of_steps (.head step_scope hs) harr₂⟩
    | outgrown => exact ⟨_, a₂, w₂, hq₂, .of_steps (.head step_scope hs) harr₂⟩
  | ret => exact ⟨_, a₁, w₁, hq, .of_steps (.one step_scope) harr⟩
  | panic ch => exact ⟨_, a₁, w₁, hq, .of_steps (.one step_scope) harr⟩
  | outgrown => exact ⟨_, a₁, w₁, hq, .of_steps (.one step_scope) harr⟩
theorem evReg_ok {P : Program} [Fast P] [Ab P] [AbOk P] (hn : NoGos P) (hm : P.follows .mixedOrders = true) {call : Caller} (hcall : CallerOk P call) {id : Nat} {ops : Array Oper} {draw : Bool} {fr : Frm} {s : St} {L : Bl → Frm × St → Prop} {β : Bl} {a : Act} {w : World} {R : HProp} {Q : Exit → Act → World → Prop}
    (hl : (evReg P call ops.toList draw fr s).Leads L β) (hf : FrIs s.n β fr a.tmps) (hd : a.defers = []) (hw : At β s w R)
    (hk : ∀ β' fr' s' a' w', L β' (fr', s') → FrIs s'.n β' fr' a'.tmps → a'.defers = [] → Out β s w R β' s' w' → Q .normal a' w') : (Code.region id ops draw).wp P Q a w := by
  unfold evReg at hl
  cases draw with
  | true =>
    simp only [cond_true] at hl
    rw [Bool.cond_eq_ite] at hl
    split at hl
    · rename_i hns
      rw [frcHeld_eq] at hl
      have hwd : At β s { w with drawn := w.drawn + 1 } R := ⟨hw.pi, hw.wf, hw.hold⟩
      refine wp_region_noPanic ?_
      refine wp_region_held (S := heldS (gathered P s.pi ops.toList fr s.H) β) hm ?_
      have := evAny_ok hn hcall (ops := ops.toList) (S := gathered P s.pi ops.toList fr s.H) (n0 := s.n) (gathered_wf hw.wf) (β0 := β) hns (Q := NoPanic Q) (fun c a a' w h => h) _ _ _ fr s β a _ hl hf hd hwd (Nat.le_refl _) (Ag.refl _ _) (gathered_held hwd.hold)
        (fun β' fr' s' a' w' k1 k2 k3 k4 => hk β' fr' s' a' w' k1 k2 k3 ⟨k4.ag, k4.n, k4.at_, ⟨k4.st.os, k4.st.tape, k4.st.output, k4.st.size⟩⟩)
      simpa using this
    · exact hl.elim
  | false =>
    simp only [cond_false] at hl
    refine wp_region_list ?_
    have := evList_ok hn hcall (ops := ops.toList) ops.toList fr s β a w hl hf hd hw (Q := Q) (fun β' fr' s' a' w' k1 k2 k3 k4 => hk β' fr' s' a' w' k1 k2 k3 k4)
    simpa using this
theorem evCode_ok {P : Program} [Fast P] [Ab P] [AbOk P] (hn : NoGos P) (hm : P.follows .mixedOrders = true) {Γ : Ctr} (hΓ : CtrOk P Γ) (mf : Nat → Bool) : ∀ g mg, CodeOk P (evCode P Γ mf g mg)
  | 0, mg => fun c fr s L β a w R Q hl hf hd hw hk => hl.elim
  | g + 1, mg => fun c fr s L β a w R Q hl hf hd hw hk => by
    have ih := evCode_ok hn hm hΓ mf g mg
    have hcall := callBy_ok (mf := mf) hΓ (evCode_ok hn hm hΓ mf g)
    unfold evCode at hl
    cases c with
    | skip => exact wp_skip (hk β _ fr s a w hl hf hd (Out.refl hw))
    | label l => exact wp_label (hk β _ fr s a w hl hf hd (Out.refl hw))
    | ret => exact wp_ret (hk β _ fr s a w hl hf hd (Out.refl hw))
    | exit id => exact wp_exit (hk β _ fr s a w hl hf hd (Out.refl hw))
    | goto l => exact wp_goto (hk β _ fr s a w hl hf hd (Out.refl hw))
    | seq x y =>
      refine wp_seq (ih x fr s _ β a w R _ (bind_leads hl) hf hd hw fun β' e fr' s' a' w' h1 h2 h3 h4 => ?_)
      cases e with
      | normal => exact ih y fr' s' L β' a' w' R Q h1 h2 h3 h4.at_ fun β'' e fr'' s'' a'' w'' k1 k2 k3 k4 => hk β'' e fr'' s'' a'' w'' k1 k2 k3 (h4.trans k4)
      | exit id => exact hk β' _ fr' s' a' w' h1 h2 h3 h4
      | goto l => exact hk β' _ fr' s' a' w' h1 h2 h3 h4
      | ret => exact hk β' _ fr' s' a' w' h1 h2 h3 h4
      | panic ch => exact hk β' _ fr' s' a' w' h1 h2 h3 h4
      | outgrown => exact hk β' _ fr' s' a' w' h1 h2 h3 h4
    | block id c =>
      refine wp_block (ih c fr s _ β a w R _ (bind_leads hl) hf hd hw fun β' e fr' s' a' w' h1 h2 h3 h4 => ?_)
      cases e with
      | exit id' =>
        simp only at h1
        simp only [Exit.inBlock]
        cases hid : Nat.beq id' id with
        | true =>
          rw [hid] at h1
          rw [if_pos (Nat.eq_of_beq_eq_true hid)]
          exact hk β' _ fr' s' a' w' h1 h2 h3 h4
        | false =>
          rw [hid] at h1
          rw [if_neg (fun h => by rw [h, Nat.beq_refl] at hid; cases hid)]
          exact hk β' _ fr' s' a' w' h1 h2 h3 h4
      | normal => exact hk β' _ fr' s' a' w' h1 h2 h3 h4
      | goto l => exact hk β' _ fr' s' a' w' h1 h2 h3 h4
      | ret => exact hk β' _ fr' s' a' w' h1 h2 h3 h4
      | panic ch => exact hk β' _ fr' s' a' w' h1 h2 h3 h4
      | outgrown => exact hk β' _ fr' s' a' w' h1 h2 h3 h4
    | scope c =>
      refine wp_scope_goto (ih c fr s _ β a w R _ (bind_leads hl) hf hd hw fun β' e fr' s' a' w' h1 h2 h3 h4 => ?_)
      cases e with
      | goto l =>
        simp only at h1
        split at h1
        · rename_i rest hrest
          refine ⟨rest, hrest, ih rest fr' s' _ β' a' w' R _ (bind_leads h1) h2 h3 h4.at_ fun β'' e fr'' s'' a'' w'' k1 k2 k3 k4 => ?_⟩
          cases e with
          | goto l => exact k1.elim
          | exit id => exact hk β'' _ fr'' s'' a'' w'' k1 k2 k3 (h4.trans k4)
          | normal => exact hk β'' _ fr'' s'' a'' w'' k1 k2 k3 (h4.trans k4)
          | ret => exact hk β'' _ fr'' s'' a'' w'' k1 k2 k3 (h4.trans k4)
          | panic ch => exact hk β'' _ fr'' s'' a'' w'' k1 k2 k3 (h4.trans k4)
          | outgrown => exact hk β'' _ fr'' s'' a'' w'' k1 k2 k3 (h4.trans k4)
        · exact h1.elim
      | exit id => exact hk β' _ fr' s' a' w' h1 h2 h3 h4
      | normal => exact hk β' _ fr' s' a' w' h1 h2 h3 h4
      | ret => exact hk β' _ fr' s' a' w' h1 h2 h3 h4
      | panic ch => exact hk β' _ fr' s' a' w' h1 h2 h3 h4
      | outgrown => exact hk β' _ fr' s' a' w' h1 h2 h3 h4
    | cond x c1 c2 =>
      simp only at hl
      split at hl
      · rename_i c hx
        have ec : a.eval x = .bool c.tv := (opnd_is hf hx rfl).1
        rw [Bool.cond_eq_ite] at hl
        split at hl
        · split at hl
          · rename_i t hd'
            have := dec_ok hw.pi hd'
            rw [this] at ec
            cases t with
            | true => exact wp_cond_true ec (ih c1 fr s L β a w R Q hl hf hd hw hk)
            | false => exact wp_cond_false ec (ih c2 fr s L β a w R Q hl hf hd hw hk)
          · have hm2 := merge_leads hw.pi hl
            have fin : ∀ (s1 : St), Out β s w R β s1 w → ∀ cc : Code, (evCode P Γ mf g mg cc fr s1).Leads (fun β' q => L β' q ∨ ∃ (fa fb : Frm) (sa sb : St) (z : Fr) (H : SH), q = (bif c.tv then (.normal, fa, sa) else (.normal, fb, sb)) ∧ mrgF c fa.t fb.t = some z ∧ fb.sz = fa.sz ∧ mrgH c sa.H sb.H = some H ∧ sa.n = sb.n ∧ L β' (.normal, ⟨fa.sz, z⟩, ⟨s.pi, H, sa.n⟩)) β → cc.wp P Q a w := by
              intro s1 h1 cc hcc
              refine ih cc fr s1 _ β a w R Q hcc (hf.mono h1.n h1.ag) hd h1.at_ fun β' e fr' s' a' w' k1 k2 k3 k4 => ?_
              rcases k1 with k1 | ⟨fa, fb, sa, sb, z, H, hq, hz, hsz, hH, hnn, hL⟩
              · exact hk β' e fr' s' a' w' k1 k2 k3 (h1.trans k4)
              · have k5 := h1.trans k4
                cases hc : c.tv with
                | true =>
                  rw [hc] at hq
                  simp only [cond_true, Prod.mk.injEq] at hq
                  obtain ⟨rfl, rfl, rfl⟩ := hq
                  have e1 : hden β' H = hden β' s'.H := by rw [mrgH_den β' hH, hc]; rfl
                  exact hk β' _ _ _ a' w' hL (mrgF_is hz hsz (by rw [hc]; exact k2)) k3 ⟨k5.ag, k5.n, ⟨hw.pi, mrgH_wf hH (.inl k5.at_.wf), by show Holds w' (hden β' H * R); rw [e1]; exact k5.at_.hold⟩, k5.st⟩
                | false =>
                  rw [hc] at hq
                  simp only [cond_false, Prod.mk.injEq] at hq
                  obtain ⟨rfl, rfl, rfl⟩ := hq
                  have e1 : hden β' H = hden β' s'.H := by rw [mrgH_den β' hH, hc]; rfl
                  refine hk β' _ _ _ a' w' hL (mrgF_is hz hsz (by rw [hc]; show FrIs sa.n β' fr' a'.tmps; rw [hnn]; exact k2)) k3 ⟨k5.ag, by show s.n ≤ sa.n; rw [hnn]; exact k5.n, ⟨hw.pi, by show hwf sa.n H; rw [hnn]; exact mrgH_wf hH (.inr k5.at_.wf), by show Holds w' (hden β' H * R); rw [e1]; exact k5.at_.hold⟩, k5.st⟩
            cases hc : c.tv with
            | true =>
              rw [hc] at ec hm2
              rw [hc] at fin
              exact wp_cond_true ec (fin _ (Out.pi hw (facts_cons hw.pi hc)) c1 hm2)
            | false =>
              rw [hc] at ec hm2
              rw [hc] at fin
              exact wp_cond_false ec (fin _ (Out.pi hw (facts_cons hw.pi hc)) c2 hm2)
        · obtain ⟨π', h1, h2⟩ := br_leads hl hw.pi
          cases ht : c.tv with
          | true =>
            rw [ht] at h2 ec
            exact wp_cond_true ec (ih c1 fr _ L β a w R Q h2 hf hd ⟨h1, hw.wf, hw.hold⟩ fun β'' e fr'' s'' a'' w'' k1 k2 k3 k4 => hk β'' e fr'' s'' a'' w'' k1 k2 k3 ((Out.pi hw h1).trans k4))
          | false =>
            rw [ht] at h2 ec
            exact wp_cond_false ec (ih c2 fr _ L β a w R Q h2 hf hd ⟨h1, hw.wf, hw.hold⟩ fun β'' e fr'' s'' a'' w'' k1 k2 k3 k4 => hk β'' e fr'' s'' a'' w'' k1 k2 k3 ((Out.pi hw h1).trans k4))
      · exact hl.elim
    | loop c => exact wp_loop_rounds g (loopE_ok (fun fr s L β a w R Q => ih c fr s L β a w R Q) g fr s L β a w R Q hl hf hd hw hk)
    | region id ops draw =>
      exact evReg_ok hn hm hcall (bind_leads hl) hf hd hw fun β' fr' s' a' w' k1 k2 k3 k4 => hk β' _ fr' s' a' w' k1 k2 k3 k4
    | rangeFunc f p x y => exact hl.elim
    | refuse why => exact hl.elim
/-- **What the evaluator finds of a function holds of its calls.** -/
theorem evF_ok {P : Program} [Fast P] [Ab P] [AbOk P] (hn : NoGos P) (hm : P.follows .mixedOrders = true) {Γ : Ctr} (hΓ : CtrOk P Γ) {mf : Nat → Bool} {mg : Bool} {g : Nat} : CallerOk P (evF P Γ mf mg g) := callIn_ok (evCode_ok hn hm hΓ mf g mg)
end
end Go.Proofs.Ytfapicccijbanaa.Ef
