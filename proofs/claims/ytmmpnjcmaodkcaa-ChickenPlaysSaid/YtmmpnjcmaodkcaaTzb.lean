/- What is proved: contracts of two machines that go the same steps and are kept closed: what they tell is a symbol of their state and of the memory's words. Conditions: stated with each lemma. -/
import Derived.Test.YtmmpnjcmaodkcaaTz
namespace Go.Proofs.Ytmmpnjcmaodkcaa.Ef
open Go Go.Proofs.Ytmmpnjcmaodkcaa.Sep Go.Proofs.Ytmmpnjcmaodkcaa.Mem
open Go.Proofs.Ytmmpnjcmaodkcaa.Ev (Fast)
set_option maxRecDepth 100000
set_option linter.unusedVariables false
set_option linter.unusedSimpArgs false
set_option linter.unusedSectionVars false
/-! ### values of a known shape -/
def tplC : List (Option IntKind) → List SC → Option (List Tm)
  | [], [] => some []
  | some k :: r, .int k' t :: l => bif Nat.beq (kCode k') (kCode k) then (match tplC r l with
      | some ts => some (t :: ts)
      | none => none) else none
  | none :: r, .bool t :: l => match tplC r l with
      | some ts => some (t :: ts)
      | none => none
  | _, _ => none
def tplV (ag : Bool) (ks : List (Option IntKind)) (v : SV) : Option (List Tm) :=
  match v with
  | .a (.one c) => bif ag then none else tplC ks [c]
  | .a (.agg l) => bif ag then tplC ks l else none
  | _ => none
def mkC (f : Nat → Tm) : List (Option IntKind) → Nat → List SC
  | [], _ => []
  | some k :: r, i => .int k (f i) :: mkC f r (i + 1)
  | none :: r, i => .bool (f i) :: mkC f r (i + 1)
def mkV (ag : Bool) (ks : List (Option IntKind)) (f : Nat → Tm) : SV :=
  bif ag then .a (.agg (mkC f ks 0)) else
  match mkC f ks 0 with
  | c :: _ => .c c
  | [] => .un
def zvC (g : Nat → UM) : List (Option IntKind) → Nat → List Value
  | [], _ => []
  | some k :: r, i => .int k (g i).int :: zvC g r (i + 1)
  | none :: r, i => .bool (g i).bool :: zvC g r (i + 1)
def zvV (ag : Bool) (ks : List (Option IntKind)) (g : Nat → UM) : Value :=
  bif ag then .agg (zvC g ks 0).toArray else
  match zvC g ks 0 with
  | c :: _ => c
  | [] => undef
section
variable [Ext] [Exp]
def nthT (ts : List Tm) (i : Nat) : Tm := (ts[i]?).getD (.lit 0)
theorem mkC_den [Vars] (β : Bl) (f : Nat → Tm) : ∀ (ks : List (Option IntKind)) (i : Nat), (mkC f ks i).map (SC.den β) = zvC (fun k => (f k).den) ks i
  | [], _ => rfl
  | some k :: r, i => by unfold mkC zvC; rw [List.map_cons, mkC_den β f r (i + 1)]; rfl
  | none :: r, i => by unfold mkC zvC; rw [List.map_cons, mkC_den β f r (i + 1)]; rfl
theorem mkV_den [Vars] (β : Bl) (ag : Bool) (ks : List (Option IntKind)) (f : Nat → Tm) : (mkV ag ks f).den β = zvV ag ks (fun k => (f k).den) := by
  unfold mkV zvV
  cases ag
  · rw [← mkC_den β f ks 0]
    cases mkC f ks 0 <;> rfl
  · show Value.agg ((mkC f ks 0).map (SC.den β)).toArray = _
    rw [mkC_den]
    rfl
theorem mkC_wf (f : Nat → Tm) (n : Nat) : ∀ (ks : List (Option IntKind)) (i : Nat), lwf n (mkC f ks i)
  | [], _ => fun c hc => by cases hc
  | some k :: r, i => fun c hc => by
    rcases List.mem_cons.1 hc with rfl | hc
    · trivial
    · exact mkC_wf f n r (i + 1) c hc
  | none :: r, i => fun c hc => by
    rcases List.mem_cons.1 hc with rfl | hc
    · trivial
    · exact mkC_wf f n r (i + 1) c hc
theorem mkV_wf (n : Nat) (ag : Bool) (ks : List (Option IntKind)) (f : Nat → Tm) : (mkV ag ks f).wf n ∧ (mkV ag ks f).isTop = false := by
  unfold mkV
  cases ag
  · have := mkC_wf f n ks 0
    cases h : mkC f ks 0 with
    | nil => exact ⟨fun x hx => (by cases hx), rfl⟩
    | cons c r => rw [h] at this; exact ⟨this c (List.mem_cons_self ..), rfl⟩
  · exact ⟨mkC_wf f n ks 0, rfl⟩
theorem tplC_den [Vars] (β : Bl) (g : Nat → UM) : ∀ {ks : List (Option IntKind)} {l : List SC} {ts : List Tm} {i : Nat}, tplC ks l = some ts → (∀ j, j < ts.length → g (i + j) = (nthT ts j).den) → l.map (SC.den β) = zvC g ks i
  | [], [], ts, i, h, hg => rfl
  | some k :: r, .int k' t :: l, ts, i, h, hg => by
    unfold tplC at h
    rw [Bool.cond_eq_ite] at h
    split at h
    · rename_i hk
      have hk := kCode_inj hk
      subst hk
      split at h
      · rename_i ts' ht
        cases h
        unfold zvC
        have e0 := hg 0 (Nat.succ_pos _)
        rw [List.map_cons, tplC_den β g (i := i + 1) ht fun j hj => by
          have := hg (j + 1) (Nat.succ_lt_succ hj)
          rw [show i + 1 + j = i + (j + 1) by omega]; exact this]
        rw [show g i = t.den from e0]
        rfl
      · cases h
    · cases h
  | none :: r, .bool t :: l, ts, i, h, hg => by
    unfold tplC at h
    split at h
    · rename_i ts' ht
      cases h
      unfold zvC
      have e0 := hg 0 (Nat.succ_pos _)
      rw [List.map_cons, tplC_den β g (i := i + 1) ht fun j hj => by
        have := hg (j + 1) (Nat.succ_lt_succ hj)
        rw [show i + 1 + j = i + (j + 1) by omega]; exact this]
      rw [show g i = t.den from e0]
      rfl
    · cases h
theorem zvC_congr {g g' : Nat → UM} : ∀ {ks : List (Option IntKind)} {i : Nat}, (∀ j, j < ks.length → (g (i + j)).int = (g' (i + j)).int ∧ (g (i + j)).bool = (g' (i + j)).bool) → zvC g ks i = zvC g' ks i
  | [], i, h => rfl
  | some k :: r, i, h => by
    unfold zvC
    have h0 := h 0 (Nat.succ_pos _)
    rw [zvC_congr (ks := r) (i := i + 1) fun j hj => by
      have := h (j + 1) (Nat.succ_lt_succ hj)
      rw [show i + 1 + j = i + (j + 1) by omega]; exact this]
    rw [show (g i).int = (g' i).int from h0.1]
  | none :: r, i, h => by
    unfold zvC
    have h0 := h 0 (Nat.succ_pos _)
    rw [zvC_congr (ks := r) (i := i + 1) fun j hj => by
      have := h (j + 1) (Nat.succ_lt_succ hj)
      rw [show i + 1 + j = i + (j + 1) by omega]; exact this]
    rw [show (g i).bool = (g' i).bool from h0.2]
/-! ### what two machines tell alike -/
inductive ZR where
  | call (f : Nat)
  | load (t o : Nat)
def zends (l m : SH) : Bool := shEq (l.drop (l.length - m.length)) m
variable (P : Program) [Fast P] (call : Caller)
def zrd (ag : Bool) (ks : List (Option IntKind)) (J : JP) (sd : Bool) (p : Pi → List Tm → Bool) (π : Pi) : ZR → Bool
  | .call f => zwl (call f [.c (.ptr 0 0)] ⟨π, J.H sd, J.n sd⟩) π fun π l => match l with
      | [q] => (match tplV ag ks q.1 with
        | some ts => zends q.2.H (J.H sd) && p π ts
        | none => false)
      | _ => false
  | .load t o =>
    match find (J.H sd) 0 with
    | some (.cells l _) =>
      match loadC P t l o with
      | some v => match tplV ag ks v with
        | some ts => p π ts
        | none => false
      | none => false
    | _ => false
def zeqI (π : Pi) (a b : Tm) : Bool := Tm.beq a b || (match dec π (mkEq a b) with | some x => x | none => false)
def zeqB (π : Pi) (a b : Tm) : Bool := Tm.beq a b || (match dec π a, dec π b with | some x, some y => boolBeq x y | _, _ => false)
theorem zeqI_ok [Vars] {π : Pi} (hπ : facts π) {a b : Tm} (hc : zeqI π a b = true) : a.den.int = b.den.int := by
  unfold zeqI at hc
  rw [Bool.or_eq_true] at hc
  rcases hc with hc | hc
  · rw [Tm.beq_eq hc]
  · split at hc
    · rename_i x hx
      subst hc
      have := dec_ok hπ hx
      rw [mkEq_tv] at this
      simpa [Tm.v] using this
    · cases hc
theorem zeqB_ok [Vars] {π : Pi} (hπ : facts π) {a b : Tm} (hc : zeqB π a b = true) : a.den.bool = b.den.bool := by
  unfold zeqB at hc
  rw [Bool.or_eq_true] at hc
  rcases hc with hc | hc
  · rw [Tm.beq_eq hc]
  · split at hc
    · rename_i x y hx hy
      have e1 := dec_ok hπ hx
      have e2 := dec_ok hπ hy
      have := boolBeq_eq hc
      show a.tv = b.tv
      rw [e1, e2, this]
    · cases hc
/-- Terms of one value. -/
def zeqs (π : Pi) : List (Option IntKind) → List Tm → List Tm → Bool
  | [], [], [] => true
  | some _ :: r, a :: l, b :: m => bif zeqI π a b then zeqs π r l m else false
  | none :: r, a :: l, b :: m => bif zeqB π a b then zeqs π r l m else false
  | _, _, _ => false
def zrdChk (ag : Bool) (ks : List (Option IntKind)) (rA rB : ZR) (J : JP) : Bool :=
  zrd P call ag ks J true (fun π ts => zrd P call ag ks J false (fun π' ts' => zeqs π' ks ts ts') π rB) J.pi rA
def ZRdS (r : ZR) (D : UM → Nat → HProp) (u : UM) (v : Value) : Prop :=
  ∀ (w : World) (R : HProp) (p : Nat), Holds w (D u p * R) →
    match r with
    | .call f => Calls P f #[.pointer (some ⟨p, 0, none⟩)] w fun e w' => e = .returned v ∧ Holds w' (D u p * R) ∧ Strm w w'
    | .load t o => (loadVar t ⟨p, o, none⟩).run P w = .ok v w
variable {P} {call}
theorem tplV_den [Vars] (β : Bl) {ag : Bool} {ks : List (Option IntKind)} {v : SV} {ts : List Tm} (h : tplV ag ks v = some ts) (g : Nat → UM) (hg : ∀ j, j < ts.length → g j = (nthT ts j).den) : v.den β = zvV ag ks g := by
  unfold tplV at h
  split at h
  · rename_i c
    cases ag with
    | true => cases h
    | false =>
      have := tplC_den β g (i := 0) h fun j hj => by rw [Nat.zero_add]; exact hg j hj
      unfold zvV
      rw [← this]
      rfl
  · rename_i l
    cases ag with
    | false => cases h
    | true =>
      have := tplC_den β g (i := 0) h fun j hj => by rw [Nat.zero_add]; exact hg j hj
      unfold zvV
      rw [← this]
      rfl
  · cases h
theorem zvV_congr {ag : Bool} {ks : List (Option IntKind)} {g g' : Nat → UM} (h : ∀ j, j < ks.length → (g j).int = (g' j).int ∧ (g j).bool = (g' j).bool) : zvV ag ks g = zvV ag ks g' := by
  unfold zvV
  rw [zvC_congr (i := 0) fun j hj => by rw [Nat.zero_add]; exact h j hj]
theorem zrd_ok (hcall : ∀ V : Vars, CallerOk P call) {ps : List JP} (hp : jpsB ps = true) {ag : Bool} {ks : List (Option IntKind)} {sd : Bool} {i : Nat} {J : JP} (hi : ps[i]? = some J) {u : UM} (hu : u.fst.int = (i : Int)) {r : ZR} {p : Pi → List Tm → Bool} {π : Pi}
    (h : zrd P call ag ks J sd p π r = true) (hf : @facts _ (zV u ⟨[], 0, 0, 0⟩ (oM ⟨[], 0, 0, 0⟩) 0) π) (hz : zpi 901 π = true) :
    ∃ π' ts, @facts _ (zV u ⟨[], 0, 0, 0⟩ (oM ⟨[], 0, 0, 0⟩) 0) π' ∧ zpi 901 π' = true ∧ p π' ts = true ∧ ∀ g : Nat → UM, (∀ j, j < ts.length → g j = @Tm.den _ (zV u ⟨[], 0, 0, 0⟩ (oM ⟨[], 0, 0, 0⟩) 0) (nthT ts j)) → ZRdS P r (jden ps sd) u (zvV ag ks g) := by
  have hJ := jpsB_ok hp hi
  generalize hV1 : zV u ⟨[], 0, 0, 0⟩ (oM ⟨[], 0, 0, 0⟩) 0 = V1 at *
  have at0 : ∀ {w : World} {R : HProp} {b : Nat}, Holds w (jden ps sd u b * R) → ∃ β : Bl, β 0 = b ∧ Holds w (@hden _ V1 β (J.H sd) * R) ∧ ∀ {w'}, Holds w' (@hden _ V1 β (J.H sd) * R) → Holds w' (jden ps sd u b * R) := by
    intro w R b hw
    obtain ⟨i', J1, V, β, e1, e2, e3, e4, e5, hw⟩ := jden_open hw
    have ei : i' = i := by rw [hu] at e2; omega
    subst ei
    rw [hi] at e1
    cases e1
    have e : @hden _ V1 β (J.H sd) = @hden _ V β (J.H sd) := zhp_agree (n := J.nv) (fun j hj => by
      rw [e3 j hj, ← hV1]
      exact if_pos (Nat.lt_of_lt_of_le hj hJ.nv)) β (hJ.h sd)
    refine ⟨β, e4, by rw [e]; exact hw, fun {w'} h' => ?_⟩
    rw [e] at h'
    exact jden_mk hi hu e3 e4 e5 h'
  unfold zrd at h
  split at h
  · rename_i f
    obtain ⟨ql, π', g1, g2, g3, g4⟩ := zwl_ok V1 h hf hz
    split at g3
    case h_2 => cases g3
    rename_i q
    split at g3
    · rename_i ts hts
      rw [Bool.and_eq_true] at g3
      refine ⟨π', ts, g1, g2, g3.2, fun g hg w R b hw => ?_⟩
      obtain ⟨β, e4, hw1, back⟩ := at0 hw
      have hst : @At _ V1 β ⟨π, J.H sd, J.n sd⟩ w R := ⟨hf, hJ.w sd, hw1⟩
      have key := @hcall V1 f [.c (.ptr 0 0)] ⟨π, J.H sd, J.n sd⟩ _ β (g4 V1 (fun _ _ => rfl) β) (fun x hx => by
        rcases List.mem_cons.1 hx with rfl | hx
        · exact hJ.n sd
        · cases hx) (fun x hx => by
        rcases List.mem_cons.1 hx with rfl | hx
        · rfl
        · cases hx) w R hst
      have hargs : (([SV.c (.ptr 0 0)]).map (@SV.den _ V1 β)).toArray = #[.pointer (some ⟨b, 0, none⟩)] := by
        show #[Value.pointer (some ⟨β 0, 0, none⟩)] = _
        rw [e4]
      rw [hargs] at key
      refine key _ ?_
      intro β3 v s' w' hq hwf htop hout
      have hq := List.mem_singleton.1 hq
      have hq1 : v = q.1 := by rw [← hq]
      have hq2 : s'.H = q.2.H := by rw [← hq]
      refine ⟨?_, ?_, hout.st⟩
      · rw [hq1, @tplV_den _ _ V1 β3 _ _ _ _ hts g hg]
      · have hold := hout.at_.hold
        rw [hq2] at hold
        have h0 := shEq_eq g3.1
        have h3 := List.take_append_drop (q.2.H.length - (J.H sd).length) q.2.H
        rw [h0] at h3
        rw [← h3, @zhden_append _ _ V1, star_assoc] at hold
        have h5 := hold.drop
        rw [@hden_ext _ V1 (J.n sd) β β3 hout.ag _ (hJ.w sd)] at h5
        exact back h5
    · cases g3
  · rename_i t o
    split at h
    · rename_i l T hl
      split at h
      · rename_i v hv
        split at h
        · rename_i ts hts
          refine ⟨π, ts, hf, hz, h, fun g hg w R b hw => ?_⟩
          obtain ⟨β, e4, hw1, back⟩ := at0 hw
          have h1 := @focus _ V1 w R β (J.H sd) 0 _ hl hw1
          rw [e4] at h1
          have h2 := @run_loadC _ _ V1 P _ β t l o _ hv w _ b T h1
          show (loadVar t ⟨b, o, none⟩).run P w = _
          rw [h2, @tplV_den _ _ V1 β _ _ _ _ hts g hg]
        · cases h
      · cases h
    · cases h
theorem zeqs_ok [Vars] {π : Pi} (hπ : facts π) : ∀ {ks : List (Option IntKind)} {l m : List Tm}, zeqs π ks l m = true → zvC (fun k => (nthT l k).den) ks 0 = zvC (fun k => (nthT m k).den) ks 0 ∧ l.length = ks.length ∧ m.length = ks.length := by
  have sh : ∀ (g : Nat → UM) (ks : List (Option IntKind)) (i : Nat), zvC g ks (i + 1) = zvC (fun k => g (k + 1)) ks i := by
    intro g ks
    induction ks with
    | nil => intro i; rfl
    | cons k r ih => intro i; cases k <;> (unfold zvC; rw [ih (i + 1)])
  intro ks
  induction ks with
  | nil =>
    intro l m h
    cases l <;> cases m <;> first | exact ⟨rfl, rfl, rfl⟩ | cases h
  | cons k r ih =>
    intro l m h
    cases k with
    | some k =>
      cases l with
      | nil => cases h
      | cons a l =>
        cases m with
        | nil => cases h
        | cons b m =>
          unfold zeqs at h
          rw [Bool.cond_eq_ite] at h
          split at h
          · rename_i hc
            obtain ⟨g1, g2, g3⟩ := ih h
            refine ⟨?_, by simp [g2], by simp [g3]⟩
            have e := zeqI_ok hπ hc
            unfold zvC
            rw [sh, sh]
            show Value.int k a.den.int :: _ = Value.int k b.den.int :: _
            rw [e]
            exact congrArg _ g1
          · cases h
    | none =>
      cases l with
      | nil => cases h
      | cons a l =>
        cases m with
        | nil => cases h
        | cons b m =>
          unfold zeqs at h
          rw [Bool.cond_eq_ite] at h
          split at h
          · rename_i hc
            obtain ⟨g1, g2, g3⟩ := ih h
            refine ⟨?_, by simp [g2], by simp [g3]⟩
            have e := zeqB_ok hπ hc
            unfold zvC
            rw [sh, sh]
            show Value.bool a.den.bool :: _ = Value.bool b.den.bool :: _
            rw [e]
            exact congrArg _ g1
          · cases h
/-- **What both tell is one function of the state.** -/
theorem z_read (hcall : ∀ V : Vars, CallerOk P call) {ps : List JP} (hp : jpsB ps = true) {ag : Bool} {ks : List (Option IntKind)} {rA rB : ZR} (hc : ∀ (i : Nat) (J : JP), ps[i]? = some J → zrdChk P call ag ks rA rB J = true) (u : UM) :
    ∃ g : Nat → UM, ZRdS P rA (jden ps true) u (zvV ag ks g) ∧ ZRdS P rB (jden ps false) u (zvV ag ks g) := by
  by_cases hv : ∃ i J, ps[i]? = some J ∧ u.fst.int = ((i : Nat) : Int) ∧ @facts _ (zV u ⟨[], 0, 0, 0⟩ (oM ⟨[], 0, 0, 0⟩) 0) J.pi
  · obtain ⟨i, J, hi, hu, hf⟩ := hv
    have hJ := jpsB_ok hp hi
    have hz : zpi 901 J.pi = true := zpi_mono (Nat.le_trans hJ.nv (by omega)) hJ.p
    have h0 := hc i J hi
    unfold zrdChk at h0
    obtain ⟨π1, ts, f1, z1, h1, L1⟩ := zrd_ok hcall hp hi hu h0 hf hz
    obtain ⟨π2, ts', f2, z2, h2, L2⟩ := zrd_ok hcall hp hi hu h1 f1 z1
    obtain ⟨a1, a2, a3⟩ := @zeqs_ok _ _ (zV u ⟨[], 0, 0, 0⟩ (oM ⟨[], 0, 0, 0⟩) 0) _ f2 _ _ _ h2
    refine ⟨fun k => @Tm.den _ (zV u ⟨[], 0, 0, 0⟩ (oM ⟨[], 0, 0, 0⟩) 0) (nthT ts k), L1 _ fun j hj => rfl, ?_⟩
    have h3 := L2 (fun k => @Tm.den _ (zV u ⟨[], 0, 0, 0⟩ (oM ⟨[], 0, 0, 0⟩) 0) (nthT ts' k)) fun j hj => rfl
    unfold zvV at h3 ⊢
    rw [a1]
    exact h3
  · refine ⟨fun _ => .i 0, ?_, ?_⟩
    all_goals
      intro w R p hw
      obtain ⟨i, J, V, β, e1, e2, e3, e4, e5, hw⟩ := jden_open hw
      refine absurd ⟨i, J, e1, e2, ?_⟩ hv
      have hJ := jpsB_ok hp e1
      refine zpi_agree (n := J.nv) (fun j hj => ?_) hJ.p e5
      rw [e3 j hj]
      exact if_pos (Nat.lt_of_lt_of_le hj hJ.nv)
end
end Go.Proofs.Ytmmpnjcmaodkcaa.Ef
