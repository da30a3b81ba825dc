/- What is proved: the contracts of two machines that are kept closed, over the symbols of what becomes of them. Conditions: stated with each lemma. -/
import Derived.Test.YtmmpnjcmaodkcaaTzb
namespace Go.Proofs.Ytmmpnjcmaodkcaa.Ef
open Go Go.Proofs.Ytmmpnjcmaodkcaa.Sep Go.Proofs.Ytmmpnjcmaodkcaa.Mem
open Go.Proofs.Ytmmpnjcmaodkcaa.Ev (Fast)
set_option maxRecDepth 100000
set_option linter.unusedVariables false
set_option linter.unusedSimpArgs false
set_option linter.unusedSectionVars false
/-! ### the symbols' meaning -/
/-- What becomes of a pair of machines: what a step tells, the next state, the memory; what else they tell. -/
structure TwF where
  D : UM → MS → Bool
  N : UM → MS → UM
  C : UM → MS → MS → MS
  G : UM → Nat → UM
  C_ws : ∀ u W M1, M1.ws = W.ws → (C u W M1).ws = (C u W W).ws
  C_len : ∀ u W M1, M1.ws = W.ws → (C u W M1).ws.length = W.ws.length
def canon (M : MS) : MS := ⟨M.ws, 0, 0, 0⟩
theorem canon_eq {M M' : MS} (h : M.ws = M'.ws) : canon M = canon M' := by unfold canon; rw [h]
@[reducible] def mkX (E : Ext) (tw : Nat → TwF) (tab : Nat → List JP) : Xtra where
  x1 n u := if (n - 200) % 16 = 0 then .b ((tw ((n - 200) / 16)).D u.fst (canon (memOf u.snd))) else if (n - 200) % 16 = 1 then (tw ((n - 200) / 16)).N u.fst (canon (memOf u.snd)) else (tw ((n - 200) / 16)).G u ((n - 200) % 16 - 2)
  x2 n u v := oM ((tw (n - 300)).C v (canon (memOf u)) (memOf u))
  xo k u b := @jden E (tab ((k - 100) / 2)) ((k - 100) % 2 == 0) u b
  c_mem n u v h := rfl
  c_len n u v h := (tw (n - 300)).C_len v _ _ rfl
  c_ws n u u' v h e := by
    show ((tw (n - 300)).C v (canon (memOf u)) (memOf u)).ws = ((tw (n - 300)).C v (canon (memOf u')) (memOf u')).ws
    rw [(tw (n - 300)).C_ws v (canon (memOf u)) (memOf u) rfl, (tw (n - 300)).C_ws v (canon (memOf u')) (memOf u') rfl, canon_eq e]
/-- A reading function of each of two machines, alike. -/
structure Rdr where
  ag : Bool
  ks : List (Option IntKind)
  A : ZR
  B : ZR
/-- What becomes of a pair of machines. -/
structure ZSpec [Ext] (P : Program) (ps : List JP) (fA fB : Nat) (rs : List Rdr) (T : TwF) : Prop where
  A : ∀ u W, ZGo P fA (jden ps true) 1 u (T.N u W) (T.D u W) (T.C u W) W
  B : ∀ u W, ZGo P fB (jden ps false) 2 u (T.N u W) (T.D u W) (T.C u W) W
  R : ∀ (i : Nat) (r : Rdr), rs[i]? = some r → ∀ u, ZRdS P r.A (jden ps true) u (zvV r.ag r.ks fun c => T.G u (4 * i + c)) ∧ ZRdS P r.B (jden ps false) u (zvV r.ag r.ks fun c => T.G u (4 * i + c))
theorem z_pair [Ext] [Exp] {P : Program} {ps : List JP} {fA fB : Nat} {rs : List Rdr}
    (st : ∀ (u : UM) (W : MS), ∃ (d : Bool) (u' : UM) (t : MS → MS), (∀ M1 : MS, M1.ws = W.ws → (t M1).ws = (t W).ws ∧ (t M1).ws.length = W.ws.length) ∧ ZGo P fA (jden ps true) 1 u u' d t W ∧ ZGo P fB (jden ps false) 2 u u' d t W)
    (rd : ∀ (i : Nat) (r : Rdr), rs[i]? = some r → r.ks.length ≤ 4 ∧ ∀ u, ∃ g : Nat → UM, ZRdS P r.A (jden ps true) u (zvV r.ag r.ks g) ∧ ZRdS P r.B (jden ps false) u (zvV r.ag r.ks g)) : ∃ T : TwF, ZSpec P ps fA fB rs T := by
  have s1 : ∀ q : UM × MS, ∃ y : Bool × UM × (MS → MS), (∀ M1 : MS, M1.ws = q.2.ws → (y.2.2 M1).ws = (y.2.2 q.2).ws ∧ (y.2.2 M1).ws.length = q.2.ws.length) ∧ ZGo P fA (jden ps true) 1 q.1 y.2.1 y.1 y.2.2 q.2 ∧ ZGo P fB (jden ps false) 2 q.1 y.2.1 y.1 y.2.2 q.2 := fun q => by
    obtain ⟨d, u', t, h⟩ := st q.1 q.2
    exact ⟨(d, u', t), h⟩
  obtain ⟨F, hF⟩ := Classical.axiomOfChoice s1
  have s2 : ∀ q : Nat × UM, ∃ g : Nat → UM, ∀ r, rs[q.1]? = some r → r.ks.length ≤ 4 ∧ ZRdS P r.A (jden ps true) q.2 (zvV r.ag r.ks g) ∧ ZRdS P r.B (jden ps false) q.2 (zvV r.ag r.ks g) := fun q => by
    cases hr : rs[q.1]? with
    | none => exact ⟨fun _ => .i 0, fun r h => (by cases h)⟩
    | some r =>
      obtain ⟨h4, hu⟩ := rd q.1 r hr
      obtain ⟨g, hg⟩ := hu q.2
      exact ⟨g, fun r' h => by cases h; exact ⟨h4, hg⟩⟩
  obtain ⟨G, hG⟩ := Classical.axiomOfChoice s2
  refine ⟨⟨fun u W => (F (u, W)).1, fun u W => (F (u, W)).2.1, fun u W => (F (u, W)).2.2, fun u k => G (k / 4, u) (k % 4), fun u W M1 h => ((hF (u, W)).1 M1 h).1, fun u W M1 h => ((hF (u, W)).1 M1 h).2⟩, fun u W => (hF (u, W)).2.1, fun u W => (hF (u, W)).2.2, fun i r hr u => ?_⟩
  obtain ⟨h4, h1, h2⟩ := hG (i, u) r hr
  have e : zvV r.ag r.ks (fun c => G ((4 * i + c) / 4, u) ((4 * i + c) % 4)) = zvV r.ag r.ks (G (i, u)) := zvV_congr fun j hj => by
    rw [show (4 * i + j) / 4 = i by omega, show (4 * i + j) % 4 = j by omega]
    exact ⟨rfl, rfl⟩
  exact ⟨e ▸ h1, e ▸ h2⟩
/-! ### a step of a closed machine -/
section
variable [Ext] [Exp]
def cTw (K Km sD sN sC : Nat) : CtrAt := fun args s =>
  match args with
  | [.a (.one (.ptr nm 0)), .a (.one (.ptr mm 0))] =>
    match find s.H nm with
    | some (.abs k x []) => bif Nat.beq k K then
        match find (del s.H nm) mm with
        | some (.abs j y []) => bif Nat.beq j Km then
            some (needs s.pi [mkNot (mkLt (mkSnd y) (.lit 0)), mkLt (mkSnd y) (.lit 1000000000)] (frcT (nfw (mkFst y)) fun W => frcT (mkFst y) fun M => frcT (mkAdd (mkSnd y) (.lit 2)) fun c =>
              .done (.c (.bool (i1 sD (.a2 .pair x W))), ⟨s.pi, (nm, .abs K (i1 sN (.a2 .pair x W)) []) :: (mm, .abs Km (.a2 .pair (i2 sC M x) c) []) :: del (del s.H nm) mm, s.n⟩))) else none
        | _ => none
      else none
    | _ => none
  | _ => none
/-- What a closed machine tells. -/
def cTr (K : Nat) (ag : Bool) (ks : List (Option IntKind)) (base : Nat) : CtrAt := fun args s =>
  match args with
  | [.a (.one (.ptr nm 0))] =>
    match find s.H nm with
    | some (.abs k x []) => bif Nat.beq k K then some (.done (mkV ag ks (fun i => i1 (base + i) x), s)) else none
    | _ => none
  | _ => none
/-- The newest open block of a type. -/
def zfindT (T : TypeId) : SH → Option Nat
  | [] => none
  | (n, o) :: r =>
    match o with
    | .cells _ U => bif Nat.beq U T then some n else zfindT T r
    | _ => zfindT T r
def zfoldK (ps : List JP) (π : Pi) (H : SH) (nmA nmB : Nat) : List Nat → Option (Tm × SH)
  | [] => none
  | j :: r =>
    match zfold ps π H H nmA nmB true j with
    | some (x, _, rest) => some (x, rest)
    | none => zfoldK ps π H nmA nmB r
/-- Behind the making of the second machine both are closed. -/
def zshut (ps : List JP) (KA KB : Nat) (TA : TypeId) (cand : List Nat) (q : SV × St) : Rt :=
  match q with
  | (v, ⟨π, H, n⟩) =>
    match v with
    | .a (.one (.ptr nmB 0)) =>
      match zfindT TA H with
      | some nmA => bif Nat.blt nmA n then
          match zfoldK ps π H nmA nmB cand with
          | some (x, rest) => frcT x fun x => frcH rest fun rest => .done (v, ⟨π, (nmA, .abs KA x []) :: (nmB, .abs KB x []) :: rest, n⟩)
          | none => .fail 71
        else .fail 72
      | none => .fail 73
    | _ => .fail 74
def cTn (ps : List JP) (KA KB : Nat) (TA : TypeId) (cand : List Nat) (call : Caller) (f : Nat) : CtrAt := fun args s =>
  some ((call f args s).bind (zshut ps KA KB TA cand))
end
theorem ob12 {E E' : Ext} {K : Nat} (hK : is12 K = true) (u : UM) (ns : List Nat) (b : Nat) : @Interp.ob (@instInterpOfExt E) K u ns b = @Interp.ob (@instInterpOfExt E') K u ns b := by
  unfold is12 at hK
  rw [Bool.or_eq_true] at hK
  rcases hK with hK | hK
  · cases Nat.eq_of_beq_eq_true hK; rfl
  · cases Nat.eq_of_beq_eq_true hK; rfl
section
variable {E0 : Ext} {X : Xtra}
theorem cTw_ok [I : @Exp (withX E0 X)] [V : @Vars (@instInterpOfExt (withX E0 X))] {P : Program} {f K Km sD sN sC : Nat} (hKm : is12 Km = true) {D0 : UM → Nat → HProp} (hob : ∀ u b, @Interp.ob (@instInterpOfExt (withX E0 X)) K u [] b = D0 u b) {T : TwF}
    (hD : ∀ u, @b1 (withX E0 X) sD u = .b (T.D u.fst (canon (memOf u.snd)))) (hN : ∀ u, @b1 (withX E0 X) sN u = T.N u.fst (canon (memOf u.snd))) (hC : ∀ u v, @b2 (withX E0 X) sC u v = oM (T.C v (canon (memOf u)) (memOf u)))
    (hgo : ∀ u W, @ZGo E0 P f D0 Km u (T.N u W) (T.D u W) (T.C u W) W) : @CAtOk (withX E0 X) V P f (@cTw (withX E0 X) I K Km sD sN sC) := by
  letI F : Ext := withX E0 X
  intro args s t ht L β hl ha htp w R hw Q hk
  unfold cTw at ht
  split at ht
  · rename_i nm mm
    split at ht
    · rename_i k x hf
      rw [Bool.cond_eq_ite] at ht
      split at ht
      · rename_i hkk
        have hkk := Nat.eq_of_beq_eq_true hkk
        subst hkk
        split at ht
        · rename_i j y hf2
          rw [Bool.cond_eq_ite] at ht
          split at ht
          · rename_i hjj
            have hjj := Nat.eq_of_beq_eq_true hjj
            subst hjj
            simp only [Option.some.injEq] at ht
            subst ht
            obtain ⟨hps, hl⟩ := @needs_leads (@instInterpOfExt F) _ V _ _ hw.pi _ _ _ _ hl
            rw [frcT_eq, frcT_eq, frcT_eq] at hl
            have p1 : ¬ (mkSnd y).v < 0 := by
              have := hps _ (List.mem_cons_self ..)
              rw [mkNot_tv, mkLt_tv, lit_v] at this
              simpa using this
            have p2 : (mkSnd y).v < 1000000000 := by
              have := hps _ (List.mem_cons_of_mem _ (List.mem_cons_self ..))
              rw [mkLt_tv, lit_v] at this
              simpa using this
            have h0 := hw.hold
            rw [find_den s.H hf, find_den (del s.H nm) hf2] at h0
            have h1 : Holds w (D0 x.den (β nm) * (Interp.ob j y.den [] (β mm) * (hden β (del (del s.H nm) mm) * R))) := by
              rw [← hob]
              refine h0.cast ?_
              show ((Interp.ob k x.den [] (β nm) * (Interp.ob j y.den [] (β mm) * _)) * R : HProp) = _
              rw [star_assoc, star_assoc]
            have h2 : Holds w (D0 x.den (β nm) * (@Interp.ob (@instInterpOfExt E0) j (.p (oM (memOf (mkFst y).den)) (.i (mkSnd y).v)) [] (β mm) * (hden β (del (del s.H nm) mm) * R))) := by
              have h3 : Holds w (Interp.ob j y.den [] (β mm) * (D0 x.den (β nm) * (hden β (del (del s.H nm) mm) * R))) := h1.cast (by ac_rfl)
              have h4 := ob_weak hKm (b := .p (oM (memOf (mkFst y).den)) (.i (mkSnd y).v)) (by rw [fst_den]; rfl) (by rw [snd_v]; exact Int.le_refl _) h3
              rw [ob12 (E' := E0) hKm] at h4
              exact h4.cast (by ac_rfl)
            have g := hgo x.den (canon (memOf (nfw (mkFst y)).den)) (memOf (mkFst y).den) (mkSnd y).v (nfw_ws (mkFst y)).symm (by omega) p2 w _ _ _ h2
            refine g.mono ?_
            rintro e w' ⟨rfl, hh, hst⟩
            have ed : (SV.c (.bool (i1 sD (.a2 .pair x (nfw (mkFst y)))))).den β = .bool (T.D x.den (canon (memOf (nfw (mkFst y)).den))) := by
              show Value.bool (b1 sD (.p x.den (nfw (mkFst y)).den)).bool = _
              rw [hD]
              rfl
            rw [← ed]
            refine hk β _ _ w' hl trivial rfl ⟨Ag.refl _ _, Nat.le_refl _, ⟨hw.pi, ?_, ?_⟩, hst⟩
            · intro q hq
              rcases List.mem_cons.1 hq with rfl | hq
              · exact ⟨(hw.wf _ (find_mem hf)).1, fun m hm => (by cases hm)⟩
              · rcases List.mem_cons.1 hq with rfl | hq
                · exact ⟨(hw.wf _ (del_mem (find_mem hf2))).1, fun m hm => (by cases hm)⟩
                · exact hw.wf q (del_mem (del_mem hq))
            · show Holds w' ((Interp.ob k (b1 sN (.p x.den (nfw (mkFst y)).den)) [] (β nm) * (Interp.ob j (.p (b2 sC (mkFst y).den x.den) (mkAdd (mkSnd y) (.lit 2)).den) [] (β mm) * hden β (del (del s.H nm) mm))) * R)
              rw [hob, hN, hC]
              have ec : canon (memOf (mkFst y).den) = canon (memOf (nfw (mkFst y)).den) := canon_eq (nfw_ws (mkFst y)).symm
              rw [ec]
              have h5 : Holds w' (Interp.ob j (.p (oM (T.C x.den (canon (memOf (nfw (mkFst y)).den)) (memOf (mkFst y).den))) (.i ((mkSnd y).v + 2))) [] (β mm) * (D0 (T.N x.den (canon (memOf (nfw (mkFst y)).den))) (β nm) * (hden β (del (del s.H nm) mm) * R))) := by
                rw [ob12 (E' := E0) hKm]
                exact hh.cast (by ac_rfl)
              have h6 := ob_weak hKm (a := .p (oM (T.C x.den (canon (memOf (nfw (mkFst y)).den)) (memOf (mkFst y).den))) (.i ((mkSnd y).v + 2))) (b := .p (oM (T.C x.den (canon (memOf (nfw (mkFst y)).den)) (memOf (mkFst y).den))) (mkAdd (mkSnd y) (.lit 2)).den) rfl (by
                show (mkSnd y).v + 2 ≤ (mkAdd (mkSnd y) (.lit 2)).v
                rw [mkAdd_v, lit_v]; exact Int.le_refl _) h5
              exact h6.cast (by
                show (_ * (D0 (T.N x.den _) (β nm) * _) : HProp) = (D0 (T.N x.den _) (β nm) * (_ * _)) * R
                ac_rfl)
          · cases ht
        · cases ht
      · cases ht
    · cases ht
  · cases ht
theorem cTr_ok [I : @Exp (withX E0 X)] [V : @Vars (@instInterpOfExt (withX E0 X))] {P : Program} {f K : Nat} {ag : Bool} {ks : List (Option IntKind)} {base : Nat} {D0 : UM → Nat → HProp} (hob : ∀ u b, @Interp.ob (@instInterpOfExt (withX E0 X)) K u [] b = D0 u b) {G : UM → Nat → UM}
    (hG : ∀ u k, k < ks.length → @b1 (withX E0 X) (base + k) u = G u k) (hgo : ∀ u, ZRdS P (.call f) D0 u (zvV ag ks (G u))) : @CAtOk (withX E0 X) V P f (cTr K ag ks base) := by
  letI F : Ext := withX E0 X
  intro args s t ht L β hl ha htp w R hw Q hk
  unfold cTr at ht
  split at ht
  · rename_i nm
    split at ht
    · rename_i k x hf
      rw [Bool.cond_eq_ite] at ht
      split at ht
      · rename_i hkk
        have hkk := Nat.eq_of_beq_eq_true hkk
        subst hkk
        simp only [Option.some.injEq] at ht
        subst ht
        have h0 := hw.hold
        rw [find_den s.H hf] at h0
        have h1 : Holds w (D0 x.den (β nm) * (hden β (del s.H nm) * R)) := by
          rw [← hob]
          refine h0.cast ?_
          show ((Interp.ob k x.den [] (β nm) * _) * R : HProp) = _
          rw [star_assoc]
        have g : Calls P f _ w _ := hgo x.den w _ _ h1
        refine g.mono ?_
        rintro e w' ⟨rfl, hh, hst⟩
        have ev : (mkV ag ks fun i => i1 (base + i) x).den β = zvV ag ks (G x.den) := by
          rw [mkV_den]
          refine zvV_congr fun j hj => ?_
          show (b1 (base + j) x.den).int = _ ∧ (b1 (base + j) x.den).bool = _
          rw [hG _ _ hj]
          exact ⟨rfl, rfl⟩
        rw [← ev]
        refine hk β _ s w' hl (mkV_wf _ _ _ _).1 (mkV_wf 0 _ _ _).2 ⟨Ag.refl _ _, Nat.le_refl _, ⟨hw.pi, hw.wf, ?_⟩, hst⟩
        rw [find_den s.H hf]
        show Holds w' ((Interp.ob k x.den [] (β nm) * _) * R)
        rw [hob]
        exact hh.cast (by ac_rfl)
      · cases ht
    · cases ht
  · cases ht
/-! ### terms that the base knows -/
@[reducible] def toE (V : @Vars (@instInterpOfExt (withX E0 X))) (X' : Xtra) : @Vars (@instInterpOfExt (withX E0 X')) := @Vars.mk (@instInterpOfExt (withX E0 X')) V.ρ V.ω V.ad
theorem b1_conv {X' : Xtra} {n : Nat} (h : isX n = false) (u : UM) : @b1 (withX E0 X) n u = @b1 (withX E0 X') n u := by
  have e : @Ext.e1 (withX E0 X) n u = @Ext.e1 (withX E0 X') n u := by
    show (bif isX n then _ else _) = bif isX n then _ else _
    rw [h]; rfl
  unfold b1
  rw [e]
theorem b2_conv {X' : Xtra} {n : Nat} (h : isC n = false) (u v : UM) : @b2 (withX E0 X) n u v = @b2 (withX E0 X') n u v := by
  have e : @Ext.e2 (withX E0 X) n u v = @Ext.e2 (withX E0 X') n u v := by
    show (bif isC n then _ else _) = bif isC n then _ else _
    rw [h]; rfl
  unfold b2
  rw [e]
theorem ztm_conv (V : @Vars (@instInterpOfExt (withX E0 X))) (X' : Xtra) {n : Nat} : ∀ t : Tm, ztm n t = true → @Tm.den (@instInterpOfExt (withX E0 X)) V t = @Tm.den (@instInterpOfExt (withX E0 X')) (toE V X') t
  | .lit _, _ => rfl
  | .bl _, _ => rfl
  | .var _, _ => rfl
  | .a1 f x, h => by
    unfold ztm at h
    rw [Bool.cond_eq_ite] at h
    split at h
    · rename_i hf
      have e := ztm_conv V X' x h
      show @F1.den (@instInterpOfExt (withX E0 X)) f _ = @F1.den (@instInterpOfExt (withX E0 X')) f _
      rw [e]
      cases f <;> first
        | rfl
        | (rename_i k
           refine b1_conv ?_ _
           have hf : (bif isX k then false else true) = true := hf
           cases hk : isX k
           · rfl
           · rw [hk] at hf; cases hf)
    · cases h
  | .a2 f x y, h => by
    unfold ztm at h
    rw [Bool.cond_eq_ite, Bool.cond_eq_ite] at h
    split at h
    · rename_i hf
      split at h
      · rename_i hx
        have e1 := ztm_conv V X' x hx
        have e2 := ztm_conv V X' y h
        show @F2.den (@instInterpOfExt (withX E0 X)) f _ _ = @F2.den (@instInterpOfExt (withX E0 X')) f _ _
        rw [e1, e2]
        cases f <;> first
          | rfl
          | (rename_i k
             refine b2_conv ?_ _ _
             have hf : (bif isC k then false else true) = true := hf
             cases hk : isC k
             · rfl
             · rw [hk] at hf; cases hf)
      · cases h
    · cases h
theorem zsc_conv (V : @Vars (@instInterpOfExt (withX E0 X))) (X' : Xtra) {n : Nat} (β : Bl) {c : SC} (hc : zsc n c = true) : @SC.den (@instInterpOfExt (withX E0 X)) V β c = @SC.den (@instInterpOfExt (withX E0 X')) (toE V X') β c := by
  cases c <;> simp only [zsc] at hc <;> first
    | rfl
    | (simp only [SC.den, Tm.v, Tm.tv, ztm_conv V X' _ hc]; done)
    | (rw [Bool.cond_eq_ite] at hc
       split at hc
       · rename_i h1; simp only [SC.den, Tm.v, ztm_conv V X' _ hc, ztm_conv V X' _ h1]
       · cases hc)
    | cases hc
theorem zcs_conv (V : @Vars (@instInterpOfExt (withX E0 X))) (X' : Xtra) {n : Nat} (β : Bl) : ∀ {l : List SC}, zcs n l = true → l.map (@SC.den (@instInterpOfExt (withX E0 X)) V β) = l.map (@SC.den (@instInterpOfExt (withX E0 X')) (toE V X') β)
  | [], _ => rfl
  | c :: r, hc => by
    unfold zcs at hc
    rw [Bool.cond_eq_ite] at hc
    split at hc
    · rename_i h1
      rw [List.map_cons, List.map_cons, zsc_conv V X' β h1, zcs_conv V X' β hc]
    · cases hc
theorem zhp_conv (V : @Vars (@instInterpOfExt (withX E0 X))) (X' : Xtra) (β : Bl) {n : Nat} : ∀ {H : SH}, zhp n H = true → @hden (@instInterpOfExt (withX E0 X)) V β H = @hden (@instInterpOfExt (withX E0 X')) (toE V X') β H
  | [], _ => rfl
  | (m, .cells l T) :: r, hc => by
    unfold zhp at hc
    rw [Bool.cond_eq_ite] at hc
    split at hc
    · rename_i h1
      show (pt (β m) (.cells ((l.map (@SC.den (@instInterpOfExt (withX E0 X)) V β)).toArray) T (0, 0)) * @hden (@instInterpOfExt (withX E0 X)) V β r : HProp) = pt (β m) (.cells ((l.map (@SC.den (@instInterpOfExt (withX E0 X')) (toE V X') β)).toArray) T (0, 0)) * @hden (@instInterpOfExt (withX E0 X')) (toE V X') β r
      rw [zhp_conv V X' β hc, zcs_conv V X' β h1]
    · cases hc
  | (m, .abs k x ns) :: r, hc => by cases hc
  | (m, .row _ _ _ _) :: r, hc => by cases hc
  | (m, .opt _ _ _ _ _) :: r, hc => by cases hc
theorem zpi_conv (V : @Vars (@instInterpOfExt (withX E0 X))) (X' : Xtra) {n : Nat} : ∀ {π : Pi}, zpi n π = true → @facts (@instInterpOfExt (withX E0 X)) V π → @facts (@instInterpOfExt (withX E0 X')) (toE V X') π
  | [], _, _ => fun q hq => (by cases hq)
  | (t, b) :: r, hb, hf => by
    unfold zpi at hb
    rw [Bool.cond_eq_ite] at hb
    split at hb
    · rename_i h1
      intro q hq
      rcases List.mem_cons.1 hq with rfl | hq
      · have := hf _ (List.mem_cons_self ..)
        show (@Tm.den (@instInterpOfExt (withX E0 X')) (toE V X') t).bool = b
        rw [← ztm_conv V X' t h1]
        exact this
      · exact zpi_conv V X' hb (fun q hq => hf q (List.mem_cons_of_mem _ hq)) q hq
    · cases hb
/-! ### two machines are closed -/
theorem zch_wf [Ext] [Exp] {π : Pi} {m : Mt} {n : Nat} : ∀ {T H rest : SH}, chH π m T H = some rest → hwf n H → hwf n rest := by
  have opt : ∀ {nm : Nat} {c' : Tm} {k : Nat} {x' : Tm} {i : Nat} {z : Bool} {H rest : SH}, chOpt π m nm c' k x' i z H = some rest → hwf n H → hwf n rest := by
    intro nm c' k x' i z H rest h hw
    unfold chOpt at h
    split at h
    · rw [Bool.cond_eq_ite] at h
      split at h
      · split at h
        · cases h; exact hw
        · cases h
      · cases h; exact hw
    · split at h
      · rw [Bool.cond_eq_ite] at h
        split at h
        · split at h
          · rw [Bool.cond_eq_ite] at h
            split at h
            · cases h; exact del_wf hw
            · cases h
          · cases h
        · cases h
      · cases h
    · split at h
      · rw [Bool.cond_eq_ite] at h
        split at h
        · cases h; exact del_wf hw
        · cases h
      · cases h
  have one : ∀ {nm : Nat} {o' : SO} {H rest : SH}, chOne π m nm o' H = some rest → hwf n H → hwf n rest := by
    intro nm o' H rest h hw
    unfold chOne at h
    split at h
    · exact opt h hw
    · split at h
      · rw [Bool.cond_eq_ite] at h
        split at h
        · cases h; exact del_wf hw
        · cases h
      · cases h
  intro T
  induction T with
  | nil => intro H rest h hw; simp only [chH, Option.some.injEq] at h; subst h; exact hw
  | cons q r ih =>
    intro H rest h hw
    unfold chH at h
    split at h
    · rename_i H' ho
      exact ih h (one ho hw)
    · cases h
theorem zfoldK_ok [Ext] [Exp] {ps : List JP} {π : Pi} {H : SH} {nmA nmB : Nat} {x : Tm} {rest : SH} : ∀ {l : List Nat}, zfoldK ps π H nmA nmB l = some (x, rest) → ∃ j rA, zfold ps π H H nmA nmB true j = some (x, rA, rest)
  | [], h => by cases h
  | j :: r, h => by
    unfold zfoldK at h
    split at h
    · rename_i x' rA rest' hz
      cases h
      exact ⟨j, rA, hz⟩
    · exact zfoldK_ok h
theorem cTn_ok (X' : Xtra) [I : @Exp (withX E0 X)] [V : @Vars (@instInterpOfExt (withX E0 X))] {P : Program} {f KA KB : Nat} {TA : TypeId} {cand : List Nat} {ps : List JP} (hp : jpsB ps = true)
    (hA : ∀ u b, @Interp.ob (@instInterpOfExt (withX E0 X)) KA u [] b = @jden (withX E0 X') ps true u b) (hB : ∀ u b, @Interp.ob (@instInterpOfExt (withX E0 X)) KB u [] b = @jden (withX E0 X') ps false u b)
    {call : Caller} (hcall : @CallerOk (@instInterpOfExt (withX E0 X)) V P call) : @CAtOk (withX E0 X) V P f (@cTn (withX E0 X) I ps KA KB TA cand call f) := by
  letI F : Ext := withX E0 X
  intro args s t ht L β hl ha htp w R hw Q hk
  unfold cTn at ht
  simp only [Option.some.injEq] at ht
  subst ht
  have h2 := @bind_leads (@instInterpOfExt F) V _ _ _ _ _ _ hl
  refine hcall f _ s _ β h2 ha htp w R hw Q ?_
  intro β' v s' w' g1 g2 g3 g4
  obtain ⟨π, H, n⟩ := s'
  unfold zshut at g1
  simp only at g1
  split at g1
  · rename_i nmB
    split at g1
    · rename_i nmA hT
      rw [Bool.cond_eq_ite] at g1
      split at g1
      · rename_i hlt
        have hlt : nmA < n := Nat.le_of_ble_eq_true hlt
        split at g1
        · rename_i x rest hfo
          rw [frcT_eq, frcH_eq] at g1
          obtain ⟨j, rA, hz⟩ := zfoldK_ok hfo
          obtain ⟨J, σ, ν1, ν2, tt, e1, e2, e3, e4, e5, e6, e7, e8⟩ := zfold_ok hz
          subst e8
          have hJ := jpsB_ok hp e1
          have hπ := g4.at_.pi
          have k1 := @chH_ok (@instInterpOfExt F) _ _ V π hπ ⟨σ, [], ν1⟩ β' w' R J.HA H rA e4 g4.at_.hold
          have k1' : Holds w' (hden β' rA * (@hden _ (subV σ [] β') (subN ν1 β') J.HA * R)) := k1.cast (by ac_rfl)
          have k2 := @chH_ok (@instInterpOfExt F) _ _ V π hπ ⟨σ, [], ν2⟩ β' w' _ J.HB rA rest e5 k1'
          have k3 := @chPi_ok (@instInterpOfExt F) _ _ V π hπ ⟨σ, [], []⟩ β' J.pi e6
          have k4 := zpi_conv _ X' hJ.p k3
          have fld : ∀ l, l < J.nv → (toE (@subV _ V σ [] β') X').ρ l = zpr l tt.den := by
            intro l hl
            show (match lkT σ l with | some t => t.den | none => V.ρ l) = _
            obtain ⟨a, g1, g2⟩ := tupZ_ok e7 l hl
            rw [Nat.zero_add] at g1
            rw [g1]
            exact g2.symm
          have k5 : Holds w' (@jden (withX E0 X') ps false (.p (.i (j : Int)) tt.den) (β' nmB) * (hden β' rest * (@hden _ (subV σ [] β') (subN ν1 β') J.HA * R))) := by
            refine @jden_mk (withX E0 X') ps false _ _ j J (toE (@subV _ V σ [] β') X') (subN ν2 β') w' _ e1 rfl fld ?_ k4 ?_
            · show β' (lkN ν2 0) = _
              rw [e3]
            · rw [show J.H false = J.HB from rfl, ← zhp_conv _ X' _ hJ.hB]
              exact k2
          have k6 : Holds w' (@hden _ (subV σ [] β') (subN ν1 β') J.HA * (@jden (withX E0 X') ps false (.p (.i (j : Int)) tt.den) (β' nmB) * (hden β' rest * R))) := k5.cast (by ac_rfl)
          have k7 : Holds w' (@jden (withX E0 X') ps true (.p (.i (j : Int)) tt.den) (β' nmA) * (@jden (withX E0 X') ps false (.p (.i (j : Int)) tt.den) (β' nmB) * (hden β' rest * R))) := by
            refine @jden_mk (withX E0 X') ps true _ _ j J (toE (@subV _ V σ [] β') X') (subN ν1 β') w' _ e1 rfl fld ?_ k4 ?_
            · show β' (lkN ν1 0) = _
              rw [e2]
            · rw [show J.H true = J.HA from rfl, ← zhp_conv _ X' _ hJ.hA]
              exact k6
          have hwr : Ef.hwf n rest := zch_wf e5 (zch_wf e4 g4.at_.wf)
          refine hk β' _ _ w' g1 g2 g3 ⟨g4.ag, g4.n, ⟨hπ, ?_, ?_⟩, g4.st⟩
          · intro q hq
            rcases List.mem_cons.1 hq with rfl | hq
            · exact ⟨hlt, fun m hm => (by cases hm)⟩
            · rcases List.mem_cons.1 hq with rfl | hq
              · exact ⟨g2, fun m hm => (by cases hm)⟩
              · exact hwr q hq
          · show Holds w' ((Interp.ob KA (.p (.i (j : Int)) tt.den) [] (β' nmA) * (Interp.ob KB (.p (.i (j : Int)) tt.den) [] (β' nmB) * hden β' rest)) * R)
            rw [hA, hB]
            exact k7.cast (by ac_rfl)
        · exact g1.elim
      · exact g1.elim
    · exact g1.elim
  · exact g1.elim
end
end Go.Proofs.Ytmmpnjcmaodkcaa.Ef
