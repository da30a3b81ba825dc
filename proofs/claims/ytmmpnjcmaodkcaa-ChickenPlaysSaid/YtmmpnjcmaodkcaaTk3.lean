/- What is proved: contracts of a memory's clone in the second evaluator. Conditions: stated with each contract. -/
import Derived.Test.YtmmpnjcmaodkcaaTk
namespace Go.Proofs.Ytmmpnjcmaodkcaa.Ef
open Go Go.RowKit Go.Proofs.Ytmmpnjcmaodkcaa.Sep Go.Proofs.Ytmmpnjcmaodkcaa.Num Go.Proofs.Ytmmpnjcmaodkcaa.Mem
open Go.Proofs.Ytmmpnjcmaodkcaa.Ev (Fast)
set_option maxRecDepth 100000
set_option linter.unusedVariables false
set_option linter.unusedSimpArgs false
set_option linter.unusedSectionVars false
/-- One contract, else the other. -/
def cOr (c d : CtrAt) : CtrAt := fun args s => match c args s with
  | some t => some t
  | none => d args s
section
variable [Ext] [Exp]
def cClone (k : Nat) : CtrAt := fun args s =>
  match args with
  | [.a (.one (.ptr nm 0))] =>
    match s with
    | ⟨π, H, n⟩ =>
      match find H nm with
      | some (.abs j x ns) =>
        match mlen (mkFst x) with
        | some l => bif Nat.beq j k && intLe 1 l then
            some (frcH (put H nm (.abs k x [])) fun H => frcN n fun n => .new n (.done (.c (.ptr n 0), ⟨π, (n, .abs 3 x []) :: H, n + 1⟩))) else none
        | none => none
      | _ => none
  | _ => none
def cLoadC : CtrAt := fun args s =>
  match args with
  | [.a (.one (.ptr nm 0)), .a (.one (.int .i64 a))] =>
    match s with
    | ⟨π, H, n⟩ =>
      match find H nm with
      | some (.abs j x ns) => bif Nat.beq j 3 && known (mkFst x) a then
          frcT (mkFst x) fun M => frcT (mkSnd x) fun c => frcT (mkLoad π a M) fun t => frcT (mkAdd c (.lit 1)) fun c1 =>
            frcH (put H nm (.abs 3 (.a2 .pair (i2 21 M a) c1) [])) fun H => some (needs π (room c) (.done (.c (.int .u64 t), ⟨π, H, n⟩))) else none
      | _ => none
  | _ => none
def cLenC : CtrAt := fun args s =>
  match args with
  | [.a (.one (.ptr nm 0))] =>
    match s with
    | ⟨π, H, n⟩ =>
      match find H nm with
      | some (.abs j x ns) =>
        match mlen (mkFst x) with
        | some l => bif Nat.beq j 3 && intLe 0 l then some (frcH (put H nm (.abs 3 x [])) fun H => .done (.c (.int .i64 (.lit l)), ⟨π, H, n⟩)) else none
        | none => none
      | _ => none
  | _ => none
variable [Vars]
theorem cOr_ok {P : Program} {g : Nat} {c d : CtrAt} (hc : CAtOk P g c) (hd : CAtOk P g d) : CAtOk P g (cOr c d) := by
  intro args s t ht
  unfold cOr at ht
  split at ht
  · rename_i u hu
    cases ht
    exact hc args s t hu
  · exact hd args s t ht
theorem ob3 (u : UM) (ns : List Nat) (b : Nat) : Interp.ob 3 u ns b = CloneO u b := rfl
theorem cClone_ok {P : Program} {g k : Nat} (hk0 : k = 1 ∧ 101 = 101 ∨ k = 2 ∧ 101 = 50)
    (h : ∀ (w : World) (R : HProp) (mb : Nat) (M : MS), Holds w (MemP 101 mb M * R) → M.ok → 1 ≤ M.ws.length → Calls P g #[.pointer (some ⟨mb, 0, none⟩)] w fun e w' => ∃ cb, e = .returned (.pointer (some ⟨cb, 0, none⟩)) ∧ Holds w' (CloneP cb M * (MemP 101 mb M * R)) ∧ Strm w w') : CAtOk P g (cClone k) := by
  intro args s t ht L β hl ha htp w R hw Q hk
  unfold cClone at ht
  split at ht
  · rename_i nm
    obtain ⟨π, H, n⟩ := s
    dsimp only at ht
    split at ht
    · rename_i j x ns hf
      split at ht
      · rename_i l hlen
        rw [Bool.cond_eq_ite] at ht
        split at ht
        · rename_i hj
          rw [Bool.and_eq_true] at hj
          have hj1 := Nat.eq_of_beq_eq_true hj.1
          subst hj1
          have hl1 : 1 ≤ l := of_decide_eq_true hj.2
          simp only [frcH_eq, frcN_eq, Option.some.injEq] at ht
          subst ht
          have hx : x.den.fst = (mkFst x).den := (fst_den x).symm
          have hln := mlen_ok hlen (by omega)
          rw [← hx] at hln
          have hnm : nm < n := (hw.wf _ (find_mem hf)).1
          have hob := focus hf hw.hold
          have hob2 : Holds w (MemO 101 x.den (β nm) * (hden β (del H nm) * R)) := ob_get hk0 hob
          obtain ⟨hb, hm⟩ := memO_open hob2
          refine (h w _ (β nm) _ hm hb.1 (by omega)).mono ?_
          rintro e w' ⟨cb, rfl, g1, g2⟩
          have hag := upd_ag β n cb
          have hwf1 : hwf n (put H nm (.abs j x [])) := put_wf hw.wf (fun _ h => nomatch h)
          have q := hk (upd β n cb) (.c (.ptr n 0)) ⟨π, (n, .abs 3 x []) :: put H nm (.abs j x []), n + 1⟩ w' (hl cb) (Nat.lt_succ_self _) rfl
          have hwf : hwf (n + 1) ((n, .abs 3 x []) :: put H nm (.abs j x [])) := by
            intro q hq
            rcases List.mem_cons.1 hq with rfl | hq
            · exact ⟨Nat.lt_succ_self _, fun _ h => nomatch h⟩
            · exact ⟨Nat.lt_succ_of_lt (hwf1 q hq).1, SO.wf_mono (Nat.le_succ _) (hwf1 q hq).2⟩
          have hho : Holds w' (hden (upd β n cb) ((n, .abs 3 x []) :: put H nm (.abs j x [])) * R) := by
            show Holds w' ((CloneO x.den (upd β n cb n) * hden (upd β n cb) (put H nm (.abs j x []))) * R)
            rw [hden_ext hag hwf1, upd_self, put_den H hf]
            have e1 : (SO.abs j x []).den β (β nm) = MemO 101 x.den (β nm) := ob_of hk0 _ _
            rw [e1]
            have h3 : Holds w' (CloneO x.den cb * (MemO 101 x.den (β nm) * (hden β (del H nm) * R))) := by
              refine holds_and_mk hb ?_
              have g3 : Holds w' (MemP 101 (β nm) (memOf x.den.fst) * (CloneP cb (memOf x.den.fst) * (hden β (del H nm) * R))) := g1.cast (by ac_rfl)
              have g4 : Holds w' (MemO 101 x.den (β nm) * (CloneP cb (memOf x.den.fst) * (hden β (del H nm) * R))) := holds_and_mk hb g3
              exact g4.cast (by ac_rfl)
            exact h3.cast (by ac_rfl)
          have q := q ⟨hag, Nat.le_succ _, ⟨hw.pi, hwf, hho⟩, g2⟩
          have e : (SV.c (.ptr n 0)).den (upd β n cb) = .pointer (some ⟨cb, 0, none⟩) := by
            show Value.pointer (some ⟨upd β n cb n, 0, none⟩) = _
            rw [upd_self]
          rw [e] at q
          exact q
        · cases ht
      · cases ht
    · cases ht
  · cases ht
theorem cLoadC_ok {P : Program} {g : Nat}
    (h : ∀ (w : World) (R : HProp) (mb : Nat) (M : MS) (a : Int), Holds w (CloneP mb M * R) → M.ok → 0 ≤ a → a < M.ws.length → Calls P g #[.pointer (some ⟨mb, 0, none⟩), .int .i64 a] w fun e w' => e = .returned (.int .u64 (M.get a)) ∧ Holds w' (CloneP mb (M.acc true) * R) ∧ Strm w w') : CAtOk P g cLoadC := by
  intro args s t ht L β hl ha htp w R hw Q hk
  unfold cLoadC at ht
  split at ht
  · rename_i nm a
    obtain ⟨π, H, n⟩ := s
    dsimp only at ht
    split at ht
    · rename_i j x ns hf
      rw [Bool.cond_eq_ite] at ht
      split at ht
      · rename_i hj
        rw [Bool.and_eq_true] at hj
        have hj1 := Nat.eq_of_beq_eq_true hj.1
        subst hj1
        simp only [frcT_eq, frcH_eq, Option.some.injEq] at ht
        subst ht
        obtain ⟨h1, h2⟩ := needs_leads hw.pi hl
        have hc := room_ok h1
        rw [snd_v] at hc
        have hx : x.den.fst = (mkFst x).den := (fst_den x).symm
        have hkn := hj.2
        unfold known at hkn
        split at hkn
        · rename_i a
          obtain ⟨a0, a1⟩ := inLen_ok hkn
          rw [← hx] at a1
          have hf' : find (⟨π, H, n⟩ : St).H nm = some (.abs 3 x ns) := hf
          have hob : Holds w (CloneO x.den (β nm) * (hden β (del H nm) * R)) := focus hf hw.hold
          obtain ⟨⟨ok, b1', b2', b3'⟩, _⟩ := holds_and hob
          have et : (memOf x.den.fst).there a = true := (there_iff _ a).2 ⟨a0, a1⟩
          have el : (memOf x.den.fst).load a = (memOf x.den.fst).get a := by unfold MS.load; rw [if_pos et]
          have eL : (memOf x.den.fst).loaded a = (memOf x.den.fst).acc true := by unfold MS.loaded; rw [et]
          refine at_obj (o := .abs 3 x ns) (o1 := .abs 3 (.a2 .pair (i2 21 (mkFst x) (.lit a)) (mkAdd (mkSnd x) (.lit 1))) []) hw hf' (fun _ h => nomatch h) (V := .int .u64 ((memOf x.den.fst).get a)) (fun R' hR => ?_) fun w' ho => ?_
          · have hR2 : Holds w (CloneO x.den (β nm) * R') := hR
            refine (h w R' (β nm) _ a (holds_and hR2).2 ok a0 a1).mono ?_
            rintro e w' ⟨rfl, g1, g2⟩
            refine ⟨rfl, ?_, g2⟩
            show Holds w' (CloneO (Tm.a2 .pair (i2 21 (mkFst x) (.lit a)) (mkAdd (mkSnd x) (.lit 1))).den (β nm) * R')
            refine holds_and_mk ?_ ?_
            · show ((memOf (mkFst x).den).loaded a).ok ∧ (((memOf (mkFst x).den).loaded a).n : Int) ≤ (mkAdd (mkSnd x) (.lit 1)).v ∧ (((memOf (mkFst x).den).loaded a).cnt : Int) ≤ (mkAdd (mkSnd x) (.lit 1)).v ∧ (((memOf (mkFst x).den).loaded a).tr : Int) ≤ (mkAdd (mkSnd x) (.lit 1)).v
              rw [mkAdd_v, lit_v, ← hx, snd_v]
              exact ok_acc ok b1' b2' b3' hc _
            · show Holds w' (CloneP (β nm) ((memOf (mkFst x).den).loaded a) * R')
              rw [← hx, eL]; exact g1
          · have := hk β (.c (.int .u64 (mkLoad π (.lit a) (mkFst x)))) _ w' h2 trivial rfl ho
            rw [show (SV.c (.int .u64 (mkLoad π (.lit a) (mkFst x)))).den β = .int .u64 (mkLoad π (.lit a) (mkFst x)).v from rfl, mkLoad_v hw.pi, ← hx, lit_v, cl64_in (load_in ok _), el] at this
            exact this
        · cases hkn
      · cases ht
    · cases ht
  · cases ht
theorem cLenC_ok {P : Program} {g : Nat}
    (h : ∀ (w : World) (R : HProp) (mb : Nat) (M : MS), Holds w (CloneP mb M * R) → Calls P g #[.pointer (some ⟨mb, 0, none⟩)] w fun e w' => e = .returned (.int .i64 (M.ws.length : Int)) ∧ Holds w' (CloneP mb M * R) ∧ Strm w w') : CAtOk P g cLenC := by
  intro args s t ht L β hl ha htp w R hw Q hk
  unfold cLenC at ht
  split at ht
  · rename_i nm
    obtain ⟨π, H, n⟩ := s
    dsimp only at ht
    split at ht
    · rename_i j x ns hf
      split at ht
      · rename_i l hlen
        rw [Bool.cond_eq_ite] at ht
        split at ht
        · rename_i hj
          rw [Bool.and_eq_true] at hj
          have hj1 := Nat.eq_of_beq_eq_true hj.1
          subst hj1
          have hl0 : 0 ≤ l := of_decide_eq_true hj.2
          simp only [frcH_eq, Option.some.injEq] at ht
          subst ht
          have hx : x.den.fst = (mkFst x).den := (fst_den x).symm
          have hln := mlen_ok hlen hl0
          rw [← hx] at hln
          have hf' : find (⟨π, H, n⟩ : St).H nm = some (.abs 3 x ns) := hf
          refine at_obj (o := .abs 3 x ns) (o1 := .abs 3 x []) hw hf' (fun _ h => nomatch h) (V := .int .i64 l) (fun R' hR => ?_) fun w' ho => ?_
          · have hR2 : Holds w (CloneO x.den (β nm) * R') := hR
            have hb := (holds_and hR2).1
            refine (h w R' (β nm) _ (holds_and hR2).2).mono ?_
            rintro e w' ⟨rfl, g1, g2⟩
            refine ⟨by rw [hln], ?_, g2⟩
            show Holds w' (CloneO x.den (β nm) * R')
            exact holds_and_mk hb g1
          · exact hk β (.c (.int .i64 (.lit l))) _ w' hl trivial rfl ho
        · cases ht
      · cases ht
    · cases ht
  · cases ht
end
end Go.Proofs.Ytmmpnjcmaodkcaa.Ef
