/- What is proved: the contract of a memory's access to a pair of words. Conditions: stated with each contract. -/
import Derived.Test.YtiodiobomblbiaaTk
namespace Go.Proofs.Ytiodiobomblbiaa.Ef
open Go Go.RowKit Go.Proofs.Ytiodiobomblbiaa.Sep Go.Proofs.Ytiodiobomblbiaa.Num Go.Proofs.Ytiodiobomblbiaa.Mem
open Go.Proofs.Ytiodiobomblbiaa.Ev (Fast)
set_option maxRecDepth 100000
set_option linter.unusedVariables false
set_option linter.unusedSimpArgs false
set_option linter.unusedSectionVars false
theorem poke_put {M : MS} {a x : Int} (h : 0 ≤ M.load a ∧ M.load a < 18446744073709551616) (h0 : 0 ≤ a) (h1 : a < M.ws.length) : M.poke a x = { M with ws := M.ws.set a.toNat x } := by
  have ht : M.there a = true := by simp [MS.there]; omega
  unfold MS.poke
  split
  · rename_i e
    have hl : M.load a = x := by omega
    unfold MS.load MS.get at hl
    rw [if_pos ht, List.getD_eq_getElem?_getD, List.getElem?_eq_getElem (by omega), Option.getD_some] at hl
    rw [← hl, List.set_getElem_self]
  · unfold MS.put
    rw [if_pos ht]
section
variable [Ext] [Exp]
def evenLit (a : Int) : Bool := intBeq (Int.tmod a 2) 0
def cCas2 (k : Nat) : CtrAt := fun args s =>
  match args with
  | [.a (.one (.ptr nm 0)), .a (.one (.int .i64 (.lit a))), .a (.one (.int .u64 o0)), .a (.one (.int .u64 o1)), .a (.one (.int .u64 v0)), .a (.one (.int .u64 v1))] =>
    match s with
    | ⟨π, H, n⟩ =>
      match find H nm with
      | some (.abs j x ns) => bif Nat.beq j k then
          frcT (mkFst x) fun M => frcT (mkSnd x) fun c => frcT (mkAdd c (.lit 1)) fun c1 =>
            match mkAdd (.lit a) (.lit 1) with
            | .lit b => bif inLen M a && (inLen M b && evenLit a) then
                some (needs π (room c ++ (isU64 v0 ++ isU64 v1)) (brZ (mkLoad π (.lit a) M) o0 π fun π t =>
                  bif t then brZ (mkLoad π (.lit b) M) o1 π fun π t =>
                    bif t then frcH (put H nm (.abs k (.a2 .pair (i2 26 (i2 22 M (.a2 .pair (.lit a) v0)) (.a2 .pair (.lit b) v1)) c1) [])) fun H => .done (.c (.bool (.bl true)), ⟨π, H, n⟩)
                    else frcH (put H nm (.abs k (.a2 .pair (i2 21 M (.lit a)) c1) [])) fun H => .done (.c (.bool (.bl false)), ⟨π, H, n⟩)
                  else frcH (put H nm (.abs k (.a2 .pair (i2 21 M (.lit a)) c1) [])) fun H => .done (.c (.bool (.bl false)), ⟨π, H, n⟩))) else none
            | _ => none else none
      | _ => none
  | _ => none
variable [Vars]
theorem cCas2_ok {P : Program} {g k T : Nat} (hk0 : k = 1 ∧ T = 92 ∨ k = 2 ∧ T = 55)
    (h : ∀ (w : World) (R : HProp) (mb : Nat) (M : MS) (a o0 o1 x0 x1 : Int), Holds w (MemP T mb M * R) → M.ok → 0 ≤ a → a + 2 ≤ M.ws.length → Int.tmod a 2 = 0 →
      Calls P g #[.pointer (some ⟨mb, 0, none⟩), .int .i64 a, .int .u64 o0, .int .u64 o1, .int .u64 x0, .int .u64 x1] w fun e w' => e = .returned (.bool (decide (M.get a = o0) && decide (M.get (a + 1) = o1))) ∧
        Holds w' (MemP T mb (({ M with ws := if M.get a = o0 ∧ M.get (a + 1) = o1 then (M.ws.set a.toNat x0).set (a.toNat + 1) x1 else M.ws } : MS).acc true) * R) ∧ Strm w w') : CAtOk P g (cCas2 k) := by
  intro args s t ht L β hl ha htp w R hw Q hk
  unfold cCas2 at ht
  split at ht
  · rename_i nm a o0 o1 v0 v1
    obtain ⟨π, H, n⟩ := s
    dsimp only at ht
    split at ht
    · rename_i j x ns hf
      rw [Bool.cond_eq_ite] at ht
      split at ht
      · rename_i hj
        have hj := Nat.eq_of_beq_eq_true hj
        subst hj
        simp only [frcT_eq, frcH_eq] at ht
        split at ht
        · rename_i b hb
          have eb : b = a + 1 := by
            have := mkAdd_v (.lit a) (.lit 1)
            rw [hb] at this
            exact this
          rw [Bool.cond_eq_ite] at ht
          split at ht
          · rename_i hin
            simp only [Bool.and_eq_true] at hin
            obtain ⟨hi1, hi2, hev⟩ := hin
            have hev : Int.tmod a 2 = 0 := intBeq_eq hev
            have hx : x.den.fst = (mkFst x).den := (fst_den x).symm
            obtain ⟨g0, g1⟩ := inLen_ok hi1
            obtain ⟨g2, g3⟩ := inLen_ok hi2
            rw [← hx] at g1 g3
            subst eb
            have hf' : find (⟨π, H, n⟩ : St).H nm = some (.abs j x ns) := hf
            have hob2 : Holds w (MemO T x.den (β nm) * (hden β (del H nm) * R)) := ob_get hk0 (focus hf hw.hold)
            obtain ⟨⟨ok, b1', b2', b3'⟩, _⟩ := memO_open hob2
            simp only [Option.some.injEq] at ht
            subst ht
            obtain ⟨h1, h2⟩ := needs_leads hw.pi hl
            have hc := room_ok (c := mkSnd x) (fun p hp => h1 p (List.mem_append_left _ hp))
            have hv0 := isU64_ok (x := v0) (fun p hp => h1 p (List.mem_append_right _ (List.mem_append_left _ hp)))
            have hv1 := isU64_ok (x := v1) (fun p hp => h1 p (List.mem_append_right _ (List.mem_append_right _ hp)))
            have tha : (memOf x.den.fst).there a = true := by simp [MS.there]; omega
            have thb : (memOf x.den.fst).there (a + 1) = true := by simp [MS.there]; omega
            have gl : ∀ c : Int, (memOf x.den.fst).there c = true → (memOf x.den.fst).get c = (memOf x.den.fst).load c := fun c hc => by unfold MS.load; rw [if_pos hc]
            have hld : ∀ c : Int, (mkLoad π (.lit c) (mkFst x)).v = (memOf x.den.fst).load c := fun c => by rw [mkLoad_v hw.pi, ← hx, lit_v, cl64_in (load_in ok _)]
            have core : ∀ (M1 : Tm) (V : Bool) (π' : Pi), facts π' → V = (decide ((memOf x.den.fst).get a = o0.v) && decide ((memOf x.den.fst).get (a + 1) = o1.v)) →
                memOf M1.den = ({ memOf x.den.fst with ws := if (memOf x.den.fst).get a = o0.v ∧ (memOf x.den.fst).get (a + 1) = o1.v then ((memOf x.den.fst).ws.set a.toNat v0.v).set (a.toNat + 1) v1.v else (memOf x.den.fst).ws } : MS).acc true →
                (∀ w', Out β ⟨π, H, n⟩ w R β ⟨π', put H nm (.abs j (.a2 .pair M1 (mkAdd (mkSnd x) (.lit 1))) []), n⟩ w' → Q (.returned (.bool V)) w') →
                Calls P g #[.pointer (some ⟨β nm, 0, none⟩), .int .i64 a, .int .u64 o0.v, .int .u64 o1.v, .int .u64 v0.v, .int .u64 v1.v] w Q := by
              intro M1 V π' hp hV hM hfin
              rw [snd_v] at hc
              refine at_obj (o := .abs j x ns) (o1 := .abs j (.a2 .pair M1 (mkAdd (mkSnd x) (.lit 1))) []) hw hf' (fun _ h => nomatch h) (V := .bool V) (fun R' hR => ?_) fun w' ho => ?_
              · have hR2 : Holds w (MemO T x.den (β nm) * R') := ob_get hk0 hR
                refine (h w R' (β nm) _ a o0.v o1.v v0.v v1.v (memO_open hR2).2 ok g0 (by omega) hev).mono ?_
                rintro e w' ⟨rfl, q1, q2⟩
                refine ⟨by rw [hV], ?_, q2⟩
                show Holds w' (Interp.ob j _ [] _ * R')
                rw [ob_of hk0]
                refine holds_and_mk ?_ ?_
                · show (memOf M1.den).ok ∧ ((memOf M1.den).n : Int) ≤ (mkAdd (mkSnd x) (.lit 1)).v ∧ ((memOf M1.den).cnt : Int) ≤ (mkAdd (mkSnd x) (.lit 1)).v ∧ ((memOf M1.den).tr : Int) ≤ (mkAdd (mkSnd x) (.lit 1)).v
                  rw [mkAdd_v, lit_v, hM, snd_v]
                  split
                  · exact ok_acc (M := { memOf x.den.fst with ws := ((memOf x.den.fst).ws.set a.toNat v0.v).set (a.toNat + 1) v1.v }) (ok_set (ok_set ok a.toNat hv0) (a.toNat + 1) hv1) b1' b2' b3' hc true
                  · exact ok_acc (M := memOf x.den.fst) ok b1' b2' b3' hc true
                · show Holds w' (MemP T (β nm) (memOf M1.den) * R')
                  rw [hM]; exact q1
              · exact hfin w' ⟨ho.ag, ho.n, ⟨hp, ho.at_.wf, ho.at_.hold⟩, ho.st⟩
            have miss : ∀ π' : Pi, facts π' → ((memOf x.den.fst).get a = o0.v → ¬ (memOf x.den.fst).get (a + 1) = o1.v) →
                L β (.c (.bool (.bl false)), ⟨π', put H nm (.abs j (.a2 .pair (i2 21 (mkFst x) (.lit a)) (mkAdd (mkSnd x) (.lit 1))) []), n⟩) →
                Calls P g #[.pointer (some ⟨β nm, 0, none⟩), .int .i64 a, .int .u64 o0.v, .int .u64 o1.v, .int .u64 v0.v, .int .u64 v1.v] w Q := by
              intro π' hp hne hL
              refine core (i2 21 (mkFst x) (.lit a)) false π' hp ?_ ?_ fun w' ho => hk β (.c (.bool (.bl false))) _ w' hL trivial rfl ho
              · by_cases e : (memOf x.den.fst).get a = o0.v
                · simp [e, hne e]
                · simp [e]
              · rw [if_neg (fun e => hne e.1 e.2)]
                show (memOf (mkFst x).den).loaded a = _
                rw [← hx]
                unfold MS.loaded
                rw [tha]
            obtain ⟨π1, hp1, h3⟩ := brZ_leads h2 hw.pi
            cases hb1 : (mkEq (mkLoad π (.lit a) (mkFst x)) o0).tv with
            | false =>
              rw [hb1] at h3
              simp only [cond_false] at h3
              rw [mkEq_tv, hld] at hb1
              have he : (memOf x.den.fst).load a ≠ o0.v := by simpa using hb1
              exact miss π1 hp1 (fun e => absurd ((gl a tha).symm.trans e) he) h3
            | true =>
              rw [hb1] at h3
              simp only [cond_true] at h3
              rw [mkEq_tv, hld] at hb1
              have he0 : (memOf x.den.fst).load a = o0.v := by simpa using hb1
              obtain ⟨π2, hp2, h4⟩ := brZ_leads h3 hp1
              have hld1 : ∀ c : Int, (mkLoad π1 (.lit c) (mkFst x)).v = (memOf x.den.fst).load c := fun c => by rw [mkLoad_v hp1, ← hx, lit_v, cl64_in (load_in ok _)]
              cases hb2 : (mkEq (mkLoad π1 (.lit (a + 1)) (mkFst x)) o1).tv with
              | false =>
                rw [hb2] at h4
                simp only [cond_false] at h4
                rw [mkEq_tv, hld1] at hb2
                have he : (memOf x.den.fst).load (a + 1) ≠ o1.v := by simpa using hb2
                exact miss π2 hp2 (fun _ e => absurd ((gl _ thb).symm.trans e) he) h4
              | true =>
                rw [hb2] at h4
                simp only [cond_true] at h4
                rw [mkEq_tv, hld1] at hb2
                have he1 : (memOf x.den.fst).load (a + 1) = o1.v := by simpa using hb2
                have e0 := (gl a tha).trans he0
                have e1 := (gl _ thb).trans he1
                refine core (i2 26 (i2 22 (mkFst x) (.a2 .pair (.lit a) v0)) (.a2 .pair (.lit (a + 1)) v1)) true π2 hp2 (by simp [e0, e1]) ?_ fun w' ho => hk β (.c (.bool (.bl true))) _ w' h4 trivial rfl ho
                rw [if_pos ⟨e0, e1⟩]
                show ((memOf (mkFst x).den).store a v0.v).poke (a + 1) v1.v = _
                rw [← hx]
                have es : (memOf x.den.fst).store a v0.v = ({ memOf x.den.fst with ws := (memOf x.den.fst).ws.set a.toNat v0.v } : MS).acc true := by
                  unfold MS.store MS.put
                  rw [tha, if_pos rfl]
                have oks : ((memOf x.den.fst).store a v0.v).ok := (ok_store ok b1' b2' b3' (by rw [← snd_v]; exact hc) a hv0).1
                rw [poke_put (load_in oks _) (by omega) (by rw [es]; simp only [MS.acc, List.length_set]; omega), es]
                simp only [MS.acc, show (a + 1).toNat = a.toNat + 1 by omega]
          · cases ht
        · cases ht
      · cases ht
    · cases ht
  · cases ht
end
end Go.Proofs.Ytiodiobomblbiaa.Ef
