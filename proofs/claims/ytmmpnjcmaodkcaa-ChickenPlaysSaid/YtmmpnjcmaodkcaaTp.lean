/- What is proved: a contract from a function's own evaluation: of numbers alone, and the memory stays. Conditions: stated with the rule. -/
import Derived.Test.YtmmpnjcmaodkcaaTl
namespace Go.Proofs.Ytmmpnjcmaodkcaa.Ef
open Go Go.RowKit Go.Proofs.Ytmmpnjcmaodkcaa.Sep Go.Proofs.Ytmmpnjcmaodkcaa.Num Go.Proofs.Ytmmpnjcmaodkcaa.Mem
open Go.Proofs.Ytmmpnjcmaodkcaa.Ev (Fast)
set_option maxRecDepth 100000
set_option linter.unusedVariables false
set_option linter.unusedSimpArgs false
set_option linter.unusedSectionVars false
def mtArgs : List SV → List SV → Mt → Mt
  | .a (.one c) :: r, .a (.one d) :: s, m => mtArgs r s (mtC 0 c d m)
  | .a (.agg c) :: r, .a (.agg d) :: s, m => mtArgs r s (mtCs 0 c d m)
  | _ :: r, _ :: s, m => mtArgs r s m
  | _, _, m => m
section
variable [Ext] [Exp]
def SV.subV (σ : List (Nat × Tm)) (τ : List (Nat × SC)) : SV → SV
  | .a (.one c) => .a (.one (c.sub σ τ []))
  | .a (.agg l) => .a (.agg (l.map (SC.sub σ τ [])))
  | v => v
def chArgs (m : Mt) : List SV → List SV → Bool
  | [], [] => true
  | x :: r, y :: s => bif chV ⟨m.σ, m.τ, []⟩ x y then chArgs m r s else false
  | _, _ => false
def okRes : SV → Bool
  | .a (.one c) => SC.wfB 0 c
  | .a (.agg l) => lwfB 0 l
  | _ => false
def subPi (σ : List (Nat × Tm)) : Pi → List Tm
  | [] => []
  | (c, true) :: r => c.sub σ :: subPi σ r
  | (c, false) :: r => mkNot (c.sub σ) :: subPi σ r
/-- A function of numbers that leaves the memory: what it answers, by a pattern. -/
def cTm (pargs : List SV) (pre : Pi) (res : SV) : CtrAt := fun args s =>
  match mtArgs pargs args ⟨[], [], []⟩ with
  | ⟨σ, _, _⟩ => bif chArgs ⟨σ, [], []⟩ pargs args && okRes res then some (needs s.pi (subPi σ pre) (frcV (res.subV σ []) fun v => .done (v, s))) else none
variable [V : Vars]
theorem chArgs_ok {m : Mt} {β : Bl} : ∀ {p a : List SV}, chArgs m p a = true → a.map (SV.den β) = p.map (@SV.den _ (Ef.subV m.σ m.τ β) β)
  | [], [], _ => rfl
  | [], _ :: _, h => by cases h
  | _ :: _, [], h => by cases h
  | x :: r, y :: s, h => by
    unfold chArgs at h
    rw [Bool.cond_eq_ite] at h
    split at h
    · rename_i hc
      have h1 := (chV_ok hc β).1
      have e : subN [] β = β := rfl
      rw [List.map_cons, List.map_cons, chArgs_ok h, h1]
      rfl
    · cases h
theorem subPi_ok {σ : List (Nat × Tm)} {β : Bl} : ∀ {pre : Pi}, (∀ p ∈ subPi σ pre, p.tv = true) → @facts _ (Ef.subV σ [] β) pre
  | [], _ => fun q hq => by cases hq
  | (c, b) :: r, h => by
    intro q hq
    have ih : @facts _ (Ef.subV σ [] β) r := subPi_ok fun p hp => h p (by cases b <;> exact List.mem_cons_of_mem _ hp)
    rcases List.mem_cons.1 hq with rfl | hq
    · cases b with
      | true =>
        have := h _ (List.mem_cons_self ..)
        rw [sub_tv σ [] β] at this
        exact this
      | false =>
        have := h _ (List.mem_cons_self ..)
        rw [mkNot_tv, sub_tv σ [] β] at this
        simpa using this
    · exact ih q hq
theorem subV_wf {σ : List (Nat × Tm)} {v : SV} (h : okRes v = true) (n : Nat) : (v.subV σ []).wf n ∧ (v.subV σ []).isTop = false := by
  have one : ∀ c : SC, SC.wfB 0 c = true → (c.sub σ [] []).wf n := by
    intro c hc
    cases c <;> simp only [SC.wfB, SC.sub, SC.wf] at * <;> first
      | trivial
      | (exact absurd (Nat.le_of_ble_eq_true hc) (by omega))
      | (rw [Bool.cond_eq_ite] at hc
         split at hc
         · rename_i a c h1
           refine ⟨fun p hp => ?_, fun p hp => ?_⟩
           · obtain ⟨q, hq, rfl⟩ := List.mem_map.1 hp
             exact absurd (bltAll_ok h1 q hq) (Nat.not_lt_zero _)
           · obtain ⟨q, hq, rfl⟩ := List.mem_map.1 hp
             exact absurd (bltAll_ok hc q hq) (Nat.not_lt_zero _)
         · cases hc)
  have all : ∀ l : List SC, lwfB 0 l = true → lwf n (l.map (SC.sub σ [] [])) := by
    intro l
    induction l with
    | nil => exact fun _ c hc => by cases hc
    | cons c r ih =>
      intro h c' hc
      unfold lwfB at h
      rw [Bool.cond_eq_ite] at h
      split at h
      · rename_i h1
        rcases List.mem_cons.1 hc with rfl | hc
        · exact one c h1
        · exact ih h c' hc
      · cases h
  unfold okRes at h
  split at h
  · exact ⟨one _ h, rfl⟩
  · exact ⟨all _ h, rfl⟩
  · cases h
theorem subV_den {σ : List (Nat × Tm)} {v : SV} (h : okRes v = true) (β : Bl) : (v.subV σ []).den β = @SV.den _ (Ef.subV σ [] β) β v := by
  unfold okRes at h
  split at h
  · rename_i c
    exact subC_den σ [] [] β c
  · rename_i l
    show Value.agg (dens β (l.map (SC.sub σ [] []))) = .agg (@dens _ (Ef.subV σ [] β) β l)
    unfold dens
    rw [List.map_map]
    congr 2
    exact List.map_congr_left fun c _ => subC_den σ [] [] β c
  · cases h
end
section
variable [Ext] [Exp] [Vars]
theorem cTm_ok {P : Program} {f : Nat} {pargs : List SV} {pre : Pi} {res : SV}
    (h : ∀ (V : Vars) (β : Bl) (w : World) (R : HProp), @facts _ V pre → Holds w R → Calls P f (pargs.map (@SV.den _ V β)).toArray w fun e w' => e = .returned (@SV.den _ V β res) ∧ Holds w' R ∧ Strm w w') : CAtOk P f (cTm pargs pre res) := by
  intro args s t ht L β hl ha htp w R hw Q hk
  unfold cTm at ht
  split at ht
  · rename_i σ _ _ _
    rw [Bool.cond_eq_ite] at ht
    split at ht
    · rename_i hc
      rw [Bool.and_eq_true] at hc
      simp only [Option.some.injEq, frcV_eq] at ht
      subst ht
      obtain ⟨h1, h2⟩ := needs_leads hw.pi hl
      have e := chArgs_ok (β := β) hc.1
      rw [e]
      refine (h (Ef.subV σ [] β) β w _ (subPi_ok h1) hw.hold).mono ?_
      rintro e w' ⟨rfl, g1, g2⟩
      have := hk β (res.subV σ []) s w' h2 (subV_wf hc.2 _).1 (subV_wf hc.2 0).2 ⟨Ag.refl _ _, Nat.le_refl _, ⟨hw.pi, hw.wf, g1⟩, g2⟩
      rw [subV_den hc.2] at this
      exact this
    · cases ht
/-- Its evaluation. -/
def svBeq : SV → SV → Bool
  | .a (.one c), .a (.one d) => SC.beq c d
  | .a (.agg c), .a (.agg d) => csBeq c d
  | _, _ => false
theorem svBeq_ok {x y : SV} (h : svBeq x y = true) : x = y := by
  unfold svBeq at h
  split at h
  · rw [SC.beq_eq h]
  · rw [csBeq_eq h]
  · cases h
def noNs : List SV → Bool
  | [] => true
  | v :: r => bif okRes v then noNs r else false
end
section
variable [Ext] [Exp]
def evT (P : Program) [Fast P] [Ab P] (Γ : Ctr) (mf : Nat → Bool) (g f : Nat) (args : List SV) (s : St) : Rt := callBy P ctrNone (fun _ => true) (fun mg => evCode P Γ mf g mg) f args s
theorem okRes_ext [Vars] {v : SV} (h : okRes v = true) (β β' : Bl) : v.den β' = v.den β := by
  have hag : Ag 0 β β' := fun m hm => absurd hm (Nat.not_lt_zero _)
  have one : ∀ c : SC, SC.wfB 0 c = true → c.wf 0 := fun c hc => SC.wfB_ok hc
  unfold okRes at h
  split at h
  · rename_i c
    exact SC.ext hag (SC.wfB_ok h)
  · rename_i l
    show Value.agg (dens β' l) = .agg (dens β l)
    rw [dens_ext hag (lwfB_ok h)]
  · cases h
def knownC (π : Pi) : SC → SC
  | .int k t => .int k (known1 π t)
  | .bool t => .bool (known1 π t)
  | c => c
def knownV (π : Pi) : SV → SV
  | .a (.one c) => .a (.one (knownC π c))
  | .a (.agg l) => .a (.agg (l.map (knownC π)))
  | v => v
theorem knownC_den [Vars] {π : Pi} (hπ : facts π) (β : Bl) (c : SC) : (knownC π c).den β = c.den β := by
  cases c <;> simp only [knownC, SC.den, Tm.v, Tm.tv, known1_den hπ]
theorem knownV_den [Vars] {π : Pi} (hπ : facts π) (β : Bl) (v : SV) : (knownV π v).den β = v.den β := by
  unfold knownV
  split
  · exact knownC_den hπ β _
  · rename_i l
    show Value.agg (dens β _) = .agg (dens β l)
    unfold dens
    rw [List.map_map]
    congr 2
    exact List.map_congr_left fun c _ => knownC_den hπ β c
  · rfl
theorem tm_calls {P : Program} [Fast P] [Ab P] [okP : ∀ [Vars], AbOk P] (hn : NoGos P) (hm : P.follows .mixedOrders = true) {Γ : Ctr} (hΓ : ∀ V : Vars, @CtrOk _ V P Γ) (mf : Nat → Bool) (g : Nat) {f : Nat} {pargs : List SV} {pre : Pi} {res : SV}
    (hp : noNs pargs = true) (hr : okRes res = true)
    (chk : (evT P Γ mf g f pargs ⟨pre, [], 0⟩).allB (fun q => svBeq (knownV q.2.pi q.1) (knownV q.2.pi res)) = true) :
    ∀ (V : Vars) (β : Bl) (w : World) (R : HProp), @facts _ V pre → Holds w R → Calls P f (pargs.map (@SV.den _ V β)).toArray w fun e w' => e = .returned (@SV.den _ V β res) ∧ Holds w' R ∧ Strm w w' := by
  intro V β w R hpre hR
  have hpa : ∀ {l : List SV}, noNs l = true → ∀ x ∈ l, okRes x = true := by
    intro l
    induction l with
    | nil => exact fun _ x hx => by cases hx
    | cons v r ih =>
      intro h x hx
      unfold noNs at h
      rw [Bool.cond_eq_ite] at h
      split at h
      · rename_i h1
        rcases List.mem_cons.1 hx with rfl | hx
        · exact h1
        · exact ih h x hx
      · cases h
  have hwt : ∀ x : SV, okRes x = true → x.wf 0 ∧ x.isTop = false := by
    intro x h
    unfold okRes at h
    split at h
    · exact ⟨SC.wfB_ok h, rfl⟩
    · exact ⟨lwfB_ok h, rfl⟩
    · cases h
  have hat : At β (⟨pre, [], 0⟩ : St) w R := ⟨hpre, fun q hq => (by cases hq), hR.cast (by show R = emp * R; rw [star_comm, star_emp])⟩
  refine callBy_ok (ctrNone_ok P) (fun mg => evCode_ok hn hm (hΓ V) mf g mg) f pargs ⟨pre, [], 0⟩ _ β (allB_leads chk) (fun x hx => (hwt x (hpa hp x hx)).1) (fun x hx => (hwt x (hpa hp x hx)).2) w R hat _ fun β' v s' w' h1 h2 h3 h4 => ?_
  have e := svBeq_ok h1
  simp only at e
  have hp := h4.at_.pi
  have e1 := knownV_den hp β' v
  have e2 := knownV_den hp β' res
  rw [e] at e1
  exact ⟨by rw [← e1, e2, okRes_ext hr β β'], h4.at_.hold.drop, h4.st⟩
end
end Go.Proofs.Ytmmpnjcmaodkcaa.Ef
