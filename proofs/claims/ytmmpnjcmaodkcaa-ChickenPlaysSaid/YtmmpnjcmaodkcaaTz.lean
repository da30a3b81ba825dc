/- What is proved: two machines that go the same steps are kept closed: what becomes of both by a step is one function of their state and of the memory's words. Conditions: stated with each lemma. -/
import Derived.Test.YtmmpnjcmaodkcaaTo
import Derived.Test.YtmmpnjcmaodkcaaTp
namespace Go.Proofs.Ytmmpnjcmaodkcaa.Ef
open Go Go.Proofs.Ytmmpnjcmaodkcaa.Sep Go.Proofs.Ytmmpnjcmaodkcaa.Mem
open Go.Proofs.Ytmmpnjcmaodkcaa.Ev (Fast)
set_option maxRecDepth 100000
set_option linter.unusedVariables false
set_option linter.unusedSimpArgs false
set_option linter.unusedSectionVars false
abbrev oM (M : MS) : UM := U.o (Om.mem M)
/-! ### what a pattern may hold -/
def zf1 : F1 → Bool
  | .usr k => bif isX k then false else true
  | _ => true
def zf2 : F2 → Bool
  | .usr k => bif isC k then false else true
  | _ => true
def ztm (n : Nat) : Tm → Bool
  | .lit _ => true
  | .bl _ => true
  | .var i => Nat.blt i n
  | .a1 f x => bif zf1 f then ztm n x else false
  | .a2 f x y => bif zf2 f then (bif ztm n x then ztm n y else false) else false
def zsc (n : Nat) : SC → Bool
  | .int _ t => ztm n t
  | .bool t => ztm n t
  | .ptr _ _ => true
  | .nil => true
  | .slice _ _ l c => bif ztm n l then ztm n c else false
  | .snil => true
  | .func _ _ _ => true
  | .nilF => true
  | .raw _ => true
  | _ => false
def zcs (n : Nat) : List SC → Bool
  | [] => true
  | c :: r => bif zsc n c then zcs n r else false
def zhp (n : Nat) : SH → Bool
  | [] => true
  | (_, .cells l _) :: r => bif zcs n l then zhp n r else false
  | _ :: _ => false
def zpi (n : Nat) : Pi → Bool
  | [] => true
  | (t, _) :: r => bif ztm n t then zpi n r else false
/-- A joint state: the blocks of both machines (their roots are the name 0), what is known, how many variables and names. -/
structure JP where
  HA : SH
  HB : SH
  pi : Pi
  nv : Nat
  nA : Nat
  nB : Nat
def JP.H (J : JP) (sd : Bool) : SH := bif sd then J.HA else J.HB
def JP.n (J : JP) (sd : Bool) : Nat := bif sd then J.nA else J.nB
def JP.okB (J : JP) : Bool := Nat.blt 0 J.nA && (Nat.blt 0 J.nB && (Nat.ble J.nv 900 && (hwfB J.nA J.HA && (hwfB J.nB J.HB && (zhp J.nv J.HA && (zhp J.nv J.HB && zpi J.nv J.pi))))))
structure JP.Ok (J : JP) : Prop where
  nA : 0 < J.nA
  nB : 0 < J.nB
  nv : J.nv ≤ 900
  wA : hwf J.nA J.HA
  wB : hwf J.nB J.HB
  hA : zhp J.nv J.HA = true
  hB : zhp J.nv J.HB = true
  p : zpi J.nv J.pi = true
theorem JP.okB_ok {J : JP} (h : J.okB = true) : J.Ok := by
  unfold JP.okB at h
  simp only [Bool.and_eq_true] at h
  obtain ⟨h1, h2, h3, h4, h5, h6, h7, h8⟩ := h
  exact ⟨Nat.le_of_ble_eq_true h1, Nat.le_of_ble_eq_true h2, Nat.le_of_ble_eq_true h3, hwfB_ok h4, hwfB_ok h5, h6, h7, h8⟩
theorem JP.Ok.n {J : JP} (h : J.Ok) (sd : Bool) : 0 < J.n sd := by cases sd; exact h.nB; exact h.nA
theorem JP.Ok.w {J : JP} (h : J.Ok) (sd : Bool) : hwf (J.n sd) (J.H sd) := by cases sd; exact h.wB; exact h.wA
theorem JP.Ok.h {J : JP} (h : J.Ok) (sd : Bool) : zhp J.nv (J.H sd) = true := by cases sd; exact h.hB; exact h.hA
def jpsB : List JP → Bool
  | [] => true
  | P :: r => bif P.okB then jpsB r else false
theorem jpsB_ok : ∀ {l : List JP} {i : Nat} {P : JP}, jpsB l = true → l[i]? = some P → P.Ok
  | [], i, P, _, h => by simp at h
  | Q :: r, i, P, h, hi => by
    unfold jpsB at h
    rw [Bool.cond_eq_ite] at h
    split at h
    · rename_i hq
      cases i with
      | zero => simp at hi; subst hi; exact JP.okB_ok hq
      | succ i => simp at hi; exact jpsB_ok h hi
    · cases h
def zpr : Nat → UM → UM
  | 0, u => u.fst
  | j + 1, u => zpr j u.snd
/-! ### one vocabulary's values agree on what is below n -/
section
variable [Ext]
theorem ztm_agree {V V' : Vars} {n : Nat} (h : ∀ j, j < n → V'.ρ j = V.ρ j) : ∀ t : Tm, ztm n t = true → @Tm.den _ V' t = @Tm.den _ V t
  | .lit _, _ => rfl
  | .bl _, _ => rfl
  | .var i, hb => h i (Nat.le_of_ble_eq_true hb)
  | .a1 f x, hb => by
    unfold ztm at hb
    rw [Bool.cond_eq_ite] at hb
    split at hb
    · show F1.den f _ = F1.den f _
      rw [ztm_agree h x hb]
    · cases hb
  | .a2 f x y, hb => by
    unfold ztm at hb
    rw [Bool.cond_eq_ite, Bool.cond_eq_ite] at hb
    split at hb
    · split at hb
      · rename_i hx
        show F2.den f _ _ = F2.den f _ _
        rw [ztm_agree h x hx, ztm_agree h y hb]
      · cases hb
    · cases hb
theorem zsc_agree {V V' : Vars} {n : Nat} (h : ∀ j, j < n → V'.ρ j = V.ρ j) (β : Bl) {c : SC} (hc : zsc n c = true) : @SC.den _ V' β c = @SC.den _ V β c := by
  cases c <;> simp only [zsc] at hc <;> first
    | rfl
    | (simp only [SC.den, Tm.v, Tm.tv, ztm_agree h _ hc]; done)
    | (rw [Bool.cond_eq_ite] at hc
       split at hc
       · rename_i h1; simp only [SC.den, Tm.v, ztm_agree h _ hc, ztm_agree h _ h1]
       · cases hc)
    | cases hc
theorem zcs_agree {V V' : Vars} {n : Nat} (h : ∀ j, j < n → V'.ρ j = V.ρ j) (β : Bl) : ∀ {l : List SC}, zcs n l = true → l.map (@SC.den _ V' β) = l.map (@SC.den _ V β)
  | [], _ => rfl
  | c :: r, hc => by
    unfold zcs at hc
    rw [Bool.cond_eq_ite] at hc
    split at hc
    · rename_i h1
      rw [List.map_cons, List.map_cons, zsc_agree h β h1, zcs_agree h β hc]
    · cases hc
theorem zhp_agree {V V' : Vars} {n : Nat} (h : ∀ j, j < n → V'.ρ j = V.ρ j) (β : Bl) : ∀ {H : SH}, zhp n H = true → @hden _ V' β H = @hden _ V β H
  | [], _ => rfl
  | (m, .cells l T) :: r, hc => by
    unfold zhp at hc
    rw [Bool.cond_eq_ite] at hc
    split at hc
    · rename_i h1
      show (pt (β m) (.cells ((l.map (@SC.den _ V' β)).toArray) T (0, 0)) * @hden _ V' β r : HProp) = pt (β m) (.cells ((l.map (@SC.den _ V β)).toArray) T (0, 0)) * @hden _ V β r
      rw [zcs_agree h β h1, zhp_agree h β hc]
    · cases hc
  | (m, .abs k x ns) :: r, hc => by cases hc
  | (m, .row _ _ _ _) :: r, hc => by cases hc
  | (m, .opt _ _ _ _ _) :: r, hc => by cases hc
theorem zpi_agree {V V' : Vars} {n : Nat} (h : ∀ j, j < n → V'.ρ j = V.ρ j) : ∀ {π : Pi}, zpi n π = true → @facts _ V π → @facts _ V' π
  | [], _, _ => fun q hq => (by cases hq)
  | (t, b) :: r, hb, hf => by
    unfold zpi at hb
    rw [Bool.cond_eq_ite] at hb
    split at hb
    · rename_i h1
      intro q hq
      rcases List.mem_cons.1 hq with rfl | hq
      · have := hf _ (List.mem_cons_self ..)
        show (@Tm.den _ V' t).bool = b
        rw [ztm_agree h t h1]
        exact this
      · exact zpi_agree h hb (fun q hq => hf q (List.mem_cons_of_mem _ hq)) q hq
    · cases hb
theorem ztm_mono {n m : Nat} (h : n ≤ m) : ∀ {t : Tm}, ztm n t = true → ztm m t = true
  | .lit _, _ => rfl
  | .bl _, _ => rfl
  | .var i, hb => Nat.ble_eq_true_of_le (Nat.le_trans (Nat.le_of_ble_eq_true hb) h)
  | .a1 f x, hb => by
    unfold ztm at hb ⊢
    rw [Bool.cond_eq_ite] at hb ⊢
    split at hb
    · rename_i hf; rw [if_pos hf]; exact ztm_mono h hb
    · cases hb
  | .a2 f x y, hb => by
    unfold ztm at hb ⊢
    rw [Bool.cond_eq_ite, Bool.cond_eq_ite] at hb ⊢
    split at hb
    · rename_i hf
      split at hb
      · rename_i hx
        rw [if_pos hf, if_pos (ztm_mono h hx)]; exact ztm_mono h hb
      · cases hb
    · cases hb
theorem zpi_mono {n m : Nat} (h : n ≤ m) : ∀ {π : Pi}, zpi n π = true → zpi m π = true
  | [], _ => rfl
  | (t, b) :: r, hb => by
    unfold zpi at hb ⊢
    rw [Bool.cond_eq_ite] at hb ⊢
    split at hb
    · rename_i h1; rw [if_pos (ztm_mono h h1)]; exact zpi_mono h hb
    · cases hb
/-- What one of two machines holds. -/
def jden (ps : List JP) (sd : Bool) (u : UM) (b : Nat) : HProp :=
  exP fun i : Nat => exP fun J : JP => exP fun V : Vars => exP fun β : Bl => andP (ps[i]? = some J ∧ u.fst.int = (i : Int) ∧ (∀ j, j < J.nv → V.ρ j = zpr j u.snd) ∧ β 0 = b ∧ facts J.pi) (hden β (J.H sd))
theorem jden_open {ps : List JP} {sd : Bool} {u : UM} {b : Nat} {w : World} {R : HProp} (h : Holds w (jden ps sd u b * R)) :
    ∃ (i : Nat) (J : JP) (V : Vars) (β : Bl), ps[i]? = some J ∧ u.fst.int = (i : Int) ∧ (∀ j, j < J.nv → V.ρ j = zpr j u.snd) ∧ β 0 = b ∧ @facts _ V J.pi ∧ Holds w (@hden _ V β (J.H sd) * R) := by
  obtain ⟨i, h⟩ := holds_ex h
  obtain ⟨J, h⟩ := holds_ex h
  obtain ⟨V, h⟩ := holds_ex h
  obtain ⟨β, h⟩ := holds_ex h
  obtain ⟨⟨c1, c2, c3, c4, c5⟩, h⟩ := holds_and h
  exact ⟨i, J, V, β, c1, c2, c3, c4, c5, h⟩
theorem jden_mk {ps : List JP} {sd : Bool} {u : UM} {b i : Nat} {J : JP} {V : Vars} {β : Bl} {w : World} {R : HProp} (c1 : ps[i]? = some J) (c2 : u.fst.int = (i : Int)) (c3 : ∀ j, j < J.nv → V.ρ j = zpr j u.snd) (c4 : β 0 = b) (c5 : @facts _ V J.pi)
    (h : Holds w (@hden _ V β (J.H sd) * R)) : Holds w (jden ps sd u b * R) :=
  holds_ex_mk i (holds_ex_mk J (holds_ex_mk V (holds_ex_mk β (holds_and_mk ⟨c1, c2, c3, c4, c5⟩ h))))
/-- The state's parts, the memory's words, a memory with them, a bound. -/
@[reducible] def zV (u : UM) (M : MS) (y : UM) (c : Int) : Vars :=
  ⟨fun j => if j < 900 then zpr j u.snd else if j = 900 then oM M else if j = 901 then y else .i c, fun _ => undef, fun _ => none⟩
/-! ### ways -/
/-- A way's ends: more than one, where the order is not known. -/
def zwl [Interp] [Rules] {α : Type} : Tree α → Pi → (Pi → List α → Bool) → Bool
  | .done q, π, k => k π [q]
  | .ite c a b, π, k =>
    match dec π c with
    | some true => zwl a π k
    | some false => zwl b π k
    | none => bif ztm 901 c then (bif zwl a ((c, true) :: π) k then zwl b ((c, false) :: π) k else false) else false
  | .new _ t, π, k => zwl t π k
  | .both a b, π, k => zwl a π fun π l => zwl b π fun π m => k π (l ++ m)
  | .fail _, _, _ => false
theorem zwl_ok [Exp] {α : Type} (V0 : Vars) : ∀ {t : Tree α} {π : Pi} {k : Pi → List α → Bool}, zwl t π k = true → @facts _ V0 π → zpi 901 π = true →
    ∃ l π', @facts _ V0 π' ∧ zpi 901 π' = true ∧ k π' l = true ∧ ∀ V : Vars, (∀ j, j < 901 → V.ρ j = V0.ρ j) → ∀ β, @Tree.Leads _ V α (fun _ x => x ∈ l) t β
  | .done q, π, k, h, hf, hz => ⟨[q], π, hf, hz, h, fun V hV β => List.mem_cons_self ..⟩
  | .ite c a b, π, k, h, hf, hz => by
    unfold zwl at h
    have hpi : ∀ x : Bool, ztm 901 c = true → zpi 901 ((c, x) :: π) = true := fun x hc => by unfold zpi; rw [hc]; exact hz
    split at h
    · rename_i hd
      obtain ⟨l, π', g1, g2, g3, g4⟩ := zwl_ok V0 h hf hz
      refine ⟨l, π', g1, g2, g3, fun V hV β => ⟨fun _ => g4 V hV β, fun hn => ?_⟩⟩
      have e := @dec_ok _ _ V _ (zpi_agree hV hz hf) _ _ hd
      rw [e] at hn; cases hn
    · rename_i hd
      obtain ⟨l, π', g1, g2, g3, g4⟩ := zwl_ok V0 h hf hz
      refine ⟨l, π', g1, g2, g3, fun V hV β => ⟨fun hn => ?_, fun _ => g4 V hV β⟩⟩
      have e := @dec_ok _ _ V _ (zpi_agree hV hz hf) _ _ hd
      rw [e] at hn; cases hn
    · rw [Bool.cond_eq_ite, Bool.cond_eq_ite] at h
      split at h
      · rename_i hc
        split at h
        · rename_i ha
          cases hv : @Tm.tv _ V0 c with
          | true =>
            obtain ⟨l, π', g1, g2, g3, g4⟩ := zwl_ok V0 ha (facts_cons hf hv) (hpi true hc)
            refine ⟨l, π', g1, g2, g3, fun V hV β => ⟨fun _ => g4 V hV β, fun hn => ?_⟩⟩
            have e : @Tm.tv _ V c = true := by unfold Tm.tv at hv ⊢; rw [ztm_agree hV c hc]; exact hv
            rw [e] at hn; cases hn
          | false =>
            obtain ⟨l, π', g1, g2, g3, g4⟩ := zwl_ok V0 h (facts_cons hf hv) (hpi false hc)
            refine ⟨l, π', g1, g2, g3, fun V hV β => ⟨fun hn => ?_, fun _ => g4 V hV β⟩⟩
            have e : @Tm.tv _ V c = false := by unfold Tm.tv at hv ⊢; rw [ztm_agree hV c hc]; exact hv
            rw [e] at hn; cases hn
        · cases h
      · cases h
  | .new n t, π, k, h, hf, hz => by
    obtain ⟨l, π', g1, g2, g3, g4⟩ := zwl_ok V0 (t := t) h hf hz
    exact ⟨l, π', g1, g2, g3, fun V hV β b => g4 V hV _⟩
  | .both a b, π, k, h, hf, hz => by
    obtain ⟨l, π1, f1, z1, h1, L1⟩ := zwl_ok V0 (t := a) h hf hz
    obtain ⟨m, π2, f2, z2, h2, L2⟩ := zwl_ok V0 (t := b) h1 f1 z1
    exact ⟨l ++ m, π2, f2, z2, h2, fun V hV β => ⟨Tree.Leads.mono (fun _ x hx => List.mem_append.2 (.inl hx)) (L1 V hV β), Tree.Leads.mono (fun _ x hx => List.mem_append.2 (.inr hx)) (L2 V hV β)⟩⟩
  | .fail _, _, _, h, _, _ => by cases h
end
/-! ### a step of both -/
section
variable [Ext] [Exp]
def mem0 : Tm := .a2 .pair (i2 25 (.var 901) (.var 900)) (.var 902)
def capPi : Pi := [(.a2 .lt (.var 902) (.lit 0), false), (.a2 .lt (.var 902) (.lit 1000000000), true)]
def zSt (J : JP) (sd : Bool) (K : Nat) (π : Pi) : St := ⟨capPi ++ π, J.H sd ++ [(J.n sd, .abs K mem0 [])], J.n sd + 1⟩
def zArgs (J : JP) (sd : Bool) : List SV := [.c (.ptr 0 0), .c (.ptr (J.n sd) 0)]
def tupZ (σ : List (Nat × Tm)) : Nat → Nat → Option Tm
  | _, 0 => some (.lit 0)
  | i, c + 1 =>
    match lkT σ i, tupZ σ (i + 1) c with
    | some t, some r => some (.a2 .pair t r)
    | _, _ => none
def zfold (ps : List JP) (π : Pi) (HA HB : SH) (nmA nmB : Nat) (joint : Bool) (j : Nat) : Option (Tm × SH × SH) :=
  match ps[j]? with
  | some J =>
    frcMt (mtH 0 J.HA HA ⟨[], [], [(0, nmA)]⟩) fun m1 => frcMt (mtH 0 J.HB HB ⟨m1.σ, [], [(0, nmB)]⟩) fun m2 =>
      bif Nat.beq (lkN m1.ν 0) nmA && Nat.beq (lkN m2.ν 0) nmB then
        match chH π ⟨m2.σ, [], m1.ν⟩ J.HA HA with
        | some rA =>
          match chH π ⟨m2.σ, [], m2.ν⟩ J.HB (bif joint then rA else HB) with
          | some rB => bif chPi π ⟨m2.σ, [], []⟩ J.pi then
              match tupZ m2.σ 0 J.nv with
              | some t => some (.a2 .pair (.lit (j : Int)) t, rA, rB)
              | none => none
            else none
          | none => none
        | none => none
      else none
  | none => none
def zmem (nm K : Nat) (H : SH) : Option (Tm × Tm) :=
  match find H nm with
  | some (.abs k x []) => bif Nat.beq k K then some (mkFst x, mkSnd x) else none
  | _ => none
def zcap (c : Tm) : Bool := Tm.beq c (.var 902) || (Tm.beq c (mkAdd (.var 902) (.lit 1)) || Tm.beq c (mkAdd (.var 902) (.lit 2)))
def zlen : Tm → Bool
  | .var i => Nat.beq i 900
  | .a2 (.usr 22) M _ => zlen M
  | .a2 (.usr 24) M _ => zlen M
  | .a2 (.usr 26) M _ => zlen M
  | _ => false
/-- What becomes of both, at two ends: what they tell, the next state, the memory. -/
def zone (ps : List JP) (nA nB : Nat) (π : Pi) (a b : SV × St) (j : Nat) : Option (Bool × Tm × Tm) :=
  match a.1, b.1 with
  | .a (.one (.bool t)), .a (.one (.bool t')) =>
    match dec π t, dec π t' with
    | some d, some d' =>
      match zfold ps π a.2.H b.2.H 0 0 false j with
      | some (x, rA, rB) =>
        match zmem nA 1 rA, zmem nB 2 rB with
        | some (t1, c1), some (t2, c2) => bif boolBeq d d' && (ztm 901 x && (Tm.beq t1 t2 && (ztm 902 t1 && (ztm 901 (nfw t1) && (zlen (nfw t1) && (zcap c1 && zcap c2)))))) then some (d, x, t1) else none
        | _, _ => none
      | none => none
    | _, _ => none
  | _, _ => none
def zis (d : Bool) (x t : Tm) : Option (Bool × Tm × Tm) → Bool
  | some (d', x', t') => boolBeq d d' && (Tm.beq x x' && Tm.beq t t')
  | none => false
def allL {α : Type} (p : α → Bool) : List α → Bool
  | [] => true
  | x :: r => bif p x then allL p r else false
theorem allL_ok {α : Type} {p : α → Bool} : ∀ {l : List α}, allL p l = true → ∀ x ∈ l, p x = true
  | [], _, x, hx => by cases hx
  | y :: r, h, x, hx => by
    unfold allL at h
    rw [Bool.cond_eq_ite] at h
    split at h
    · rename_i hy
      rcases List.mem_cons.1 hx with rfl | hx
      · exact hy
      · exact allL_ok h x hx
    · cases h
def zdone (ps : List JP) (nA nB : Nat) (cand : List Nat) (π : Pi) (la lb : List (SV × St)) : Bool :=
  match la, lb with
  | a :: la, b :: lb => anyB (fun j => match zone ps nA nB π a b j with
      | some (d, x, t) => allL (fun a' => zis d x t (zone ps nA nB π a' b j)) la && allL (fun b' => zis d x t (zone ps nA nB π a b' j)) lb
      | none => false) cand
  | _, _ => false
def zchk (call : Caller) (fA fB : Nat) (ps : List JP) (cand : List Nat) (J : JP) : Bool :=
  zwl (call fA (zArgs J true) (zSt J true 1 J.pi)) J.pi fun π1 la => zwl (call fB (zArgs J false) (zSt J false 2 π1)) π1 fun π2 lb => zdone ps J.nA J.nB cand π2 la lb
/-- A step of one machine: it tells d, its state is then u', the memory what t makes of it. -/
def ZGo (P : Program) (f : Nat) (D : UM → Nat → HProp) (K : Nat) (u u' : UM) (d : Bool) (t : MS → MS) (W : MS) : Prop :=
  ∀ (M1 : MS) (c : Int), M1.ws = W.ws → 0 ≤ c → c < 1000000000 → ∀ (w : World) (R : HProp) (p m : Nat), Holds w (D u p * (Interp.ob K (.p (oM M1) (.i c)) [] m * R)) →
    Calls P f #[.pointer (some ⟨p, 0, none⟩), .pointer (some ⟨m, 0, none⟩)] w fun e w' => e = .returned (.bool d) ∧ Holds w' (D u' p * (Interp.ob K (.p (oM (t M1)) (.i (c + 2))) [] m * R)) ∧ Strm w w'
theorem zhden_append [Vars] (β : Bl) : ∀ (A B : SH), hden β (A ++ B) = (hden β A * hden β B)
  | [], B => (star_empl _).symm
  | (m, o) :: r, B => by
    show (o.den β (β m) * hden β (r ++ B) : HProp) = (o.den β (β m) * hden β r) * hden β B
    rw [zhden_append β r B, star_assoc]
theorem tupZ_ok [Vars] {σ : List (Nat × Tm)} : ∀ {c i : Nat} {t : Tm}, tupZ σ i c = some t → ∀ j, j < c → ∃ u, lkT σ (i + j) = some u ∧ zpr j t.den = u.den
  | 0, i, t, h, j, hj => absurd hj (Nat.not_lt_zero _)
  | c + 1, i, t, h, j, hj => by
    unfold tupZ at h
    split at h
    · rename_i a r h1 h2
      cases h
      cases j with
      | zero => exact ⟨a, h1, rfl⟩
      | succ j =>
        obtain ⟨u, e1, e2⟩ := tupZ_ok h2 j (by omega)
        exact ⟨u, by rw [← e1]; congr 1; omega, e2⟩
    · cases h
/-- A memory's object: only the memory and the bound matter. -/
theorem ob_weak {K : Nat} (hK : is12 K = true) {a b : UM} {m : Nat} (h1 : memOf a.fst = memOf b.fst) (h2 : a.snd.int ≤ b.snd.int) {w : World} {R : HProp} (h : Holds w (Interp.ob K a [] m * R)) : Holds w (Interp.ob K b [] m * R) := by
  have key : ∀ T, Holds w (MemO T a m * R) → Holds w (MemO T b m * R) := by
    intro T h
    obtain ⟨⟨a1, a2, a3, a4⟩, h⟩ := holds_and h
    refine holds_and_mk ⟨?_, ?_, ?_, ?_⟩ ?_
    · rw [← h1]; exact a1
    · rw [← h1]; omega
    · rw [← h1]; omega
    · rw [← h1]; omega
    · rw [← h1]; exact h
  unfold is12 at hK
  rw [Bool.or_eq_true] at hK
  rcases hK with hK | hK
  · cases Nat.eq_of_beq_eq_true hK; exact key _ h
  · cases Nat.eq_of_beq_eq_true hK; exact key _ h
theorem zcap_ok [Vars] {c : Tm} (h : zcap c = true) : c.v ≤ (Tm.var 902).v + 2 := by
  unfold zcap at h
  rw [Bool.or_eq_true, Bool.or_eq_true] at h
  rcases h with h | h | h
  · rw [Tm.beq_eq h]; omega
  · rw [Tm.beq_eq h, mkAdd_v, lit_v]; omega
  · rw [Tm.beq_eq h, mkAdd_v, lit_v]; omega
theorem zlen_ok [Vars] : ∀ {M : Tm}, zlen M = true → (memOf M.den).ws.length = (memOf (Tm.var 900).den).ws.length
  | .lit _, h => by cases h
  | .bl _, h => by cases h
  | .var i, h => by rw [Nat.eq_of_beq_eq_true h]
  | .a1 f x, h => by cases h
  | .a2 f x y, h => by
    unfold zlen at h
    split at h
    · rename_i e; cases e
    · rename_i e
      cases e
      rw [← zlen_ok (M := x) h]
      show ((memOf x.den).store y.den.fst.int y.den.snd.int).ws.length = _
      unfold MS.store MS.put MS.acc
      split <;> simp
    · rename_i e
      cases e
      rw [← zlen_ok (M := x) h]
      show ((memOf x.den).cas y.den.fst.int y.den.snd.fst.int y.den.snd.snd.int).ws.length = _
      unfold MS.cas MS.acc
      split <;> simp
    · rename_i e
      cases e
      rw [← zlen_ok (M := x) h]
      show ((memOf x.den).poke y.den.fst.int y.den.snd.int).ws.length = _
      rw [poke_len]
    · cases h
theorem zV_agree {u : UM} {W M M' : MS} {c c' : Int} {n : Nat} (hn : n ≤ 901) : ∀ j, j < n → (zV u W (oM M) c).ρ j = (zV u W (oM M') c').ρ j := by
  intro j hj
  show (if j < 900 then zpr j u.snd else if j = 900 then oM W else if j = 901 then _ else _) = (if j < 900 then zpr j u.snd else if j = 900 then oM W else if j = 901 then _ else _)
  by_cases h : j < 900
  · rw [if_pos h, if_pos h]
  · rw [if_neg h, if_neg h, if_pos (by omega), if_pos (by omega)]
theorem zV_agree2 {u : UM} {W M : MS} {c c' : Int} : ∀ j, j < 902 → (zV u W (oM M) c).ρ j = (zV u W (oM M) c').ρ j := by
  intro j hj
  show (if j < 900 then zpr j u.snd else if j = 900 then oM W else if j = 901 then _ else _) = (if j < 900 then zpr j u.snd else if j = 900 then oM W else if j = 901 then _ else _)
  by_cases h : j < 900
  · rw [if_pos h, if_pos h]
  · rw [if_neg h, if_neg h]
    by_cases h' : j = 900
    · rw [if_pos h', if_pos h']
    · rw [if_neg h', if_neg h', if_pos (by omega), if_pos (by omega)]
/-- An end of one side folds so. -/
def ZEnd (ps : List JP) (sd : Bool) (K n : Nat) (π : Pi) (d : Bool) (j : Nat) (tt t1 : Tm) (q : SV × St) : Prop :=
  ∃ t J' σ ν ν' r c1, q.1 = .a (.one (.bool t)) ∧ dec π t = some d ∧ ps[j]? = some J' ∧ lkN ν 0 = 0 ∧ chH π ⟨σ, [], ν⟩ (J'.H sd) q.2.H = some r ∧ chPi π ⟨σ, [], ν'⟩ J'.pi = true ∧ tupZ σ 0 J'.nv = some tt ∧ zmem n K r = some (t1, c1) ∧ zcap c1 = true
theorem z_side {P : Program} {call : Caller} (hcall : ∀ V : Vars, CallerOk P call) {ps : List JP} (hp : jpsB ps = true) {sd : Bool} {K f i j : Nat} (hK : is12 K = true) {J : JP} (hi : ps[i]? = some J) {u : UM} (hu : u.fst.int = (i : Int)) {W : MS} {ql : List (SV × St)} {π0 π2 : Pi}
    (L : ∀ V : Vars, (∀ j, j < 901 → V.ρ j = (zV u W (oM W) 0).ρ j) → ∀ β, @Tree.Leads _ V _ (fun _ x => x ∈ ql) (call f (zArgs J sd) (zSt J sd K π0)) β)
    (f0 : @facts _ (zV u W (oM W) 0) π0) (z0 : zpi 901 π0 = true) (f2 : @facts _ (zV u W (oM W) 0) π2) (z2 : zpi 901 π2 = true)
    {d : Bool} {tt t1 : Tm} (hE : ∀ q ∈ ql, ZEnd ps sd K (J.n sd) π2 d j tt t1 q) (hx : ztm 901 (.a2 .pair (.lit (j : Int)) tt) = true) (h1 : ztm 902 t1 = true) :
    ZGo P f (jden ps sd) K u (@Tm.den _ (zV u W (oM W) 0) (.a2 .pair (.lit (j : Int)) tt)) d (fun M => memOf (@Tm.den _ (zV u W (oM M) 0) t1)) W := by
  intro M1 c hM hc0 hc1 w R p m hw
  obtain ⟨i', J1, V, β, e1, e2, e3, e4, e5, hw⟩ := jden_open hw
  have ei : i' = i := by rw [hu] at e2; omega
  subst ei
  rw [hi] at e1
  cases e1
  have hJ := jpsB_ok hp hi
  have agr := zV_agree (u := u) (W := W) (M := M1) (M' := W) (c := c) (c' := 0) (n := 901) (Nat.le_refl _)
  generalize hV1 : zV u W (oM M1) c = V1 at agr
  have r900 : V1.ρ 900 = oM W := by rw [← hV1]; rfl
  have r901 : V1.ρ 901 = oM M1 := by rw [← hV1]; rfl
  have r902 : V1.ρ 902 = .i c := by rw [← hV1]; rfl
  have hβ : Ag (J.n sd) β (fun k => if k = J.n sd then m else β k) := fun k hk => if_neg (by omega)
  generalize hβ1 : (fun k => if k = J.n sd then m else β k) = β1 at hβ
  have b0 : β1 0 = p := by rw [hβ 0 (hJ.n sd)]; exact e4
  have bn : β1 (J.n sd) = m := by rw [← hβ1]; exact if_pos rfl
  have hmem : @Tm.den _ V1 mem0 = .p (oM M1) (.i c) := by
    show U.p (b2 25 (V1.ρ 901) (V1.ρ 900)) (V1.ρ 902) = _
    rw [r900, r901, r902]
    show U.p (oM ({ M1 with ws := W.ws })) _ = _
    rw [← hM]
  have hst : @At _ V1 β1 (zSt J sd K π0) w R := by
    refine ⟨?_, ?_, ?_⟩
    · intro x hx
      rcases List.mem_append.1 hx with hx | hx
      · rcases List.mem_cons.1 hx with rfl | hx
        · show decide ((V1.ρ 902).int < 0) = false
          rw [r902]; exact decide_eq_false (show ¬ c < 0 by omega)
        · rcases List.mem_cons.1 hx with rfl | hx
          · show decide ((V1.ρ 902).int < 1000000000) = true
            rw [r902]; exact decide_eq_true (show c < 1000000000 by omega)
          · cases hx
      · exact zpi_agree agr z0 f0 x hx
    · intro x hx
      rcases List.mem_append.1 hx with hx | hx
      · exact hwf_mono (Nat.le_succ _) (hJ.w sd) x hx
      · rcases List.mem_cons.1 hx with rfl | hx
        · exact ⟨Nat.lt_succ_self _, fun k hk => by cases hk⟩
        · cases hx
    · show Holds w (@hden _ V1 β1 (J.H sd ++ [(J.n sd, .abs K mem0 [])]) * R)
      rw [zhden_append]
      have ea : @hden _ V1 β1 (J.H sd) = @hden _ V β (J.H sd) := by
        rw [@hden_ext _ V1 (J.n sd) β β1 hβ _ (hJ.w sd)]
        refine zhp_agree (n := J.nv) (fun j hj => ?_) β (hJ.h sd)
        rw [e3 j hj, ← hV1]
        exact if_pos (Nat.lt_of_lt_of_le hj hJ.nv)
      rw [ea]
      show Holds w ((_ * (Interp.ob K (@Tm.den _ V1 mem0) [] (β1 (J.n sd)) * emp)) * R)
      rw [hmem, bn]
      refine hw.cast ?_
      rw [star_assoc, star_assoc, star_empl]
  have key := @hcall V1 f (zArgs J sd) (zSt J sd K π0) _ β1 (L V1 agr β1) (fun x hx => by
    rcases List.mem_cons.1 hx with rfl | hx
    · exact Nat.lt_succ_of_lt (hJ.n sd)
    · rcases List.mem_cons.1 hx with rfl | hx
      · exact Nat.lt_succ_self _
      · cases hx) (fun x hx => by
    rcases List.mem_cons.1 hx with rfl | hx
    · rfl
    · rcases List.mem_cons.1 hx with rfl | hx
      · rfl
      · cases hx) w R hst
  have hargs : ((zArgs J sd).map (@SV.den _ V1 β1)).toArray = #[.pointer (some ⟨p, 0, none⟩), .pointer (some ⟨m, 0, none⟩)] := by
    show #[Value.pointer (some ⟨β1 0, 0, none⟩), Value.pointer (some ⟨β1 (J.n sd), 0, none⟩)] = _
    rw [b0, bn]
  rw [hargs] at key
  refine key _ ?_
  intro β3 v s' w' hq hwf htop hout
  obtain ⟨t, J', σ, ν, ν', r, c1, hv, hd, hj, hroot, hch, hpi, ht, hm, hc⟩ := hE _ hq
  have hq1 : v = .a (.one (.bool t)) := hv
  have f2' := zpi_agree agr z2 f2
  refine ⟨?_, ?_, hout.st⟩
  · rw [hq1]
    show Ending.returned (Value.bool (@Tm.tv _ V1 t)) = _
    rw [@dec_ok _ _ V1 _ f2' _ _ hd]
  · have hold := hout.at_.hold
    have h3 := @chH_ok _ _ _ V1 π2 f2' ⟨σ, [], ν⟩ β3 w' R (J'.H sd) s'.H r hch hold
    have h4 := @chPi_ok _ _ _ V1 π2 f2' ⟨σ, [], ν'⟩ β3 J'.pi hpi
    have ag3 : ∀ k, k < J.n sd + 1 → β3 k = β1 k := hout.ag
    unfold zmem at hm
    split at hm
    · rename_i k y hf
      rw [Bool.cond_eq_ite] at hm
      split at hm
      · rename_i hk
        have hk := Nat.eq_of_beq_eq_true hk
        subst hk
        simp only [Option.some.injEq, Prod.mk.injEq] at hm
        obtain ⟨hm1, hm2⟩ := hm
        rw [@find_den _ V1 β3 (J.n sd) _ r hf] at h3
        have h5 : Holds w' (@hden _ (@subV _ V1 σ [] β3) (subN ν β3) (J'.H sd) * (Interp.ob k (@Tm.den _ V1 y) [] m * R)) := by
          have e : β3 (J.n sd) = m := by rw [ag3 _ (Nat.lt_succ_self _), bn]
          rw [← e]
          refine Holds.drop (P := @hden _ V1 β3 (del r (J.n sd))) (h3.cast ?_)
          show (_ * ((Interp.ob k (@Tm.den _ V1 y) [] (β3 (J.n sd)) * _) * R) : HProp) = _
          ac_rfl
        have h6 : Holds w' (Interp.ob k (@Tm.den _ V1 y) [] m * (@hden _ (@subV _ V1 σ [] β3) (subN ν β3) (J'.H sd) * R)) := h5.cast (by ac_rfl)
        have h7 := ob_weak hK (b := .p (oM ((memOf (@Tm.den _ (zV u W (oM M1) 0) t1)))) (.i (c + 2))) (by
          show memOf (@Tm.den _ V1 y).fst = memOf (@Tm.den _ (zV u W (oM M1) 0) t1)
          rw [← hm1, ← @fst_den _ V1 y, hm1, ← hV1]
          congr 1
          exact ztm_agree zV_agree2 t1 h1) (by
          have := @zcap_ok _ _ V1 c1 hc
          rw [← hm2] at this
          show (@Tm.den _ V1 y).snd.int ≤ c + 2
          rw [← @snd_v _ V1 y]
          have e : @Tm.v _ V1 (.var 902) = c := by show (V1.ρ 902).int = c; rw [r902]; rfl
          rw [e] at this
          exact this) h6
        have h8 : Holds w' (@hden _ (@subV _ V1 σ [] β3) (subN ν β3) (J'.H sd) * (Interp.ob k (.p (oM ((memOf (@Tm.den _ (zV u W (oM M1) 0) t1)))) (.i (c + 2))) [] m * R)) := h7.cast (by ac_rfl)
        refine jden_mk hj (by rfl) (fun l hl => ?_) ?_ h4 h8
        · show (match lkT σ l with | some t => @Tm.den _ V1 t | none => V1.ρ l) = zpr l (@Tm.den _ (zV u W (oM W) 0) tt)
          obtain ⟨a, g1, g2⟩ := @tupZ_ok _ _ V1 σ _ _ _ ht l hl
          rw [Nat.zero_add] at g1
          rw [g1]
          have ett : @Tm.den _ (zV u W (oM W) 0) tt = @Tm.den _ V1 tt := by
            refine (ztm_agree agr tt ?_).symm
            unfold ztm at hx
            exact hx
          rw [ett]
          exact g2.symm
        · show β3 (lkN ν 0) = p
          rw [hroot, ag3 0 (Nat.succ_pos _), b0]
      · cases hm
    · cases hm
theorem zfold_ok {ps : List JP} {π : Pi} {HA HB : SH} {nmA nmB j : Nat} {joint : Bool} {x : Tm} {rA rB : SH} (h : zfold ps π HA HB nmA nmB joint j = some (x, rA, rB)) :
    ∃ J σ ν1 ν2 tt, ps[j]? = some J ∧ lkN ν1 0 = nmA ∧ lkN ν2 0 = nmB ∧ chH π ⟨σ, [], ν1⟩ J.HA HA = some rA ∧ chH π ⟨σ, [], ν2⟩ J.HB (bif joint then rA else HB) = some rB ∧ chPi π ⟨σ, [], []⟩ J.pi = true ∧ tupZ σ 0 J.nv = some tt ∧ x = .a2 .pair (.lit (j : Int)) tt := by
  unfold zfold at h
  split at h
  · rename_i J hJ
    rw [frcMt_eq, frcMt_eq, Bool.cond_eq_ite] at h
    split at h
    · rename_i hn
      rw [Bool.and_eq_true] at hn
      split at h
      · rename_i r1 h1
        split at h
        · rename_i r2 h2
          rw [Bool.cond_eq_ite] at h
          split at h
          · rename_i h3
            split at h
            · rename_i t ht
              simp only [Option.some.injEq, Prod.mk.injEq] at h
              obtain ⟨e1, e2, e3⟩ := h
              subst e2 e3
              exact ⟨J, _, _, _, t, hJ, Nat.eq_of_beq_eq_true hn.1, Nat.eq_of_beq_eq_true hn.2, h1, h2, h3, ht, e1.symm⟩
            · cases h
          · cases h
        · cases h
      · cases h
    · cases h
  · cases h
theorem zis_eq {d : Bool} {x t : Tm} {o : Option (Bool × Tm × Tm)} (h : zis d x t o = true) : o = some (d, x, t) := by
  unfold zis at h
  split at h
  · rename_i d' x' t'
    simp only [Bool.and_eq_true] at h
    rw [boolBeq_eq h.1, Tm.beq_eq h.2.1, Tm.beq_eq h.2.2]
  · cases h
theorem zone_ok {ps : List JP} {nA nB : Nat} {π : Pi} {a b : SV × St} {j : Nat} {d : Bool} {x t1 : Tm} (h : zone ps nA nB π a b j = some (d, x, t1)) :
    ∃ tt, x = .a2 .pair (.lit (j : Int)) tt ∧ ztm 901 x = true ∧ ztm 902 t1 = true ∧ ztm 901 (nfw t1) = true ∧ zlen (nfw t1) = true ∧ ZEnd ps true 1 nA π d j tt t1 a ∧ ZEnd ps false 2 nB π d j tt t1 b := by
  unfold zone at h
  split at h
  · rename_i t t' hva hvb
    split at h
    · rename_i d1 d2 hd hd'
      split at h
      · rename_i x1 rA rB hfo
        split at h
        · rename_i u1 c1 u2 c2 hm1 hm2
          rw [Bool.cond_eq_ite] at h
          split at h
          · rename_i hc
            simp only [Bool.and_eq_true] at hc
            obtain ⟨k0, k1, k2, k3, k4, k5, k6, k7⟩ := hc
            simp only [Option.some.injEq, Prod.mk.injEq] at h
            obtain ⟨e1, e2, e3⟩ := h
            subst e1 e2 e3
            have k0 := boolBeq_eq k0
            subst k0
            have k2 := Tm.beq_eq k2
            subst k2
            obtain ⟨J', σ, ν1, ν2, tt, g1, g2, g3, g4, g5, g6, g7, g8⟩ := zfold_ok hfo
            refine ⟨tt, g8, k1, k3, k4, k5, ⟨t, J', σ, ν1, [], rA, c1, hva, hd, g1, g2, g4, g6, g7, hm1, k6⟩, ⟨t', J', σ, ν2, [], rB, c2, hvb, hd', g1, g3, g5, g6, g7, hm2, k7⟩⟩
          · cases h
        · cases h
      · cases h
    · cases h
  · cases h
/-- **A step of both machines is one function.** -/
theorem z_step {P : Program} {call : Caller} (hcall : ∀ V : Vars, CallerOk P call) {ps : List JP} (hp : jpsB ps = true) {fA fB : Nat} {nx : Nat → List Nat} (hc : ∀ i J, ps[i]? = some J → zchk call fA fB ps (nx i) J = true) (u : UM) (W : MS) :
    ∃ (d : Bool) (u' : UM) (t : MS → MS), (∀ M1 : MS, M1.ws = W.ws → (t M1).ws = (t W).ws ∧ (t M1).ws.length = W.ws.length) ∧ ZGo P fA (jden ps true) 1 u u' d t W ∧ ZGo P fB (jden ps false) 2 u u' d t W := by
  by_cases hv : ∃ i J, ps[i]? = some J ∧ u.fst.int = ((i : Nat) : Int) ∧ @facts _ (zV u W (oM W) 0) J.pi
  · obtain ⟨i, J, hi, hu, hf⟩ := hv
    have hJ := jpsB_ok hp hi
    have hz : zpi 901 J.pi = true := zpi_mono (Nat.le_trans hJ.nv (by omega)) hJ.p
    have h0 := hc i J hi
    unfold zchk at h0
    obtain ⟨la, π1, f1, z1, h1, L1⟩ := zwl_ok (zV u W (oM W) 0) h0 hf hz
    obtain ⟨lb, π2, f2, z2, h2, L2⟩ := zwl_ok (zV u W (oM W) 0) h1 f1 z1
    unfold zdone at h2
    split at h2
    · rename_i a la b lb
      obtain ⟨j, _, h3⟩ := anyB_ok h2
      split at h3
      · rename_i d x t1 hone
        rw [Bool.and_eq_true] at h3
        have hA := allL_ok h3.1
        have hB := allL_ok h3.2
        have hzA : ∀ a' ∈ a :: la, zone ps J.nA J.nB π2 a' b j = some (d, x, t1) := by
          intro a' ha'
          rcases List.mem_cons.1 ha' with rfl | ha'
          · exact hone
          · exact zis_eq (hA a' ha')
        have hzB : ∀ b' ∈ b :: lb, zone ps J.nA J.nB π2 a b' j = some (d, x, t1) := by
          intro b' hb'
          rcases List.mem_cons.1 hb' with rfl | hb'
          · exact hone
          · exact zis_eq (hB b' hb')
        obtain ⟨tt, e1, k1, k3, k4, k5, _, _⟩ := zone_ok hone
        subst e1
        refine ⟨d, @Tm.den _ (zV u W (oM W) 0) (.a2 .pair (.lit (j : Int)) tt), fun M => memOf (@Tm.den _ (zV u W (oM M) 0) t1), ?_, ?_, ?_⟩
        · intro M1 hM
          have a1 : ∀ M : MS, (memOf (@Tm.den _ (zV u W (oM M) 0) t1)).ws = (memOf (@Tm.den _ (zV u W (oM W) 0) (nfw t1))).ws := by
            intro M
            rw [← @nfw_ws _ (zV u W (oM M) 0) t1, ztm_agree (zV_agree (Nat.le_refl 901)) (nfw t1) k4]
          refine ⟨by rw [a1 M1, a1 W], ?_⟩
          rw [a1 M1, @zlen_ok _ _ (zV u W (oM W) 0) _ k5]
          rfl
        · refine z_side hcall hp (sd := true) (by rfl) hi hu L1 hf hz f2 z2 (fun q hq => ?_) k1 k3
          obtain ⟨tt', e1, _, _, _, _, g1, _⟩ := zone_ok (hzA q hq)
          cases e1
          exact g1
        · refine z_side hcall hp (sd := false) (by rfl) hi hu L2 f1 z1 f2 z2 (fun q hq => ?_) k1 k3
          obtain ⟨tt', e1, _, _, _, _, _, g2⟩ := zone_ok (hzB q hq)
          cases e1
          exact g2
      · cases h3
    · cases h2
  · refine ⟨false, u, id, fun M1 h => ⟨h, by rw [id, h]⟩, ?_, ?_⟩
    all_goals
      intro M1 c hM hc0 hc1 w R p m hw
      obtain ⟨i, J, V, β, e1, e2, e3, e4, e5, hw⟩ := jden_open hw
      refine absurd ⟨i, J, e1, e2, ?_⟩ hv
      have hJ := jpsB_ok hp e1
      refine zpi_agree (n := J.nv) (fun j hj => ?_) hJ.p e5
      rw [e3 j hj]
      exact if_pos (Nat.lt_of_lt_of_le hj hJ.nv)
end
end Go.Proofs.Ytmmpnjcmaodkcaa.Ef
