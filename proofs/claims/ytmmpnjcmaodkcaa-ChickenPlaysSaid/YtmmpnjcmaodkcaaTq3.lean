/- What is proved: what the scalars of the statements of layers 13 to 15 are, and that the document's examples hold, by the second evaluator. Conditions: none. -/
import Derived.Test.YtmmpnjcmaodkcaaTp
import Derived.Test.YtmmpnjcmaodkcaaVal3
namespace Go.Proofs.Ytmmpnjcmaodkcaa.Ef
open Go Go.RowKit Go.Proofs.Ytmmpnjcmaodkcaa.Sep Go.Proofs.Ytmmpnjcmaodkcaa.Num Go.Proofs.Ytmmpnjcmaodkcaa.Mem
open Go.Proofs.Ytmmpnjcmaodkcaa.Ev (Fast)
set_option maxRecDepth 100000
set_option linter.unusedVariables false
set_option linter.unusedSectionVars false
def lawV1 (n : Nat) (x : U Om) : U Om := if n = 101 then .i (opVal3 x.fst.int x.snd.int).1 else if n = 102 then .i (opVal3 x.fst.int x.snd.int).2 else x
def lawG1 (n : Nat) : Rg := bif Nat.beq n 101 then rg 0 1 else bif Nat.beq n 102 then rg 0 112 else .top
theorem lawG1_ok (n : Nat) (u : U Om) : (lawG1 n).has (lawV1 n u).int := by
  unfold lawG1 lawV1
  rw [Bool.cond_eq_ite, Bool.cond_eq_ite]
  split
  · rename_i h
    have h := Nat.eq_of_beq_eq_true h
    subst h
    exact rg_has (opVal3_1 _ _)
  · split
    · rename_i h
      have h := Nat.eq_of_beq_eq_true h
      subst h
      exact rg_has (opVal3_2 _ _)
    · exact Rg.top_has _
@[reducible] def ext0 : Ext := ⟨lawV1, fun _ x _ => .o (.mem (memOf x)), fun _ _ _ _ => Sep.emp, lawG1, fun _ => .top, lawG1_ok, fun _ _ _ => Rg.top_has _, fun _ _ _ _ => rfl, fun _ _ _ _ => rfl, fun _ _ _ _ _ h => h⟩
@[reducible] def extL [X : Xtra] : Ext := withX ext0 X
instance [Xtra] : Ext := extL
section
variable [Xtra]
def isW (x : Nat) : Pi := [(.a2 .lt (.var x) (.lit (-9223372036854775808)), false), (.a2 .lt (.var x) (.lit 9223372036854775808), true)]
def sel3 (c x y : Tm) : Tm := .a2 .sel c (.a2 .pair x y)
def lt3 (x : Tm) (n : Int) : Tm := .a2 .lt (i1 1003 x) (.lit n)
def val1 (k n : Tm) : Tm := sel3 (lt3 k 1) (.lit 0) (.lit 1)
def val2 (k n : Tm) : Tm := sel3 (lt3 k 1) (i1 1010 n) (sel3 (lt3 k 2) (.lit 0) (sel3 (lt3 n 1) (.lit 96) (sel3 (lt3 n 2) (.lit 100) (.lit 112))))
def valRes : SV := .a (.agg [.int .i64 (i1 101 (.a2 .pair (.var 0) (.var 1))), .int .i64 (i1 102 (.a2 .pair (.var 0) (.var 1)))])
def valRes0 : SV := .a (.agg [.int .i64 (val1 (.var 0) (.var 1)), .int .i64 (val2 (.var 0) (.var 1))])
def valArg : List SV := [.a (.agg [.int .i64 (.var 0), .int .i64 (.var 1)])]
theorem lt3_tv [Vars] (x : Tm) (n : Int) : (lt3 x n).tv = decide (kindOf x.v 3 < n) := rfl
theorem sel3_v [Vars] (c x y : Tm) (p : Prop) [Decidable p] (h : c.tv = decide p) : (sel3 c x y).v = if p then x.v else y.v := by
  show (bif c.tv then x.den else y.den).int = _
  rw [h]
  by_cases hp : p
  · rw [if_pos hp, decide_eq_true hp]; rfl
  · rw [if_neg hp, decide_eq_false hp]; rfl
theorem val1_v [Vars] (k n : Tm) : (val1 k n).v = (i1 101 (.a2 .pair k n)).v := by
  show _ = (opVal3 k.v n.v).1
  unfold val1 opVal3
  rw [sel3_v _ _ _ _ (lt3_tv k 1)]
  split
  · rfl
  · split <;> rfl
theorem val2_v [Vars] (k n : Tm) : (val2 k n).v = (i1 102 (.a2 .pair k n)).v := by
  show _ = (opVal3 k.v n.v).2
  unfold val2 opVal3
  rw [sel3_v _ _ _ _ (lt3_tv k 1), sel3_v _ _ _ _ (lt3_tv k 2), sel3_v _ _ _ _ (lt3_tv n 1), sel3_v _ _ _ _ (lt3_tv n 2)]
  split
  · rfl
  · split
    · rfl
    · rfl
theorem val1_den [Vars] (k n : Tm) : (val1 k n).den = (i1 101 (.a2 .pair k n)).den := by
  have h := val1_v k n
  have : ∃ x, (val1 k n).den = .i x := by
    show ∃ x, (bif (lt3 k 1).tv then (U.i 0 : UM) else .i 1) = .i x
    cases (lt3 k 1).tv <;> exact ⟨_, rfl⟩
  obtain ⟨x, hx⟩ := this
  have e : (i1 101 (.a2 .pair k n)).den = .i (i1 101 (.a2 .pair k n)).v := rfl
  rw [e, ← h, Tm.v, hx]
  rfl
theorem val2_den [Vars] (k n : Tm) : (val2 k n).den = (i1 102 (.a2 .pair k n)).den := by
  have h := val2_v k n
  have : ∃ x, (val2 k n).den = .i x := by
    show ∃ x, (bif (lt3 k 1).tv then (i1 1010 n).den else (bif (lt3 k 2).tv then (U.i 0 : UM) else (bif (lt3 n 1).tv then (U.i 96 : UM) else (bif (lt3 n 2).tv then (U.i 100 : UM) else .i 112)))) = .i x
    cases (lt3 k 1).tv
    · cases (lt3 k 2).tv
      · cases (lt3 n 1).tv
        · cases (lt3 n 2).tv <;> exact ⟨_, rfl⟩
        · exact ⟨_, rfl⟩
      · exact ⟨_, rfl⟩
    · exact ⟨kindOf n.v 10, rfl⟩
  obtain ⟨x, hx⟩ := this
  have e : (i1 102 (.a2 .pair k n)).den = .i (i1 102 (.a2 .pair k n)).v := rfl
  rw [e, ← h, Tm.v, hx]
  rfl
/-- Numbers of scalars, which words tell as they are. -/
def isKd : Tm → Bool
  | .lit n => intLe 0 n && intLe n 3
  | .a1 (.usr f) _ => Nat.beq f 101
  | .a2 .sel _ (.a2 .pair x y) => bif isKd x then isKd y else false
  | _ => false
def isNr : Tm → Bool
  | .lit n => intLe 0 n && intLe n 2305843009213693951
  | .a1 (.usr f) _ => Nat.beq f 102 || Nat.beq f 1010
  | .a2 .sel _ (.a2 .pair x y) => bif isNr x then isNr y else false
  | _ => false
theorem isKd_ok [Vars] : ∀ {t : Tm}, isKd t = true → t.den = .i t.v ∧ 0 ≤ t.v ∧ t.v ≤ 3
  | .lit n, h => by
    unfold isKd at h
    rw [Bool.and_eq_true] at h
    exact ⟨rfl, of_decide_eq_true h.1, of_decide_eq_true h.2⟩
  | .bl _, h => by cases h
  | .var _, h => by cases h
  | .a1 f x, h => by
    unfold isKd at h
    split at h
    · rename_i e; cases e
    · rename_i f' y e
      cases e
      have h := Nat.eq_of_beq_eq_true h
      subst h
      have := opVal3_1 x.den.fst.int x.den.snd.int
      refine ⟨rfl, this.1, ?_⟩
      have h2 : (i1 101 x).v ≤ 1 := this.2
      show (i1 101 x).v ≤ 3
      omega
    · rename_i e; cases e
    · cases h
  | .a2 f c z, h => by
    unfold isKd at h
    split at h
    · rename_i e; cases e
    · rename_i e; cases e
    · rename_i c' x y e
      cases e
      rw [Bool.cond_eq_ite] at h
      split at h
      · rename_i hx
        obtain ⟨a1, a2, a3⟩ := isKd_ok hx
        obtain ⟨b1, b2, b3⟩ := isKd_ok h
        show (bif c.tv then x.den else y.den) = .i (bif c.tv then x.den else y.den).int ∧ 0 ≤ (bif c.tv then x.den else y.den).int ∧ (bif c.tv then x.den else y.den).int ≤ 3
        cases c.tv
        · exact ⟨b1, b2, b3⟩
        · exact ⟨a1, a2, a3⟩
      · cases h
    · cases h
theorem isNr_ok [Vars] : ∀ {t : Tm}, isNr t = true → t.den = .i t.v ∧ 0 ≤ t.v ∧ t.v ≤ 2305843009213693951
  | .lit n, h => by
    unfold isNr at h
    rw [Bool.and_eq_true] at h
    exact ⟨rfl, of_decide_eq_true h.1, of_decide_eq_true h.2⟩
  | .bl _, h => by cases h
  | .var _, h => by cases h
  | .a1 f x, h => by
    unfold isNr at h
    split at h
    · rename_i e; cases e
    · rename_i f' y e
      cases e
      rw [Bool.or_eq_true] at h
      rcases h with h | h
      · have h := Nat.eq_of_beq_eq_true h
        subst h
        have := opVal3_2 x.den.fst.int x.den.snd.int
        refine ⟨rfl, this.1, ?_⟩
        have h2 : (i1 102 x).v ≤ 112 := this.2
        show (i1 102 x).v ≤ _
        omega
      · have h := Nat.eq_of_beq_eq_true h
        subst h
        have e : (i1 1010 x).v = kindOf x.v 10 := rfl
        have k1 := kindOf_lo x.v 10 (by omega)
        have k2 := kindOf_hi x.v 10 (by omega)
        refine ⟨rfl, ?_, ?_⟩
        · show 0 ≤ (i1 1010 x).v; omega
        · show (i1 1010 x).v ≤ _; omega
    · rename_i e; cases e
    · cases h
  | .a2 f c z, h => by
    unfold isNr at h
    split at h
    · rename_i e; cases e
    · rename_i e; cases e
    · rename_i c' x y e
      cases e
      rw [Bool.cond_eq_ite] at h
      split at h
      · rename_i hx
        obtain ⟨a1, a2, a3⟩ := isNr_ok hx
        obtain ⟨b1, b2, b3⟩ := isNr_ok h
        show (bif c.tv then x.den else y.den) = .i (bif c.tv then x.den else y.den).int ∧ 0 ≤ (bif c.tv then x.den else y.den).int ∧ (bif c.tv then x.den else y.den).int ≤ _
        cases c.tv
        · exact ⟨b1, b2, b3⟩
        · exact ⟨a1, a2, a3⟩
      · cases h
    · cases h
/-- The scalars' kinds and numbers, by their definition; what a word tells that was made of them. -/
def exV : Tm → Option Tm
  | .a1 (.usr f) (.a2 .pair k n) => bif Nat.beq f 101 then some (val1 k n) else bif Nat.beq f 102 then some (val2 k n) else none
  | .a1 (.usr f) (.a2 (.usr g) k n) => bif Nat.beq g 1 then (bif Nat.beq f 1 then (bif isKd k then some k else none) else bif Nat.beq f 2 then (bif isNr n then some n else none) else none) else none
  | _ => none
theorem exV_ok [Vars] (x y : Tm) (h : exV x = some y) : y.den = x.den := by
  unfold exV at h
  split at h
  · rename_i f k n
    rw [Bool.cond_eq_ite, Bool.cond_eq_ite] at h
    split at h
    · rename_i hf; have hf := Nat.eq_of_beq_eq_true hf; subst hf; cases h; exact val1_den k n
    · split at h
      · rename_i hf; have hf := Nat.eq_of_beq_eq_true hf; subst hf; cases h; exact val2_den k n
      · cases h
  · rename_i f g k n
    rw [Bool.cond_eq_ite] at h
    split at h
    · rename_i hg
      have hg := Nat.eq_of_beq_eq_true hg
      subst hg
      rw [Bool.cond_eq_ite] at h
      split at h
      · rename_i hf; have hf := Nat.eq_of_beq_eq_true hf; subst hf
        rw [Bool.cond_eq_ite] at h
        split at h
        · rename_i hk
          have h := Option.some.inj h
          subst h
          obtain ⟨a1, a2, a3⟩ := isKd_ok hk
          show _ = U.i (vK (sW k.v n.v))
          rw [a1, vK_sW _ _ (by omega) (by omega)]
        · cases h
      · rw [Bool.cond_eq_ite] at h
        split at h
        · rename_i hf; have hf := Nat.eq_of_beq_eq_true hf; subst hf
          rw [Bool.cond_eq_ite] at h
          split at h
          · rename_i hk
            have h := Option.some.inj h
            subst h
            obtain ⟨a1, a2, a3⟩ := isNr_ok hk
            show _ = U.i (vN (cl64 (sW k.v n.v)))
            rw [a1, cl64_in ⟨sW_lo _ _, sW_hi _ _⟩, vN_sW _ _ (by omega) (by omega)]
          · cases h
        · cases h
    · cases h
  · cases h
/-- A word is a known one just if its kind and its number are. -/
def eqxV (r : Tm → Rg) : Tm → Tm → Option Tm
  | .a2 (.usr f) a b, .lit c =>
    bif Nat.beq f 1 && ((r a).inside 0 3 && ((r b).inside 0 2305843009213693951 && (intLe 0 c && intLe c 18446744073709551615))) then
      (bif intBeq (sW (vK c) (vN (cl64 c))) c then some (mkAnd (mkEq a (.lit (vK c))) (mkEq b (.lit (vN (cl64 c))))) else some (.bl false))
    else none
  | .a2 (.usr f) a b, .a2 (.usr g) c d =>
    bif (Nat.beq f 1 && Nat.beq g 1) && (((r a).inside 0 3 && (r b).inside 0 2305843009213693951) && ((r c).inside 0 3 && (r d).inside 0 2305843009213693951)) then some (mkAnd (mkEq a c) (mkEq b d)) else none
  | _, _ => none
theorem eqxV_ok [Vars] (r : Tm → Rg) (x y t : Tm) (hr : ∀ u, (r u).has u.v) (h : eqxV r x y = some t) : t.tv = (x.v == y.v) := by
  unfold eqxV at h
  split at h
  · rename_i f a b c
    rw [Bool.cond_eq_ite] at h
    split at h
    · rename_i hb
      simp only [Bool.and_eq_true] at hb
      obtain ⟨hf, ha, hn, c1, c2⟩ := hb
      have hf := Nat.eq_of_beq_eq_true hf
      subst hf
      obtain ⟨a2, a3⟩ := Rg.inside_ok (hr a) ha
      obtain ⟨b2, b3⟩ := Rg.inside_ok (hr b) hn
      have e0 : (Tm.a2 (.usr 1) a b).v = sW a.v b.v := rfl
      have e1 : vK (sW a.v b.v) = a.v := vK_sW _ _ (by omega) (by omega)
      have e2 : vN (cl64 (sW a.v b.v)) = b.v := by rw [cl64_in ⟨sW_lo _ _, sW_hi _ _⟩, vN_sW _ _ (by omega) (by omega)]
      rw [e0, lit_v, Bool.eq_iff_iff]
      rw [Bool.cond_eq_ite] at h
      split at h
      · rename_i hc
        have hc := intBeq_eq hc
        have h := Option.some.inj h
        subst h
        rw [mkAnd_tv, mkEq_tv, mkEq_tv, lit_v, lit_v]
        simp only [Bool.and_eq_true, beq_iff_eq]
        constructor
        · rintro ⟨k1, k2⟩
          rw [k1, k2, hc]
        · intro k
          rw [← k, e1, e2]
          exact ⟨rfl, rfl⟩
      · rename_i hc
        have h := Option.some.inj h
        subst h
        simp only [beq_iff_eq]
        constructor
        · intro k; cases k
        · intro k
          exfalso
          apply hc
          rw [← k, e1, e2, intBeq_iff]
          simp
    · cases h
  · rename_i f a b g c d
    rw [Bool.cond_eq_ite] at h
    split at h
    · rename_i hb
      simp only [Bool.and_eq_true] at hb
      obtain ⟨⟨hf, hg⟩, ⟨ha, hn⟩, hc, hd⟩ := hb
      have hf := Nat.eq_of_beq_eq_true hf
      have hg := Nat.eq_of_beq_eq_true hg
      subst hf hg
      obtain ⟨a2, a3⟩ := Rg.inside_ok (hr a) ha
      obtain ⟨b2, b3⟩ := Rg.inside_ok (hr b) hn
      obtain ⟨c2, c3⟩ := Rg.inside_ok (hr c) hc
      obtain ⟨d2, d3⟩ := Rg.inside_ok (hr d) hd
      have h := Option.some.inj h
      subst h
      have e0 : ∀ x y : Tm, (Tm.a2 (.usr 1) x y).v = sW x.v y.v := fun _ _ => rfl
      have e1 : vK (sW a.v b.v) = a.v := vK_sW _ _ (by omega) (by omega)
      have e2 : vN (cl64 (sW a.v b.v)) = b.v := by rw [cl64_in ⟨sW_lo _ _, sW_hi _ _⟩, vN_sW _ _ (by omega) (by omega)]
      have e3 : vK (sW c.v d.v) = c.v := vK_sW _ _ (by omega) (by omega)
      have e4 : vN (cl64 (sW c.v d.v)) = d.v := by rw [cl64_in ⟨sW_lo _ _, sW_hi _ _⟩, vN_sW _ _ (by omega) (by omega)]
      rw [e0, e0, Bool.eq_iff_iff, mkAnd_tv, mkEq_tv, mkEq_tv]
      simp only [Bool.and_eq_true, beq_iff_eq]
      constructor
      · rintro ⟨k1, k2⟩; rw [k1, k2]
      · intro k
        refine ⟨?_, ?_⟩
        · rw [← e1, k, e3]
        · rw [← e2, k, e4]
    · cases h
  · cases h
instance : Exp := ⟨exV, fun x y h => exV_ok x y h, eqxV, fun r x y t hr h => eqxV_ok r x y t hr h⟩
abbrev abL (P : Program) [Fast P] : Ab P := abM P
instance (P : Program) [Fast P] : Ab P := abL P
theorem abL_ok (P : Program) [Fast P] [Vars] : AbOk P := abM_ok P
instance (P : Program) [Fast P] [Vars] : AbOk P := abL_ok P
theorem shown_tm : ∀ (V : Vars) (β : Bl) (w : World) (R : HProp), @facts _ V ([]) → Holds w R → Calls Try.prog 8 ((([] : List SV)).map (@SV.den _ V β)).toArray w fun e w' => e = .returned (@SV.den _ V β (.c (.bool (.bl true)))) ∧ Holds w' R ∧ Strm w w' :=
  tm_calls (P := Try.prog) noGos mixedOrders (fun _ => Γb_ok) (fun _ => false) 1000 (f := 8) (pargs := []) (pre := []) (res := .c (.bool (.bl true))) (by kernel_rfl) (by kernel_rfl) (by kernel_rfl)
theorem val_tm0 : ∀ (V : Vars) (β : Bl) (w : World) (R : HProp), @facts _ V (isW 0 ++ isW 1) → Holds w R → Calls Try.prog 19 ((valArg).map (@SV.den _ V β)).toArray w fun e w' => e = .returned (@SV.den _ V β (valRes0)) ∧ Holds w' R ∧ Strm w w' :=
  tm_calls (P := Try.prog) noGos mixedOrders (fun _ => Γb_ok) (fun _ => false) 1000 (f := 19) (pargs := valArg) (pre := isW 0 ++ isW 1) (res := valRes0) (by kernel_rfl) (by kernel_rfl) (by kernel_rfl)
theorem val_tm : ∀ (V : Vars) (β : Bl) (w : World) (R : HProp), @facts _ V (isW 0 ++ isW 1) → Holds w R → Calls Try.prog 19 ((valArg).map (@SV.den _ V β)).toArray w fun e w' => e = .returned (@SV.den _ V β (valRes)) ∧ Holds w' R ∧ Strm w w' := by
  intro V β w R hp hR
  have e : @SV.den _ V β valRes0 = @SV.den _ V β valRes := by
    show Value.agg #[.int .i64 (@Tm.v _ V (val1 (.var 0) (.var 1))), .int .i64 (@Tm.v _ V (val2 (.var 0) (.var 1)))] = _
    rw [@val1_v _ V, @val2_v _ V]
    rfl
  rw [← e]
  exact val_tm0 V β w R hp hR
/-- A scalar's parts of known numbers, and of numbers one of which is known. -/
def smp0 (f : Nat) (a b : Int) : Tm := .lit (bif Nat.beq f 101 then (opVal3 a b).1 else (opVal3 a b).2)
def smpT : Tm → Tm
  | .a1 (.usr f) (.a2 .pair (.lit a) (.lit b)) => bif Nat.beq f 101 || Nat.beq f 102 then smp0 f a b else .a1 (.usr f) (.a2 .pair (.lit a) (.lit b))
  | .a1 (.usr f) (.a2 .pair (.a2 .sel c (.a2 .pair (.lit a) x)) (.a2 .sel d (.a2 .pair (.lit b) y))) =>
    bif (Nat.beq f 101 || Nat.beq f 102) && Tm.beq c d then .a2 .sel c (.a2 .pair (smp0 f a b) (.a1 (.usr f) (.a2 .pair x y))) else .a1 (.usr f) (.a2 .pair (.a2 .sel c (.a2 .pair (.lit a) x)) (.a2 .sel d (.a2 .pair (.lit b) y)))
  | t => t
theorem smp0_den [Vars] {f : Nat} {a b : Int} (h : (Nat.beq f 101 || Nat.beq f 102) = true) : (smp0 f a b).den = (Tm.a1 (.usr f) (.a2 .pair (.lit a) (.lit b))).den := by
  rw [Bool.or_eq_true] at h
  rcases h with h | h <;> (have h := Nat.eq_of_beq_eq_true h; subst h; rfl)
theorem smpT_den [Vars] (t : Tm) : (smpT t).den = t.den := by
  unfold smpT
  split
  · rw [Bool.cond_eq_ite]
    split
    · rename_i h; exact smp0_den h
    · rfl
  · rename_i f c a x d b y
    rw [Bool.cond_eq_ite]
    split
    · rename_i h
      rw [Bool.and_eq_true] at h
      have h2 := Tm.beq_eq h.2
      subst h2
      show (bif c.den.bool then (smp0 f a b).den else (Tm.a1 (.usr f) (.a2 .pair x y)).den) = Interp.f1 f (.p (bif c.den.bool then (U.i a : UM) else x.den) (bif c.den.bool then (U.i b : UM) else y.den))
      rw [smp0_den h.1]
      cases c.den.bool <;> rfl
    · rfl
  · rfl
def smpC : SC → SC
  | .int k t => .int k (smpT t)
  | c => c
def smpV : SV → SV
  | .a (.agg l) => .a (.agg (l.map smpC))
  | v => v
theorem smpV_den [Vars] (β : Bl) (v : SV) : (smpV v).den β = v.den β := by
  unfold smpV
  split
  · rename_i l
    show Value.agg (dens β (l.map smpC)) = .agg (dens β l)
    unfold dens
    rw [List.map_map]
    congr 2
    apply List.map_congr_left
    intro c hc
    show (smpC c).den β = c.den β
    clear hc
    cases c <;> first
      | rfl
      | (rename_i k t
         show Value.int k (smpT t).v = .int k t.v
         unfold Tm.v
         rw [smpT_den])
  · rfl
theorem smpV_wf {n : Nat} {v : SV} (h : v.wf n) : (smpV v).wf n := by
  unfold smpV
  split
  · rename_i l
    intro c hc
    obtain ⟨d, hd, rfl⟩ := List.mem_map.1 hc
    have := h d hd
    unfold smpC
    split <;> first | trivial | exact this
  · exact h
theorem smpV_top {v : SV} (h : v.isTop = false) : (smpV v).isTop = false := by
  unfold smpV
  split
  · rfl
  · exact h
def cSmp (c : CtrAt) : CtrAt := fun args s =>
  match c args s with
  | some t => some (t.bind fun q => frcV (smpV q.1) fun v => .done (v, q.2))
  | none => none
theorem cSmp_ok [Vars] {P : Program} {f : Nat} {c : CtrAt} (h : CAtOk P f c) : CAtOk P f (cSmp c) := by
  intro args s t ht L β hl h1 h2 w R hw Q hQ
  unfold cSmp at ht
  split at ht
  · rename_i t0 h0
    have ht := Option.some.inj ht
    subst ht
    refine h args s t0 h0 (fun β q => L β (smpV q.1, q.2)) β ?_ h1 h2 w R hw Q ?_
    · replace hl := bind_leads hl
      refine Tree.Leads.mono ?_ hl
      intro β' q hq
      rw [frcV_eq] at hq
      exact hq
    · intro β' v s' w' g1 g2 g3 g4
      rw [← smpV_den]
      exact hQ β' (smpV v) s' w' g1 (smpV_wf g2) (smpV_top g3) g4
  · cases ht
def Γ1 : Ctr := ctrCons 8 (cTm [] [] (.c (.bool (.bl true)))) <| ctrCons 19 (cSmp (cTm valArg (isW 0 ++ isW 1) valRes)) Γb
theorem Γ1_ok [Vars] : CtrOk Try.prog Γ1 := ctrCons_ok (cTm_ok shown_tm) (ctrCons_ok (cSmp_ok (cTm_ok val_tm)) Γb_ok)
/-- An access of a statement: fifteen numbers. -/
def opVs (i : Nat) : Nat → List SC
  | 0 => []
  | n + 1 => .int .i64 (.var i) :: opVs (i + 1) n
def opWs (i : Nat) : Nat → Pi
  | 0 => []
  | n + 1 => isW i ++ opWs (i + 1) n
def opArg : List SV := [.a (.agg (opVs 0 15))]
def lt4 (x : Tm) (n : Int) : Tm := .a2 .lt (i1 1004 x) (.lit n)
def atT (x : Tm) : Tm := sel3 (lt4 x 1) (.lit 96) (sel3 (lt4 x 2) (.lit 96) (sel3 (lt4 x 3) (.lit 100) (.lit 0)))
def valC (k n : Nat) : List SC := [.int .i64 (i1 101 (.a2 .pair (.var k) (.var n))), .int .i64 (i1 102 (.a2 .pair (.var k) (.var n)))]
def reqRes : SV := .a (.agg ([.int .i64 (.a2 .add (.a2 .rem (i1 1004 (.var 2)) (.lit 3)) (.lit 1)), .int .i64 (atT (.var 0)), .int .i64 (i1 1004 (.var 1))] ++ valC 4 5 ++ valC 6 7))
def envRes : SV := .a (.agg [.int .i64 (i1 1009 (.var 3)), .int .i64 (sel3 (.a2 .lt (i1 1002 (.var 3)) (.lit 1)) (.lit 0) (.lit 1)), .int .i64 (.lit 9)])
theorem req_tm : ∀ (V : Vars) (β : Bl) (w : World) (R : HProp), @facts _ V (opWs 0 15) → Holds w R → Calls Try.prog 16 ((opArg).map (@SV.den _ V β)).toArray w fun e w' => e = .returned (@SV.den _ V β (reqRes)) ∧ Holds w' R ∧ Strm w w' :=
  tm_calls (P := Try.prog) noGos mixedOrders (fun _ => Γ1_ok) (fun _ => false) 1000 (f := 16) (pargs := opArg) (pre := opWs 0 15) (res := reqRes) (by kernel_rfl) (by kernel_rfl) (by kernel_rfl)
theorem env_tm : ∀ (V : Vars) (β : Bl) (w : World) (R : HProp), @facts _ V (opWs 0 15) → Holds w R → Calls Try.prog 26 ((opArg).map (@SV.den _ V β)).toArray w fun e w' => e = .returned (@SV.den _ V β (envRes)) ∧ Holds w' R ∧ Strm w w' :=
  tm_calls (P := Try.prog) noGos mixedOrders (fun _ => Γ1_ok) (fun _ => false) 1000 (f := 26) (pargs := opArg) (pre := opWs 0 15) (res := envRes) (by kernel_rfl) (by kernel_rfl) (by kernel_rfl)
def Γ2 : Ctr := ctrCons 16 (cTm opArg (opWs 0 15) reqRes) (ctrCons 26 (cTm opArg (opWs 0 15) envRes) (Γ1))
theorem Γ2_ok [Vars] : CtrOk Try.prog Γ2 := ctrCons_ok (cTm_ok req_tm) (ctrCons_ok (cTm_ok env_tm) (Γ1_ok))
end
instance xtra0 : Xtra := xtraId
end Go.Proofs.Ytmmpnjcmaodkcaa.Ef
