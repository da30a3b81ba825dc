/- What is proved: what is known on a way decides truths: ranges of numbers, facts that were met. Conditions: that the facts hold. -/
import Derived.Test.YtfapicccijbanaaTa
namespace Go.Proofs.Ytfapicccijbanaa.Ef
open Go Go.Proofs.Ytfapicccijbanaa.Sep
set_option linter.unusedVariables false
set_option linter.unusedSimpArgs false
set_option linter.unusedSectionVars false
abbrev Pi := List (Tm × Bool)
/-- A least and a greatest number, where there is one. -/
structure Rg where
  lo : Option Int
  hi : Option Int
def Rg.has (r : Rg) (n : Int) : Prop := (∀ a, r.lo = some a → a ≤ n) ∧ (∀ b, r.hi = some b → n ≤ b)
def Rg.top : Rg := ⟨none, none⟩
theorem Rg.top_has (n : Int) : Rg.top.has n := ⟨fun _ h => (by cases h), fun _ h => (by cases h)⟩
def intLe (a b : Int) : Bool := decide (a ≤ b)
def oMax (o : Option Int) (c : Int) : Option Int :=
  match o with
  | none => some c
  | some a => bif intLe a c then some c else some a
def oMin (o : Option Int) (c : Int) : Option Int :=
  match o with
  | none => some c
  | some a => bif intLe a c then some a else some c
def Rg.ge (r : Rg) (c : Int) : Rg := ⟨oMax r.lo c, r.hi⟩
def Rg.le (r : Rg) (c : Int) : Rg := ⟨r.lo, oMin r.hi c⟩
theorem Rg.ge_has {r : Rg} {c n : Int} (h : r.has n) (hc : c ≤ n) : (r.ge c).has n := by
  refine ⟨fun a ha => ?_, h.2⟩
  unfold Rg.ge oMax at ha
  dsimp only at ha
  split at ha
  · simp at ha; omega
  · rename_i a0 hl
    have := h.1 _ hl
    cases hh : intLe a0 c <;> rw [hh] at ha <;> simp [intLe] at ha hh <;> omega
theorem Rg.le_has {r : Rg} {c n : Int} (h : r.has n) (hc : n ≤ c) : (r.le c).has n := by
  refine ⟨h.1, fun a ha => ?_⟩
  unfold Rg.le oMin at ha
  dsimp only at ha
  split at ha
  · simp at ha; omega
  · rename_i a0 hl
    have := h.2 _ hl
    cases hh : intLe a0 c <;> rw [hh] at ha <;> simp [intLe] at ha hh <;> omega
def oAdd : Option Int → Option Int → Option Int
  | some a, some b => some (a + b)
  | _, _ => none
def oNeg : Option Int → Option Int
  | some a => some (-a)
  | none => none
def oMulN (m : Int) : Option Int → Option Int
  | some a => some (a * m)
  | none => none
def Rg.add (r s : Rg) : Rg := ⟨oAdd r.lo s.lo, oAdd r.hi s.hi⟩
def Rg.neg (r : Rg) : Rg := ⟨oNeg r.hi, oNeg r.lo⟩
theorem Rg.add_has {r s : Rg} {n m : Int} (h : r.has n) (k : s.has m) : (r.add s).has (n + m) := by
  obtain ⟨⟨l, hi⟩, ⟨l', hi'⟩⟩ := r, s
  refine ⟨fun a ha => ?_, fun a ha => ?_⟩
  · cases l <;> cases l' <;> simp [Rg.add, oAdd] at ha
    have := h.1 _ rfl; have := k.1 _ rfl; omega
  · cases hi <;> cases hi' <;> simp [Rg.add, oAdd] at ha
    have := h.2 _ rfl; have := k.2 _ rfl; omega
theorem Rg.neg_has {r : Rg} {n : Int} (h : r.has n) : r.neg.has (-n) := by
  obtain ⟨l, hi⟩ := r
  refine ⟨fun a ha => ?_, fun a ha => ?_⟩
  · cases hi <;> simp [Rg.neg, oNeg] at ha
    have := h.2 _ rfl; omega
  · cases l <;> simp [Rg.neg, oNeg] at ha
    have := h.1 _ rfl; omega
def Rg.mulN (r : Rg) (m : Int) : Rg := ⟨oMulN m r.lo, oMulN m r.hi⟩
theorem Rg.mulN_has {r : Rg} {n m : Int} (h : r.has n) (hm : 0 ≤ m) : (r.mulN m).has (n * m) := by
  obtain ⟨l, hi⟩ := r
  refine ⟨fun a ha => ?_, fun a ha => ?_⟩
  · cases l <;> simp [Rg.mulN, oMulN] at ha
    have := h.1 _ rfl; subst ha; exact Int.mul_le_mul_of_nonneg_right this hm
  · cases hi <;> simp [Rg.mulN, oMulN] at ha
    have := h.2 _ rfl; subst ha; exact Int.mul_le_mul_of_nonneg_right this hm
def oLe : Option Int → Int → Bool
  | some a, c => intLe a c
  | none, _ => false
def oGe : Option Int → Int → Bool
  | some a, c => intLe c a
  | none, _ => false
def Rg.inside (r : Rg) (a b : Int) : Bool := bif oGe r.lo a then oLe r.hi b else false
theorem oGe_ok {r : Rg} {n a : Int} (h : r.has n) (hc : oGe r.lo a = true) : a ≤ n := by
  obtain ⟨l, hi⟩ := r
  cases l <;> simp [oGe, intLe] at hc
  have := h.1 _ rfl; omega
theorem oLe_ok {r : Rg} {n a : Int} (h : r.has n) (hc : oLe r.hi a = true) : n ≤ a := by
  obtain ⟨l, hi⟩ := r
  cases hi <;> simp [oLe, intLe] at hc
  have := h.2 _ rfl; omega
theorem Rg.inside_ok {r : Rg} {a b n : Int} (h : r.has n) (hc : r.inside a b = true) : a ≤ n ∧ n ≤ b := by
  unfold Rg.inside at hc
  cases h1 : oGe r.lo a with
  | false => rw [h1] at hc; cases hc
  | true => rw [h1] at hc; exact ⟨oGe_ok h h1, oLe_ok h hc⟩
def oUni (f : Int → Int → Bool) : Option Int → Option Int → Option Int
  | some a, some b => bif f a b then some a else some b
  | _, _ => none
def Rg.uni (r s : Rg) : Rg := ⟨oUni intLe r.lo s.lo, oUni (fun a b => intLe b a) r.hi s.hi⟩
theorem Rg.uni_l {r s : Rg} {n : Int} (h : r.has n) : (r.uni s).has n := by
  obtain ⟨⟨l, hi⟩, ⟨l', hi'⟩⟩ := r, s
  refine ⟨fun a ha => ?_, fun a ha => ?_⟩
  · cases l <;> cases l' <;> simp [Rg.uni, oUni] at ha
    rename_i x y
    have := h.1 _ rfl
    cases hh : intLe x y <;> rw [hh] at ha <;> simp [intLe] at ha hh <;> omega
  · cases hi <;> cases hi' <;> simp [Rg.uni, oUni] at ha
    rename_i x y
    have := h.2 _ rfl
    cases hh : intLe y x <;> rw [hh] at ha <;> simp [intLe] at ha hh <;> omega
theorem Rg.uni_r {r s : Rg} {n : Int} (h : s.has n) : (r.uni s).has n := by
  obtain ⟨⟨l, hi⟩, ⟨l', hi'⟩⟩ := r, s
  refine ⟨fun a ha => ?_, fun a ha => ?_⟩
  · cases l <;> cases l' <;> simp [Rg.uni, oUni] at ha
    rename_i x y
    have := h.1 _ rfl
    cases hh : intLe x y <;> rw [hh] at ha <;> simp [intLe] at ha hh <;> omega
  · cases hi <;> cases hi' <;> simp [Rg.uni, oUni] at ha
    rename_i x y
    have := h.2 _ rfl
    cases hh : intLe y x <;> rw [hh] at ha <;> simp [intLe] at ha hh <;> omega
/-- What is known of the symbols' values. -/
class Rules [Interp] where
  r1 : Nat → Rg
  r2 : Nat → Rg
  r1_ok : ∀ n u, (r1 n).has (Interp.f1 n u).int
  r2_ok : ∀ n u v, (r2 n).has (Interp.f2 n u v).int
  k1 : Nat → Tm → Tm
  k2 : Nat → Tm → Tm → Tm
  k1_ok : ∀ [Vars] n x, (k1 n x).den = Interp.f1 n x.den
  k2_ok : ∀ [Vars] n x y, (k2 n x y).den = Interp.f2 n x.den y.den
def ref1 (t : Tm) (q : Tm × Bool) (r : Rg) : Rg :=
  match q with
  | (.a2 .lt (.lit c) x, true) => bif Tm.beq x t then r.ge (c + 1) else r
  | (.a2 .lt (.lit c) x, false) => bif Tm.beq x t then r.le c else r
  | (.a2 .lt x (.lit c), true) => bif Tm.beq x t then r.le (c - 1) else r
  | (.a2 .lt x (.lit c), false) => bif Tm.beq x t then r.ge c else r
  | (.a2 .eq x (.lit c), true) => bif Tm.beq x t then ⟨some c, some c⟩ else r
  | _ => r
def refine (t : Tm) : Pi → Rg → Rg
  | [], r => r
  | q :: π, r => refine t π (ref1 t q r)
def kindRg (k : IntKind) : Rg := ⟨some k.min, some k.max⟩
def remRg (r : Rg) (m : Int) : Rg :=
  bif intLe 1 m then (bif oGe r.lo 0 then ⟨some 0, oMin r.hi (m - 1)⟩ else ⟨some (-(m - 1)), some (m - 1)⟩) else .top
def look : Pi → Tm → Option Bool
  | [], _ => none
  | (c, b) :: π, t => bif Tm.beq c t then some b else look π t
section
variable [Interp] [Vars]
def facts (π : Pi) : Prop := ∀ q ∈ π, q.1.tv = q.2
theorem facts_cons {π : Pi} {c : Tm} {b : Bool} (h : facts π) (hc : c.tv = b) : facts ((c, b) :: π) := by
  intro q hq
  rcases List.mem_cons.1 hq with rfl | hq
  · exact hc
  · exact h q hq
theorem look_ok : ∀ {π : Pi} {t : Tm} {b : Bool}, facts π → look π t = some b → t.tv = b
  | [], _, _, _, h => by cases h
  | (c, d) :: π, t, b, hf, h => by
    unfold look at h
    cases hc : Tm.beq c t with
    | true =>
      rw [hc] at h
      simp at h
      have := Tm.beq_eq hc
      subst this h
      exact hf _ (List.mem_cons_self ..)
    | false =>
      rw [hc] at h
      exact look_ok (fun q hq => hf q (List.mem_cons_of_mem _ hq)) h
theorem ref1_ok {t : Tm} {q : Tm × Bool} {r : Rg} (hq : q.1.tv = q.2) (h : r.has t.v) : (ref1 t q r).has t.v := by
  unfold ref1
  split <;> first
    | exact h
    | (rw [Bool.cond_eq_ite]
       split
       · rename_i hb
         have e := Tm.beq_eq hb
         subst e
         simp only [lt_tv, eq_tv, lit_v] at hq
         first
           | (have h1 := of_decide_eq_true hq; first | (refine Rg.ge_has h ?_; omega) | (refine Rg.le_has h ?_; omega))
           | (have h1 := of_decide_eq_false hq; first | (refine Rg.ge_has h ?_; omega) | (refine Rg.le_has h ?_; omega))
           | (have h1 := eq_of_beq hq
              refine ⟨fun a ha => ?_, fun a ha => ?_⟩ <;> (simp only [Option.some.injEq] at ha; omega))
       · exact h)
theorem refine_ok {t : Tm} : ∀ {π : Pi} {r : Rg}, facts π → r.has t.v → (refine t π r).has t.v
  | [], _, _, h => h
  | q :: π, r, hf, h => refine_ok (π := π) (fun q' hq => hf q' (List.mem_cons_of_mem _ hq)) (ref1_ok (hf q (List.mem_cons_self ..)) h)
theorem kindRg_has (k : IntKind) (n : Int) : (kindRg k).has (k.wrap n) := by
  refine ⟨fun a ha => ?_, fun a ha => ?_⟩
  all_goals
    simp [kindRg] at ha
    subst ha
    cases k <;> simp [IntKind.min, IntKind.max, IntKind.signed, IntKind.bits, IntKind.wrap] <;> omega
theorem wrap_in {k : IntKind} {n : Int} (h : k.min ≤ n ∧ n ≤ k.max) : k.wrap n = n := by
  cases k <;> simp [IntKind.min, IntKind.max, IntKind.signed, IntKind.bits] at h <;> simp [IntKind.wrap, IntKind.signed, IntKind.bits] <;> omega
theorem remRg_has {r : Rg} {m n : Int} (h : r.has n) : (remRg r m).has (n.tmod m) := by
  unfold remRg
  cases hm : intLe 1 m with
  | false => exact Rg.top_has _
  | true =>
    have m1 : 1 ≤ m := of_decide_eq_true hm
    simp only [cond_true]
    cases h0 : oGe r.lo 0 with
    | true =>
      have n0 := oGe_ok h h0
      have e : n.tmod m = n % m := Int.tmod_eq_emod_of_nonneg n0
      have a1 := Int.emod_nonneg n (show m ≠ 0 by omega)
      have a2 := Int.emod_lt_of_pos n (show 0 < m by omega)
      simp only [cond_true, e]
      have hl : (Rg.le ⟨some 0, r.hi⟩ (m - 1)).has (n % m) := by
        refine Rg.le_has ⟨fun a ha => ?_, fun b hb => ?_⟩ (by omega)
        · simp at ha; omega
        · have := h.2 b hb
          have e1 := Int.emod_add_mul_ediv n m
          have e2 := Int.mul_nonneg (show 0 ≤ m by omega) (Int.ediv_nonneg n0 (show 0 ≤ m by omega))
          omega
      exact hl
    | false =>
      simp only [cond_false]
      have a1 : (n.tmod m).natAbs < m.natAbs := by
        rw [Int.natAbs_tmod]
        exact Nat.mod_lt _ (by omega)
      refine ⟨fun a ha => ?_, fun b hb => ?_⟩
      · simp at ha; omega
      · simp at hb; omega
end
section
variable [Interp] [Rules]
def rng (π : Pi) : Tm → Rg
  | .lit n => ⟨some n, some n⟩
  | .bl _ => .top
  | .var i => refine (.var i) π .top
  | .a1 f x =>
    match f with
    | .wrap k => let r := rng π x; bif r.inside k.min k.max then r else kindRg k
    | .usr n => refine (.a1 (.usr n) x) π (Rules.r1 n)
    | f => refine (.a1 f x) π .top
  | .a2 f x y =>
    match f with
    | .add => refine (.a2 .add x y) π ((rng π x).add (rng π y))
    | .sub => refine (.a2 .sub x y) π ((rng π x).add (rng π y).neg)
    | .mul => match y with
      | .lit m => bif intLe 0 m then (rng π x).mulN m else .top
      | _ => .top
    | .rem => match y with
      | .lit m => refine (.a2 .rem x (.lit m)) π (remRg (rng π x) m)
      | _ => .top
    | .sel => match y with
      | .a2 .pair a b => refine (.a2 .sel x (.a2 .pair a b)) π .top
      | _ => .top
    | .usr n => refine (.a2 (.usr n) x y) π (Rules.r2 n)
    | f => refine (.a2 f x y) π .top
def selRg (π : Pi) : Tm → Rg
  | .a2 .sel x (.a2 .pair a b) => (selRg π a).uni (selRg π b)
  | t => rng π t
variable [Vars]
theorem rng_ok {π : Pi} (hf : facts π) : ∀ t : Tm, (rng π t).has t.v
  | .lit n => ⟨fun a ha => by simp [rng] at ha; subst ha; exact Int.le_refl _, fun a ha => by simp [rng] at ha; subst ha; exact Int.le_refl _⟩
  | .bl _ => Rg.top_has _
  | .var i => refine_ok hf (Rg.top_has _)
  | .a1 f x => by
    unfold rng
    split
    · rename_i k
      cases hi : (rng π x).inside k.min k.max with
      | true =>
        simp only [hi, cond_true]
        have h := rng_ok hf x
        have h2 := Rg.inside_ok h hi
        have : (Tm.a1 (.wrap k) x).v = x.v := by
          show k.wrap x.v = x.v
          exact wrap_in h2
        rw [this]
        exact h
      | false => simp only [hi, cond_false]; exact kindRg_has _ _
    · exact refine_ok hf (Rules.r1_ok _ _)
    · exact refine_ok hf (Rg.top_has _)
  | .a2 f x y => by
    unfold rng
    split
    · exact refine_ok hf (Rg.add_has (rng_ok hf x) (rng_ok hf y))
    · exact refine_ok hf (Rg.add_has (n := x.v) (m := -y.v) (rng_ok hf x) (Rg.neg_has (rng_ok hf y)))
    · split
      · rename_i m
        cases hm : intLe 0 m with
        | true => exact Rg.mulN_has (rng_ok hf x) (of_decide_eq_true hm)
        | false => exact Rg.top_has _
      · exact Rg.top_has _
    · split
      · exact refine_ok hf (remRg_has (rng_ok hf x))
      · exact Rg.top_has _
    · split
      · exact refine_ok hf (Rg.top_has _)
      · exact Rg.top_has _
    · exact refine_ok hf (Rules.r2_ok _ _ _)
    · exact refine_ok hf (Rg.top_has _)
theorem selRg_ok {π : Pi} (hf : facts π) : ∀ t : Tm, (selRg π t).has t.v
  | .lit n => rng_ok hf _
  | .bl _ => rng_ok hf _
  | .var i => rng_ok hf _
  | .a1 f x => rng_ok hf _
  | .a2 f x y => by
    unfold selRg
    split
    · rename_i x' a b he
      cases he
      have ha := selRg_ok hf a
      have hb := selRg_ok hf b
      have e : (Tm.a2 .sel x (.a2 .pair a b)).v = if x.tv then a.v else b.v := by
        simp only [Tm.v, Tm.den, F2.den, U.fst, U.snd, Tm.tv]
        rcases Bool.eq_false_or_eq_true x.den.bool with h | h <;> simp [h]
      rw [e]
      split
      · exact Rg.uni_l ha
      · exact Rg.uni_r hb
    · exact rng_ok hf _
/-- An atom's truth from ranges. -/
def atomP (π : Pi) (want : Bool) (t : Tm) : Bool :=
  match t with
  | .a2 .lt x (.lit c) => bif want then oLe (selRg π x).hi (c - 1) else oGe (selRg π x).lo c
  | .a2 .lt (.lit c) y => bif want then oGe (selRg π y).lo (c + 1) else oLe (selRg π y).hi c
  | .a2 .lt x y => bif want then oGe (rng π (.a2 .sub y x)).lo 1 else oLe (rng π (.a2 .sub y x)).hi 0
  | .a2 .eq x (.lit c) => bif want then (selRg π x).inside c c else (bif oGe (selRg π x).lo (c + 1) then true else oLe (selRg π x).hi (c - 1))
  | _ => false
def pv (π : Pi) : Bool → Tm → Bool
  | want, .bl b => boolBeq b want
  | want, .a1 f x =>
    match f with
    | .not => pv π (!want) x
    | f => match look π (.a1 f x) with
      | some b => boolBeq b want
      | none => false
  | want, .a2 f x y =>
    match f with
    | .and => bif want then (bif pv π true x then pv π true y else false) else (bif pv π false x then true else pv π false y)
    | f => match look π (.a2 f x y) with
      | some b => boolBeq b want
      | none => atomP π want (.a2 f x y)
  | want, t => match look π t with
    | some b => boolBeq b want
    | none => false
theorem atomP_ok {π : Pi} (hf : facts π) {want : Bool} {t : Tm} (h : atomP π want t = true) : t.tv = want := by
  unfold atomP at h
  split at h
  · rename_i x c
    have hx := selRg_ok hf x
    show decide (x.v < c) = want
    cases want
    · have := oGe_ok hx h; simp; omega
    · have := oLe_ok hx h; simp; omega
  · rename_i c y _
    have hx := selRg_ok hf y
    show decide (c < y.v) = want
    cases want
    · have := oLe_ok hx h; simp; omega
    · have := oGe_ok hx h; simp; omega
  · rename_i x y _ _
    have hx := rng_ok hf (.a2 .sub y x)
    have e : (Tm.a2 .sub y x).v = y.v - x.v := rfl
    rw [e] at hx
    show decide (x.v < y.v) = want
    cases want
    · have := oLe_ok hx h; simp; omega
    · have := oGe_ok hx h; simp; omega
  · rename_i x c
    have hx := selRg_ok hf x
    show (x.v == c) = want
    cases want
    · simp only [cond_false] at h
      cases h1 : oGe (selRg π x).lo (c + 1) with
      | true => have := oGe_ok hx h1; simp; omega
      | false => rw [h1] at h; have := oLe_ok hx h; simp; omega
    · have := Rg.inside_ok hx h; simp; omega
  · cases h
theorem pv_ok {π : Pi} (hf : facts π) : ∀ {want : Bool} {t : Tm}, pv π want t = true → t.tv = want
  | want, .bl b, h => boolBeq_eq (a := b) h
  | want, .lit n, h => by
    unfold pv at h
    split at h
    · rename_i b hb; rw [look_ok hf hb, boolBeq_eq h]
    · cases h
  | want, .var n, h => by
    unfold pv at h
    split at h
    · rename_i b hb; rw [look_ok hf hb, boolBeq_eq h]
    · cases h
  | want, .a1 f x, h => by
    unfold pv at h
    split at h
    · have := pv_ok hf h
      show (!x.tv) = want
      rw [this]; simp
    · split at h
      · rename_i b hb; rw [look_ok hf hb, boolBeq_eq h]
      · cases h
  | want, .a2 f x y, h => by
    unfold pv at h
    split at h
    · show (x.tv && y.tv) = want
      cases want
      · simp only [cond_false] at h
        cases h1 : pv π false x with
        | true => rw [pv_ok hf h1]; rfl
        | false => rw [h1] at h; rw [pv_ok hf h]; simp
      · simp only [cond_true] at h
        cases h1 : pv π true x with
        | true => rw [h1] at h; rw [pv_ok hf h1, pv_ok hf h]; rfl
        | false => rw [h1] at h; cases h
    · split at h
      · rename_i b hb; rw [look_ok hf hb, boolBeq_eq h]
      · exact atomP_ok hf h
/-- One of two is known to be false, and the other to be true. -/
def lookAnd (π : Pi) (t : Tm) : Pi → Bool
  | [] => false
  | (.a2 .and x y, false) :: r =>
    bif Tm.beq y t then (match look π x with | some true => true | _ => lookAnd π t r)
    else bif Tm.beq x t then (match look π y with | some true => true | _ => lookAnd π t r) else lookAnd π t r
  | _ :: r => lookAnd π t r
theorem lookAnd_ok {π : Pi} (hf : facts π) {t : Tm} : ∀ {r : Pi}, facts r → lookAnd π t r = true → t.tv = false
  | [], _, h => by cases h
  | q :: r, hr, h => by
    have ih := lookAnd_ok hf (t := t) (r := r) (fun q hq => hr q (List.mem_cons_of_mem _ hq))
    unfold lookAnd at h
    split at h
    · cases h
    · rename_i x y r' e
      simp only [List.cons.injEq] at e
      obtain ⟨rfl, rfl⟩ := e
      have hx : (x.tv && y.tv) = false := hr _ (List.mem_cons_self ..)
      rw [Bool.cond_eq_ite] at h
      split at h
      · rename_i hy
        have hy := Tm.beq_eq hy
        subst hy
        split at h
        · rename_i hl
          rw [look_ok hf hl] at hx
          simpa using hx
        · exact ih h
      · rw [Bool.cond_eq_ite] at h
        split at h
        · rename_i hy
          have hy := Tm.beq_eq hy
          subst hy
          split at h
          · rename_i hl
            rw [look_ok hf hl] at hx
            simpa using hx
          · exact ih h
        · exact ih h
    · rename_i e
      simp only [List.cons.injEq] at e
      obtain ⟨rfl, rfl⟩ := e
      exact ih h
/-- What is known of a truth on this way. -/
def dec (π : Pi) (t : Tm) : Option Bool :=
  match t with
  | .bl b => some b
  | t => match look π t with
    | some b => some b
    | none => bif pv π true t then some true else bif pv π false t then some false else bif lookAnd π t π then some false else none
theorem dec_ok {π : Pi} (hf : facts π) {t : Tm} {b : Bool} (h : dec π t = some b) : t.tv = b := by
  unfold dec at h
  split at h
  · simp at h; subst h; rfl
  · split at h
    · rename_i b' hb; simp at h; subst h; exact look_ok hf hb
    · rw [Bool.cond_eq_ite] at h
      split at h
      · rename_i h1; simp at h; subst h; exact pv_ok hf h1
      · rw [Bool.cond_eq_ite] at h
        split at h
        · rename_i h1; simp at h; subst h; exact pv_ok hf h1
        · rw [Bool.cond_eq_ite] at h
          split at h
          · rename_i h1; simp at h; subst h; exact lookAnd_ok hf hf h1
          · cases h
end
end Go.Proofs.Ytfapicccijbanaa.Ef
