/- What is proved: the texts on which the statement's own texts stand. Conditions: stated with each lemma. -/
import Derived.Test.YtmmpnjcmaodkcaaM0
import Derived.Laws.Tables
import Derived.Laws.Pointers
import Derived.Laws.Slices
import Derived.Lib.MinMax
import Derived.LoopN
import Derived.Scope
import Derived.OwnWalk
import Derived.Test.YtmmpnjcmaodkcaaProg
import Derived.WalkSpells
import Derived.WalkLawsBesides
import Derived.BigQuiet
import Derived.Deep.QuietTactic
import Derived.Outline
import Derived.RegionTactic
import Derived.BigRegion
/- What is proved: which operations of a region may come up, and what they touch, by numbers whose bits are the operations. Conditions: stated with each lemma. -/
namespace Go.Proofs.Ytmmpnjcmaodkcaa.Ef
open Go Go.Proofs.Ytmmpnjcmaodkcaa.Sep
set_option linter.unusedVariables false
set_option linter.unusedSimpArgs false
set_option linter.unusedSectionVars false
def bit (i : Nat) : Nat := Nat.shiftLeft 1 i
def tb (m i : Nat) : Bool := Nat.beq (Nat.land (Nat.shiftRight m i) 1) 1
def sub (m d : Nat) : Bool := Nat.beq (Nat.land m d) d
theorem tb_eq (m i : Nat) : tb m i = m.testBit i := by
  unfold tb
  have e : m.testBit i = (1 &&& (m >>> i) != 0) := rfl
  rw [e, Nat.and_comm]
  show Nat.beq ((m >>> i) &&& 1) 1 = ((m >>> i) &&& 1 != 0)
  rw [Nat.and_one_is_mod]
  rcases Nat.mod_two_eq_zero_or_one (m >>> i) with h | h <;> rw [h] <;> rfl
theorem bit_eq (i : Nat) : bit i = 2 ^ i := by
  show 1 <<< i = 2 ^ i
  rw [Nat.shiftLeft_eq, Nat.one_mul]
theorem bit_test (i j : Nat) : (bit i).testBit j = decide (i = j) := by
  rw [bit_eq]
  by_cases h : i = j
  · subst h; rw [Nat.testBit_two_pow_self]; simp
  · rw [Nat.testBit_two_pow_of_ne h]; simp [h]
theorem lor_test (a b j : Nat) : (Nat.lor a b).testBit j = (a.testBit j || b.testBit j) := Nat.testBit_or a b j
theorem sub_iff (m d : Nat) : sub m d = true ↔ ∀ k, d.testBit k = true → m.testBit k = true := by
  unfold sub
  constructor
  · intro h k hk
    have e : m &&& d = d := Nat.eq_of_beq_eq_true h
    have : (m &&& d).testBit k = true := by rw [e]; exact hk
    rw [Nat.testBit_and] at this
    simp at this
    exact this.1
  · intro h
    have e : m &&& d = d := by
      apply Nat.eq_of_testBit_eq
      intro k
      rw [Nat.testBit_and]
      cases hk : d.testBit k with
      | true => rw [h k hk]; rfl
      | false => simp
    show Nat.beq (m &&& d) d = true
    rw [e]
    exact Nat.beq_refl d
/-- An operation, and what it looks at. -/
structure Pre where
  i : Nat
  o : Oper
  lk : List Nat
/-- A row: the operation, its guard's temporary; the bits of those that it waits for, that touch it, that write what it looks at. -/
structure Rw where
  i : Nat
  o : Oper
  gs : Option (Option Nat × Bool)
  dep : Nat
  conf : Nat
  look : Nat
def memL : List Nat → Nat → Bool
  | [], _ => false
  | j :: r, i => bif Nat.beq j i then true else memL r i
theorem memL_iff : ∀ {l : List Nat} {i : Nat}, memL l i = true ↔ i ∈ l
  | [], i => by simp [memL]
  | j :: r, i => by
    unfold memL
    rw [Bool.cond_eq_ite]
    split
    · rename_i h; simp [Nat.eq_of_beq_eq_true h]
    · rename_i h
      rw [memL_iff, List.mem_cons]
      constructor
      · exact .inr
      · rintro (rfl | h')
        · exact absurd (Nat.beq_refl i) h
        · exact h'
def dstIn (d : Option Nat) (l : List Nat) : Bool :=
  match d with
  | some d => memL l d
  | none => false
def sameD (x y : Option Nat) : Bool :=
  match x, y with
  | some a, some b => Nat.beq a b
  | _, _ => false
def apartB (x y : Pre) : Bool := bif dstIn x.o.dst y.lk then false else bif sameD x.o.dst y.o.dst then false else !(dstIn y.o.dst x.lk)
def depM : List Edge → Nat
  | [] => 0
  | e :: r => bif Region.binds .any e then Nat.lor (bit e.on) (depM r) else depM r
def waits (i : Nat) : List Edge → Bool
  | [] => false
  | e :: r => bif Region.binds .any e && Nat.beq e.on i then true else waits i r
def confM (x : Pre) : List Pre → Nat
  | [] => 0
  | y :: r => bif Nat.beq y.i x.i then confM x r else bif apartB x y then confM x r else bif waits x.i y.o.after.toList then confM x r else Nat.lor (bit y.i) (confM x r)
def lookM (x : Pre) : List Pre → Nat
  | [] => 0
  | y :: r => bif dstIn y.o.dst x.lk then Nat.lor (bit y.i) (lookM x r) else lookM x r
def gsl (ops : List Oper) : Option (Nat × Bool) → Option (Option Nat × Bool)
  | none => none
  | some (j, want) =>
    match ops[j]? with
    | some o => some (o.dst, want)
    | none => some (none, want)
def pres (ops : Array Oper) : Nat → List Oper → List Pre
  | _, [] => []
  | i, o :: r => ⟨i, o, o.looksAt ops⟩ :: pres ops (i + 1) r
def rowsOf (ops : List Oper) (all : List Pre) : List Pre → List Rw
  | [] => []
  | x :: r => ⟨x.i, x.o, gsl ops x.o.guard, depM x.o.after.toList, confM x all, lookM x all⟩ :: rowsOf ops all r
def mkRows (ops : List Oper) : List Rw := rowsOf ops (pres ops.toArray 0 ops) (pres ops.toArray 0 ops)
theorem depM_iff : ∀ {l : List Edge} {k : Nat}, (depM l).testBit k = true ↔ ∃ e ∈ l, Region.binds .any e = true ∧ e.on = k
  | [], k => by simp [depM]
  | e :: r, k => by
    unfold depM
    rw [Bool.cond_eq_ite]
    split
    · rename_i h
      rw [lor_test, Bool.or_eq_true, bit_test, decide_eq_true_eq, depM_iff]
      constructor
      · rintro (h1 | ⟨e', h1, h2⟩)
        · exact ⟨e, List.mem_cons_self .., h, h1⟩
        · exact ⟨e', List.mem_cons_of_mem _ h1, h2⟩
      · rintro ⟨e', h1, h2, h3⟩
        rcases List.mem_cons.1 h1 with rfl | h1
        · exact .inl h3
        · exact .inr ⟨e', h1, h2, h3⟩
    · rename_i h
      rw [depM_iff]
      constructor
      · rintro ⟨e', h1, h2⟩; exact ⟨e', List.mem_cons_of_mem _ h1, h2⟩
      · rintro ⟨e', h1, h2, h3⟩
        rcases List.mem_cons.1 h1 with rfl | h1
        · exact absurd h2 h
        · exact ⟨e', h1, h2, h3⟩
theorem waits_ok {i : Nat} : ∀ {l : List Edge}, waits i l = true → ∃ e ∈ l, Region.binds .any e = true ∧ e.on = i
  | [], h => by cases h
  | e :: r, h => by
    unfold waits at h
    rw [Bool.cond_eq_ite] at h
    split at h
    · rename_i hc
      rw [Bool.and_eq_true] at hc
      exact ⟨e, List.mem_cons_self .., hc.1, Nat.eq_of_beq_eq_true hc.2⟩
    · obtain ⟨e', h1, h2⟩ := waits_ok h; exact ⟨e', List.mem_cons_of_mem _ h1, h2⟩
theorem confM_no {x : Pre} : ∀ {l : List Pre} {y : Pre}, y ∈ l → (confM x l).testBit y.i = false → y.i ≠ x.i → apartB x y = true ∨ ∃ e ∈ y.o.after.toList, Region.binds .any e = true ∧ e.on = x.i
  | [], y, h, _, _ => by cases h
  | z :: r, y, h, hb, hne => by
    unfold confM at hb
    rw [Bool.cond_eq_ite, Bool.cond_eq_ite, Bool.cond_eq_ite] at hb
    rcases List.mem_cons.1 h with rfl | h
    · split at hb
      · rename_i he; exact absurd (Nat.eq_of_beq_eq_true he) hne
      · split at hb
        · rename_i ha; exact .inl ha
        · split at hb
          · rename_i hw; exact .inr (waits_ok hw)
          · rw [lor_test, bit_test] at hb; simp at hb
    · split at hb
      · exact confM_no h hb hne
      · split at hb
        · exact confM_no h hb hne
        · split at hb
          · exact confM_no h hb hne
          · rw [lor_test, Bool.or_eq_false_iff] at hb; exact confM_no h hb.2 hne
theorem lookM_no {x : Pre} : ∀ {l : List Pre} {y : Pre}, y ∈ l → (lookM x l).testBit y.i = false → dstIn y.o.dst x.lk = false
  | [], y, h, _ => by cases h
  | z :: r, y, h, hb => by
    unfold lookM at hb
    rw [Bool.cond_eq_ite] at hb
    rcases List.mem_cons.1 h with rfl | h
    · split at hb
      · rw [lor_test, bit_test] at hb; simp at hb
      · rename_i hn; simpa using hn
    · split at hb
      · rw [lor_test, Bool.or_eq_false_iff] at hb; exact lookM_no h hb.2
      · exact lookM_no h hb
/-- What a row tells is so. -/
structure RwOk (ops : List Oper) (r : Rw) : Prop where
  o : ops.toArray[r.i]? = some r.o
  gs : r.gs = gsl ops r.o.guard
  dep : ∀ k, r.dep.testBit k = true ↔ ∃ e ∈ r.o.after, Region.binds .any e = true ∧ e.on = k
  conf : ∀ (j : Nat) (oj : Oper), ops.toArray[j]? = some oj → j ≠ r.i → r.conf.testBit j = false → (∀ e ∈ oj.after, Region.binds .any e = true → e.on ≠ r.i) → r.o.apart ops.toArray oj = true
  look : ∀ (j : Nat) (oj : Oper), ops.toArray[j]? = some oj → r.look.testBit j = false → ∀ d, oj.dst = some d → d ∉ r.o.looksAt ops.toArray
theorem pres_get {A : Array Oper} : ∀ {l : List Oper} {i j : Nat} {o : Oper}, l[j]? = some o → (⟨i + j, o, o.looksAt A⟩ : Pre) ∈ pres A i l
  | [], i, j, o, h => by simp at h
  | x :: r, i, 0, o, h => by
    simp at h
    subst h
    exact List.mem_cons_self ..
  | x :: r, i, j + 1, o, h => by
    have := pres_get (A := A) (l := r) (i := i + 1) (j := j) (o := o) (by simpa using h)
    rw [show i + (j + 1) = i + 1 + j by omega]
    exact List.mem_cons_of_mem _ this
theorem pres_mem {A : Array Oper} : ∀ {l : List Oper} {i : Nat} {p : Pre}, p ∈ pres A i l → ∃ j, l[j]? = some p.o ∧ p.i = i + j ∧ p.lk = p.o.looksAt A
  | [], i, p, h => by cases h
  | x :: r, i, p, h => by
    rcases List.mem_cons.1 h with rfl | h
    · exact ⟨0, rfl, rfl, rfl⟩
    · obtain ⟨j, h1, h2, h3⟩ := pres_mem h
      exact ⟨j + 1, by simpa using h1, by omega, h3⟩
theorem rowsOf_mem {ops : List Oper} {all : List Pre} : ∀ {l : List Pre} {r : Rw}, r ∈ rowsOf ops all l → ∃ x ∈ l, r = ⟨x.i, x.o, gsl ops x.o.guard, depM x.o.after.toList, confM x all, lookM x all⟩
  | [], r, h => by cases h
  | x :: t, r, h => by
    rcases List.mem_cons.1 h with rfl | h
    · exact ⟨x, List.mem_cons_self .., rfl⟩
    · obtain ⟨y, h1, h2⟩ := rowsOf_mem h; exact ⟨y, List.mem_cons_of_mem _ h1, h2⟩
theorem rowsOf_get {ops : List Oper} {all : List Pre} : ∀ {l : List Pre} {x : Pre}, x ∈ l → (⟨x.i, x.o, gsl ops x.o.guard, depM x.o.after.toList, confM x all, lookM x all⟩ : Rw) ∈ rowsOf ops all l
  | [], x, h => by cases h
  | y :: t, x, h => by
    rcases List.mem_cons.1 h with rfl | h
    · exact List.mem_cons_self ..
    · exact List.mem_cons_of_mem _ (rowsOf_get h)
theorem mkRows_ok {ops : List Oper} {r : Rw} (h : r ∈ mkRows ops) : RwOk ops r := by
  obtain ⟨x, hx, rfl⟩ := rowsOf_mem h
  obtain ⟨j, h1, h2, h3⟩ := pres_mem hx
  have hj : x.i = j := by omega
  have hall : ∀ (k : Nat) (ok : Oper), ops.toArray[k]? = some ok → (⟨k, ok, ok.looksAt ops.toArray⟩ : Pre) ∈ pres ops.toArray 0 ops := by
    intro k ok hk
    have := pres_get (A := ops.toArray) (l := ops) (i := 0) (j := k) (o := ok) (by simpa using hk)
    rwa [Nat.zero_add] at this
  refine ⟨?_, rfl, fun k => ?_, fun k ok hk hne hc hw => ?_, fun k ok hk hl d hd => ?_⟩
  · show ops.toArray[x.i]? = some x.o
    rw [hj]; simpa using h1
  · show (depM x.o.after.toList).testBit k = true ↔ _
    rw [depM_iff]
    constructor
    · rintro ⟨e, he, h⟩; exact ⟨e, by simpa using he, h⟩
    · rintro ⟨e, he, h⟩; exact ⟨e, by simpa using he, h⟩
  · rcases confM_no (hall k ok hk) hc hne with h | ⟨e, he, h4, h5⟩
    · have h : (bif dstIn x.o.dst (ok.looksAt ops.toArray) then false else bif sameD x.o.dst ok.dst then false else !(dstIn ok.dst x.lk)) = true := h
      rw [Bool.cond_eq_ite, Bool.cond_eq_ite] at h
      split at h
      · cases h
      · rename_i a1
        split at h
        · cases h
        · rename_i a2
          rw [h3] at h
          unfold Oper.apart
          cases hd : x.o.dst with
          | none =>
            cases hd2 : ok.dst with
            | none => rfl
            | some d2 =>
              rw [hd2] at h
              have : memL (x.o.looksAt ops.toArray) d2 = false := by simpa [dstIn] using h
              have hn : d2 ∉ x.o.looksAt ops.toArray := fun hm => by rw [memL_iff.2 hm] at this; cases this
              simpa using hn
          | some d =>
            rw [hd] at a1 a2
            have b1 : d ∉ ok.looksAt ops.toArray := fun hm => a1 (memL_iff.2 hm)
            cases hd2 : ok.dst with
            | none => simpa using b1
            | some d2 =>
              rw [hd2] at h a2
              have b2 : d2 ≠ d := fun e => a2 (by subst e; exact Nat.beq_refl _)
              have : memL (x.o.looksAt ops.toArray) d2 = false := by simpa [dstIn] using h
              have hn : d2 ∉ x.o.looksAt ops.toArray := fun hm => by rw [memL_iff.2 hm] at this; cases this
              simp [b1, b2, hn]
    · exact absurd h5 (hw e (by simpa using he) h4)
  · have := lookM_no (hall k ok hk) hl
    have h6 : dstIn ok.dst x.lk = false := this
    rw [hd, h3] at h6
    intro hm
    have h7 : memL (x.o.looksAt ops.toArray) d = true := memL_iff.2 hm
    have h8 : memL (x.o.looksAt ops.toArray) d = false := h6
    rw [h7] at h8
    cases h8
theorem mkRows_all {ops : List Oper} {i : Nat} {o : Oper} (h : ops.toArray[i]? = some o) : ∃ r ∈ mkRows ops, r.i = i := by
  have := pres_get (A := ops.toArray) (l := ops) (i := 0) (j := i) (o := o) (by simpa using h)
  exact ⟨_, rowsOf_get this, by simp⟩
/-! ### which may come up -/
def readyR (m : Nat) : List Rw → List Rw
  | [] => []
  | r :: t => bif tb m r.i then readyR m t else bif sub m r.dep then r :: readyR m t else readyR m t
theorem readyR_iff {m : Nat} : ∀ {l : List Rw} {r : Rw}, r ∈ readyR m l ↔ r ∈ l ∧ m.testBit r.i = false ∧ sub m r.dep = true
  | [], r => by simp [readyR]
  | x :: t, r => by
    unfold readyR
    rw [Bool.cond_eq_ite, Bool.cond_eq_ite, tb_eq]
    split
    · rename_i h
      rw [readyR_iff, List.mem_cons]
      constructor
      · rintro ⟨h1, h2⟩; exact ⟨.inr h1, h2⟩
      · rintro ⟨rfl | h1, h2, h3⟩
        · rw [h] at h2; cases h2
        · exact ⟨h1, h2, h3⟩
    · rename_i h
      have h : m.testBit x.i = false := by simpa using h
      split
      · rename_i hs
        rw [List.mem_cons, readyR_iff, List.mem_cons]
        constructor
        · rintro (rfl | ⟨h1, h2⟩)
          · exact ⟨.inl rfl, h, hs⟩
          · exact ⟨.inr h1, h2⟩
        · rintro ⟨rfl | h1, h2⟩
          · exact .inl rfl
          · exact .inr ⟨h1, h2⟩
      · rename_i hs
        rw [readyR_iff, List.mem_cons]
        constructor
        · rintro ⟨h1, h2⟩; exact ⟨.inr h1, h2⟩
        · rintro ⟨rfl | h1, h2, h3⟩
          · exact absurd h3 hs
          · exact ⟨h1, h2, h3⟩
/-- The bits of those that have come up. -/
structure LM (n m : Nat) (l : Array Bool) : Prop where
  size : l.size = n
  get : ∀ i, i < n → l[i]? = some (m.testBit i)
  out : ∀ i, n ≤ i → m.testBit i = false
theorem LM.start (n : Nat) : LM n 0 (Array.replicate n false) := ⟨by simp, fun i hi => by simp [hi], fun i hi => by simp⟩
theorem LM.set {n m : Nat} {l : Array Bool} (h : LM n m l) {i : Nat} (hi : i < n) : LM n (Nat.lor m (bit i)) (l.setIfInBounds i true) := by
  refine ⟨by simp [h.size], fun j hj => ?_, fun j hj => ?_⟩
  · rw [lor_test, bit_test]
    by_cases e : i = j
    · subst e; simp [h.size, hj]
    · rw [Array.getElem?_setIfInBounds_ne e, h.get j hj]; simp [e]
  · rw [lor_test, bit_test, h.out j hj]
    have : i ≠ j := by omega
    simp [this]
theorem LM.getT {n m : Nat} {l : Array Bool} (h : LM n m l) {i : Nat} (hi : i < n) : l.getD i true = m.testBit i := by
  rw [Array.getD_eq_getD_getElem?, h.get i hi]; rfl
theorem LM.getF {n m : Nat} {l : Array Bool} (h : LM n m l) (i : Nat) : l.getD i false = m.testBit i := by
  rw [Array.getD_eq_getD_getElem?]
  by_cases hi : i < n
  · rw [h.get i hi]; rfl
  · rw [h.out i (by omega), Array.getElem?_eq_none (by rw [h.size]; omega)]; rfl
theorem ready_of {ops : List Oper} {m : Nat} {l : Array Bool} (h : LM ops.length m l) {r : Rw} (hr : r ∈ readyR m (mkRows ops)) : r.i ∈ Region.ready .any ops.toArray l := by
  obtain ⟨h1, h2, h3⟩ := readyR_iff.1 hr
  have ok := mkRows_ok h1
  have hlt : r.i < ops.length := by
    have := (Array.getElem?_eq_some_iff.1 ok.o).1
    simpa using this
  refine mem_ready.2 ⟨by rw [h.getT hlt]; exact h2, r.o, ok.o, fun e he hb => ?_⟩
  rw [h.getF]
  exact (sub_iff _ _).1 h3 _ ((ok.dep _).2 ⟨e, he, hb, rfl⟩)
theorem ready_has {ops : List Oper} {m : Nat} {l : Array Bool} (h : LM ops.length m l) {i : Nat} (hi : i ∈ Region.ready .any ops.toArray l) : ∃ r ∈ readyR m (mkRows ops), r.i = i := by
  obtain ⟨h1, o, h2, h3⟩ := mem_ready.1 hi
  obtain ⟨r, hr, e⟩ := mkRows_all h2
  have ok := mkRows_ok hr
  have hlt : i < ops.length := by
    have := (Array.getElem?_eq_some_iff.1 h2).1
    simpa using this
  have eo : r.o = o := by
    have := ok.o
    rw [e, h2] at this
    exact (Option.some.inj this).symm
  refine ⟨r, readyR_iff.2 ⟨hr, by rw [e, ← h.getT hlt]; exact h1, (sub_iff _ _).2 fun k hk => ?_⟩, e⟩
  obtain ⟨e', he, hb, rfl⟩ := (ok.dep k).1 hk
  rw [← h.getF]
  exact h3 e' (by rw [← eo]; exact he) hb
theorem free_of {ops : List Oper} {m : Nat} {l : Array Bool} (h : LM ops.length m l) {r : Rw} (ok : RwOk ops r) (hc : sub m r.conf = true) :
    ∀ (j : Nat) (oj : Oper), ops.toArray[j]? = some oj → j ≠ r.i → l.getD j true = false → (∀ e ∈ oj.after, Region.binds .any e = true → e.on ≠ r.i) → r.o.apart ops.toArray oj = true := by
  intro j oj hj hne hl hw
  have hlt : j < ops.length := by
    have := (Array.getElem?_eq_some_iff.1 hj).1
    simpa using this
  refine ok.conf j oj hj hne ?_ hw
  cases hb : r.conf.testBit j with
  | false => rfl
  | true =>
    have := (sub_iff _ _).1 hc j hb
    rw [h.getT hlt, this] at hl
    cases hl
theorem stab_of {ops : List Oper} {m : Nat} {l : Array Bool} (h : LM ops.length m l) {r : Rw} (ok : RwOk ops r) (hc : sub m r.look = true) {j : Nat} {oj : Oper} (hj : ops.toArray[j]? = some oj) (hl : m.testBit j = false) : ∀ d, oj.dst = some d → d ∉ r.o.looksAt ops.toArray := by
  refine ok.look j oj hj ?_
  cases hb : r.look.testBit j with
  | false => rfl
  | true => rw [(sub_iff _ _).1 hc j hb] at hl; cases hl
/-- Rows laid open. -/
def frcGs {R : Type} (g : Option (Option Nat × Bool)) (k : Option (Option Nat × Bool) → R) : R :=
  match g with
  | none => k none
  | some (none, true) => k (some (none, true))
  | some (none, false) => k (some (none, false))
  | some (some d, true) => k (some (some d, true))
  | some (some d, false) => k (some (some d, false))
def frcRw {R : Type} : List Rw → (List Rw → R) → R
  | [], k => k []
  | ⟨i, o, g, a, b, c⟩ :: r, k => frcN i fun i => frcGs g fun g => frcN a fun a => frcN b fun b => frcN c fun c => frcRw r fun r => k (⟨i, o, g, a, b, c⟩ :: r)
theorem frcGs_eq {R : Type} (g : Option (Option Nat × Bool)) (k : Option (Option Nat × Bool) → R) : frcGs g k = k g := by
  unfold frcGs; split <;> rfl
theorem frcRw_eq {R : Type} : ∀ (l : List Rw) (k : List Rw → R), frcRw l k = k l
  | [], k => rfl
  | ⟨i, o, g, a, b, c⟩ :: r, k => by unfold frcRw; rw [frcN_eq, frcGs_eq, frcN_eq, frcN_eq, frcN_eq, frcRw_eq r]
end Go.Proofs.Ytmmpnjcmaodkcaa.Ef
/- What is proved: what the second evaluator finds of regions, in any order, holds. Conditions: the evaluator's own premises. -/
namespace Go.Proofs.Ytmmpnjcmaodkcaa.Ef
open Go Go.Proofs.Ytmmpnjcmaodkcaa.Sep
open Go.Proofs.Ytmmpnjcmaodkcaa.Ev (Fast tyAgg tySize run_underlying' run_isAgg' run_sizeOf' run_zeroValue')
set_option linter.unusedVariables false
set_option linter.unusedSimpArgs false
set_option linter.unusedSectionVars false
/-! ### names of a pattern are below its number -/
def bltAll (n : Nat) : List (Nat × Nat) → Bool
  | [] => true
  | (a, _) :: r => bif Nat.blt a n then bltAll n r else false
def SC.wfB (n : Nat) : SC → Bool
  | .ptr nm _ => Nat.blt nm n
  | .ptrR nm _ _ _ _ => Nat.blt nm n
  | .slice nm _ _ _ => Nat.blt nm n
  | .sliceQ nm _ _ _ => Nat.blt nm n
  | .func _ a c => bif bltAll n a then bltAll n c else false
  | _ => true
def lwfB (n : Nat) : List SC → Bool
  | [] => true
  | c :: r => bif c.wfB n then lwfB n r else false
def nsB (n : Nat) : List Nat → Bool
  | [] => true
  | c :: r => bif Nat.blt c n then nsB n r else false
def oB (n : Nat) (o : SO) : Bool :=
  match o with
  | .cells l _ => lwfB n l
  | .abs _ _ ns => nsB n ns
def hwfB (n : Nat) : SH → Bool
  | [] => true
  | (m, o) :: r => bif Nat.blt m n then (bif oB n o then hwfB n r else false) else false
def vB (n : Nat) (v : SV) : Bool :=
  match v with
  | .a (.one c) => c.wfB n
  | .a (.agg l) => lwfB n l
  | _ => false
def vwfB (n : Nat) : List (Nat × SV) → Bool
  | [] => true
  | (_, v) :: r => bif vB n v then vwfB n r else false
theorem bltAll_ok {n : Nat} : ∀ {l : List (Nat × Nat)}, bltAll n l = true → ∀ p ∈ l, p.1 < n
  | [], _, p, hp => by cases hp
  | (a, b) :: r, h, p, hp => by
    unfold bltAll at h
    rw [Bool.cond_eq_ite] at h
    split at h
    · rename_i hc
      rcases List.mem_cons.1 hp with rfl | hp
      · exact Nat.le_of_ble_eq_true hc
      · exact bltAll_ok h p hp
    · cases h
theorem SC.wfB_ok {n : Nat} {c : SC} (h : c.wfB n = true) : c.wf n := by
  cases c <;> simp only [SC.wfB] at h <;> first
    | trivial
    | exact Nat.le_of_ble_eq_true h
    | (rw [Bool.cond_eq_ite] at h
       split at h
       · rename_i hc; exact ⟨bltAll_ok hc, bltAll_ok h⟩
       · cases h)
theorem lwfB_ok {n : Nat} : ∀ {l : List SC}, lwfB n l = true → lwf n l
  | [], _ => fun c hc => (by cases hc)
  | a :: r, h => by
    unfold lwfB at h
    rw [Bool.cond_eq_ite] at h
    split at h
    · rename_i ha
      intro c hc
      rcases List.mem_cons.1 hc with rfl | hc
      · exact SC.wfB_ok ha
      · exact lwfB_ok h c hc
    · cases h
theorem nsB_ok {n : Nat} : ∀ {l : List Nat}, nsB n l = true → ∀ m ∈ l, m < n
  | [], _, m, hm => by cases hm
  | a :: r, h, m, hm => by
    unfold nsB at h
    rw [Bool.cond_eq_ite] at h
    split at h
    · rename_i ha
      rcases List.mem_cons.1 hm with rfl | hm
      · exact Nat.le_of_ble_eq_true ha
      · exact nsB_ok h m hm
    · cases h
theorem hwfB_ok {n : Nat} : ∀ {H : SH}, hwfB n H = true → hwf n H
  | [], _ => fun q hq => (by cases hq)
  | (m, o) :: r, h => by
    unfold hwfB at h
    rw [Bool.cond_eq_ite] at h
    split at h
    · rename_i hm
      rw [Bool.cond_eq_ite] at h
      split at h
      · rename_i ho
        intro q hq
        rcases List.mem_cons.1 hq with rfl | hq
        · refine ⟨Nat.le_of_ble_eq_true hm, ?_⟩
          cases o with
          | cells l T => exact lwfB_ok ho
          | abs k x ns => exact nsB_ok ho
        · exact hwfB_ok h q hq
      · cases h
    · cases h
theorem vwfB_ok {n : Nat} : ∀ {l : List (Nat × SV)}, vwfB n l = true → ∀ q ∈ l, q.2.wf n ∧ q.2.isTop = false
  | [], _, q, hq => by cases hq
  | (i, v) :: r, h, q, hq => by
    unfold vwfB at h
    rw [Bool.cond_eq_ite] at h
    split at h
    · rename_i hv
      rcases List.mem_cons.1 hq with rfl | hq
      · unfold vB at hv
        split at hv
        · exact ⟨SC.wfB_ok hv, rfl⟩
        · exact ⟨lwfB_ok hv, rfl⟩
        · cases hv
      · exact vwfB_ok h q hq
    · cases h
inductive Gd where
  | yes | no | bad
  | fork (c : Tm) (want : Bool)
section
variable [Interp] [Rules]
def gd (π : Pi) (ops : List Oper) (fr : Frm) : Option (Nat × Bool) → Gd
  | none => .yes
  | some (j, want) =>
    match ops[j]? with
    | some o =>
      match o.dst with
      | some d =>
        match fr.get d with
        | .a (.one (.bool c)) =>
          match dec π c with
          | some b => bif boolBeq b want then .yes else .no
          | none => .fork c want
        | .a (.one (.raw _)) => .bad
        | .a (.one (.any _)) => .bad
        | .top => .bad
        | _ => .no
      | none => .no
    | none => .no
def evList (P : Program) [Fast P] [Ab P] (call : Caller) (ops : List Oper) : List Oper → Frm → St → Tree (Frm × St)
  | [], fr, s => .done (fr, s)
  | o :: rest, fr, s =>
    match gd s.pi ops fr o.guard with
    | .yes => (evOp P call o fr s).bind fun r => match r with
      | (v, s) => frcV v fun v => putK fr o.dst v fun fr => evList P call ops rest fr s
    | .no => putK fr o.dst .un fun fr => evList P call ops rest fr s
    | .fork c want => br c s.pi fun π b =>
      bif boolBeq b want then (evOp P call o fr ⟨π, s.H, s.n⟩).bind fun r => match r with
        | (v, s) => frcV v fun v => putK fr o.dst v fun fr => evList P call ops rest fr s
      else putK fr o.dst .un fun fr => evList P call ops rest fr ⟨π, s.H, s.n⟩
    | .bad => .fail 22
variable [Vars]
theorem boolBeq_iff (a b : Bool) : boolBeq a b = (a == b) := by cases a <;> cases b <;> rfl
theorem yielded_is {n : Nat} {β : Bl} {fr : Frm} {a : Act} (hf : FrIs n β fr a.tmps) (ops : List Oper) (j : Nat) {o : Oper} {d : Nat} (ho : ops[j]? = some o) (hd : o.dst = some d) (ht : (fr.get d).isTop = false) :
    yielded ops.toArray a.tmps j = match (fr.get d).den β with | .bool b => some b | _ => none := by
  unfold yielded
  rcases hf.get? d ht with h | ⟨h1, h2⟩
  · simp only [List.getElem?_toArray, ho, Option.bind_some, hd, h]
    cases (fr.get d).den β <;> rfl
  · simp only [List.getElem?_toArray, ho, Option.bind_some, hd, h1, h2]
    rfl
theorem gd_spec {π : Pi} (hπ : facts π) {n : Nat} {β : Bl} {fr : Frm} {a : Act} (hf : FrIs n β fr a.tmps) {ops : List Oper} {o : Oper} :
    (gd π ops fr o.guard = .yes → Region.wanted o (yielded ops.toArray a.tmps) = true) ∧ (gd π ops fr o.guard = .no → Region.wanted o (yielded ops.toArray a.tmps) = false) ∧
    ∀ c want, gd π ops fr o.guard = .fork c want → Region.wanted o (yielded ops.toArray a.tmps) = boolBeq c.tv want := by
  unfold Region.wanted gd
  cases hg : o.guard with
  | none => simp
  | some q =>
    obtain ⟨j, want⟩ := q
    simp only
    cases ho : ops[j]? with
    | none => simp [yielded, ho]
    | some oj =>
      simp only
      cases hd : oj.dst with
      | none => simp [yielded, ho, hd]
      | some d =>
        simp only
        cases hv : fr.get d with
        | top => simp
        | tup l =>
          rw [yielded_is hf ops j ho hd (by rw [hv]; rfl), hv]
          simp [SV.den]
        | a x =>
          rw [yielded_is hf ops j ho hd (by rw [hv]; rfl), hv]
          cases x with
          | agg l => simp [SV.den, SA.den]
          | one c =>
            cases c <;> simp [SV.den, SA.den, SC.den]
            case bool t =>
              cases hc : dec π t with
              | none => simp [boolBeq_iff]; intro c; exact ⟨fun h1 h2 => by subst h1 h2; simp, fun h1 h2 => by subst h1 h2; simp⟩
              | some b =>
                have := dec_ok hπ hc
                simp only [this, boolBeq_iff]
                cases b <;> cases want <;> simp
theorem put_defers (a : Act) (d : Option Tmp) (v : Value) : (a.put d v).defers = a.defers := by cases d <;> rfl
theorem Out.pi {β : Bl} {s : St} {w : World} {R : HProp} (h : At β s w R) {π : Pi} (hπ : facts π) : Out β s w R β ⟨π, s.H, s.n⟩ w := ⟨Ag.refl _ _, Nat.le_refl _, ⟨hπ, h.wf, h.hold⟩, Strm.refl w⟩
theorem un_wf (n : Nat) : SV.un.wf n := fun x hx => (by cases hx)
theorem evList_ok {P : Program} [Fast P] [Ab P] [AbOk P] (hn : NoGos P) {call : Caller} (hcall : CallerOk P call) {ops : List Oper} {L : Bl → Frm × St → Prop} {R : HProp} {Q : Exit → Act → World → Prop} :
    ∀ (l : List Oper) (fr : Frm) (s : St) (β : Bl) (a : Act) (w : World), (evList P call ops l fr s).Leads L β → FrIs s.n β fr a.tmps → a.defers = [] → At β s w R →
      (∀ β' fr' s' a' w', L β' (fr', s') → FrIs s'.n β' fr' a'.tmps → a'.defers = [] → Out β s w R β' s' w' → Q .normal a' w') → wpList P ops.toArray Q l a w
  | [], fr, s, β, a, w, hl, hf, hd, hw, hk => hk β fr s a w hl hf hd (Out.refl hw)
  | o :: rest, fr, s, β, a, w, hl, hf, hd, hw, hk => by
    have yes : ∀ (s1 : St), Out β s w R β s1 w → Region.wanted o (yielded ops.toArray a.tmps) = true → ((evOp P call o fr s1).bind fun r => match r with
      | (v, s) => frcV v fun v => putK fr o.dst v fun fr => evList P call ops rest fr s).Leads L β → wpList P ops.toArray Q (o :: rest) a w := by
      intro s1 h1 hwant hl
      unfold wpList
      rw [if_pos hwant]
      left
      refine evOp_ok hn hcall (bind_leads hl) (hf.mono h1.n h1.ag) h1.at_ fun β' v s' w' k1 k2 k3 k4 => ?_
      simp only [frcV_eq, putK_eq] at k1
      refine evList_ok hn hcall rest _ s' β' _ w' k1 (((hf.mono h1.n h1.ag).mono k4.n k4.ag).put o.dst k2 (.inr rfl)) (by rw [put_defers]; exact hd) k4.at_ fun β'' fr' s'' a' w'' j1 j2 j3 j4 => ?_
      exact hk β'' fr' s'' a' w'' j1 j2 j3 (h1.trans (k4.trans j4))
    have no : ∀ (s1 : St), Out β s w R β s1 w → Region.wanted o (yielded ops.toArray a.tmps) = false → (putK fr o.dst .un fun fr => evList P call ops rest fr s1).Leads L β → wpList P ops.toArray Q (o :: rest) a w := by
      intro s1 h1 hwant hl
      unfold wpList
      rw [if_neg (by rw [hwant]; simp)]
      rw [putK_eq] at hl
      refine evList_ok hn hcall rest _ s1 β _ w hl ((hf.mono h1.n h1.ag).put o.dst (un_wf _) (.inr (un_den β).symm)) (by rw [put_defers]; exact hd) h1.at_ fun β'' fr' s'' a' w'' j1 j2 j3 j4 => ?_
      exact hk β'' fr' s'' a' w'' j1 j2 j3 (h1.trans j4)
    unfold evList at hl
    obtain ⟨g1, g2, g3⟩ := gd_spec hw.pi hf (ops := ops) (o := o)
    split at hl
    · rename_i hg; exact yes s (Out.refl hw) (g1 hg) hl
    · rename_i hg; exact no s (Out.refl hw) (g2 hg) hl
    · rename_i c want hg
      obtain ⟨π', h1, h2⟩ := br_leads hl hw.pi
      have h3 := g3 c want hg
      cases hb : boolBeq c.tv want with
      | true => rw [hb] at h2 h3; exact yes _ (Out.pi hw h1) h3 h2
      | false => rw [hb] at h2 h3; exact no _ (Out.pi hw h1) h3 h2
    · exact hl.elim
end
/-! ### a region in any order: cells that nobody of it writes are held -/
def prBeq : List (Nat × Nat) → List (Nat × Nat) → Bool
  | [], [] => true
  | (a, b) :: r, (c, d) :: s => bif Nat.beq a c && Nat.beq b d then prBeq r s else false
  | _, _ => false
theorem prBeq_eq : ∀ {r s : List (Nat × Nat)}, prBeq r s = true → r = s
  | [], [], _ => rfl
  | [], _ :: _, h => by cases h
  | _ :: _, [], h => by cases h
  | (a, b) :: r, (c, d) :: s, h => by
    unfold prBeq at h
    rw [Bool.cond_eq_ite] at h
    split at h
    · rename_i hc
      rw [Bool.and_eq_true] at hc
      rw [Nat.eq_of_beq_eq_true hc.1, Nat.eq_of_beq_eq_true hc.2, prBeq_eq h]
    · cases h
def SC.beq : SC → SC → Bool
  | .int k t, .int j u => bif sameK k j then Tm.beq t u else false
  | .bool t, .bool u => Tm.beq t u
  | .ptr n o, .ptr m p => bif Nat.beq n m then Nat.beq o p else false
  | .ptrR n b t st o, .ptrR m c u su p => bif Nat.beq n m && (Nat.beq st su && Nat.beq o p) then (bif Tm.beq b c then Tm.beq t u else false) else false
  | .nil, .nil => true
  | .slice n o l c, .slice m p k d => bif Nat.beq n m && Nat.beq o p then (bif Tm.beq l k then Tm.beq c d else false) else false
  | .sliceQ n o l c, .sliceQ m p k d => bif Nat.beq n m then (bif Tm.beq o p then (bif Tm.beq l k then Tm.beq c d else false) else false) else false
  | .snil, .snil => true
  | .func f a c, .func g b d => bif Nat.beq f g then (bif prBeq a b then prBeq c d else false) else false
  | .nilF, .nilF => true
  | .any i, .any j => Nat.beq i j
  | _, _ => false
theorem SC.beq_eq {c d : SC} (h : SC.beq c d = true) : c = d := by
  cases c <;> cases d <;> simp only [SC.beq] at h <;> first
    | rfl
    | (cases h; done)
    | (rw [Tm.beq_eq h])
    | (rw [Nat.eq_of_beq_eq_true h])
    | (rw [Bool.cond_eq_ite] at h
       split at h
       · rename_i hc
         first
           | (rw [kCode_inj hc, Tm.beq_eq h])
           | (rw [Nat.eq_of_beq_eq_true hc, Nat.eq_of_beq_eq_true h])
           | (rw [Bool.and_eq_true, Bool.and_eq_true] at hc
              rw [Bool.cond_eq_ite] at h
              split at h
              · rename_i hl
                rw [Nat.eq_of_beq_eq_true hc.1, Nat.eq_of_beq_eq_true hc.2.1, Nat.eq_of_beq_eq_true hc.2.2, Tm.beq_eq hl, Tm.beq_eq h]
              · cases h)
           | (rw [Bool.and_eq_true] at hc
              rw [Bool.cond_eq_ite] at h
              split at h
              · rename_i hl
                rw [Nat.eq_of_beq_eq_true hc.1, Nat.eq_of_beq_eq_true hc.2, Tm.beq_eq hl, Tm.beq_eq h]
              · cases h)
           | (rw [Bool.cond_eq_ite] at h
              split at h
              · rename_i hl
                rw [Nat.eq_of_beq_eq_true hc, prBeq_eq hl, prBeq_eq h]
              · cases h)
           | (rw [Bool.cond_eq_ite] at h
              split at h
              · rename_i hl
                rw [Bool.cond_eq_ite] at h
                split at h
                · rename_i h3
                  rw [Nat.eq_of_beq_eq_true hc, Tm.beq_eq hl, Tm.beq_eq h3, Tm.beq_eq h]
                · cases h
              · cases h)
       · cases h)
abbrev Held := List (Nat × Nat × SC)
def Held.wf (n : Nat) (S : Held) : Prop := ∀ x ∈ S, x.1 < n ∧ x.2.2.wf n
def heldB (H : SH) : Held → Bool
  | [] => true
  | (nm, off, c) :: r =>
    match find H nm with
    | some (.cells l _) =>
      match l[off]? with
      | some c' => bif SC.beq c' c then heldB H r else false
      | none => false
    | _ => false
def lookS : Held → Nat → Nat → Option SC
  | [], _, _ => none
  | (nm, off, c) :: r, m, o => bif Nat.beq nm m && Nat.beq off o then some c else lookS r m o
theorem lookS_mem : ∀ {S : Held} {m o : Nat} {c : SC}, lookS S m o = some c → (m, o, c) ∈ S
  | [], _, _, _, h => by simp [lookS] at h
  | (nm, off, c') :: r, m, o, c, h => by
    unfold lookS at h
    cases hc : (Nat.beq nm m && Nat.beq off o) with
    | true =>
      rw [hc] at h
      simp at h
      subst h
      rw [Bool.and_eq_true] at hc
      rw [Nat.eq_of_beq_eq_true hc.1, Nat.eq_of_beq_eq_true hc.2]
      exact List.mem_cons_self ..
    | false => rw [hc] at h; exact List.mem_cons_of_mem _ (lookS_mem h)
def looksS (S : Held) (m : Nat) : Nat → Nat → Option (List SC)
  | _, 0 => some []
  | o, n + 1 =>
    match lookS S m o, looksS S m (o + 1) n with
    | some c, some l => some (c :: l)
    | _, _ => none
theorem looksS_wf {S : Held} {k m : Nat} (hS : S.wf k) : ∀ (n o : Nat) (l : List SC), looksS S m o n = some l → lwf k l
  | 0, o, l, h => by simp [looksS] at h; subst h; intro c hc; cases hc
  | n + 1, o, l, h => by
    unfold looksS at h
    split at h
    · rename_i c l' h1 h2
      simp at h; subst h
      intro d hd
      rcases List.mem_cons.1 hd with rfl | hd
      · exact (hS _ (lookS_mem h1)).2
      · exact looksS_wf hS n (o + 1) l' h2 d hd
    · cases h
def loadH (P : Program) [Fast P] (S : Held) (t : TypeId) (x : SV) : Option SV :=
  match x with
  | .a (.one (.ptr nm off)) =>
    match tyAgg P t, tySize P t with
    | some true, some n => match looksS S nm off n with
      | some l => some (.a (.agg l))
      | none => none
    | some false, _ => match lookS S nm off with
      | some c => some (.c c)
      | none => none
    | _, _ => none
  | _ => none
theorem loadH_wf {P : Program} [Fast P] {S : Held} {t : TypeId} {x v : SV} (h : loadH P S t x = some v) {n : Nat} (hS : S.wf n) : v.wf n ∧ v.isTop = false := by
  unfold loadH at h
  split at h
  · split at h
    · split at h
      · rename_i hl; simp at h; subst h; exact ⟨looksS_wf hS _ _ _ hl, rfl⟩
      · cases h
    · split at h
      · rename_i hl; simp at h; subst h; exact ⟨(hS _ (lookS_mem hl)).2, rfl⟩
      · cases h
    · cases h
  · cases h
section
variable [Interp] [Rules]
/-- An operation that may be taken first. -/
def quiet (P : Program) [Fast P] (π : Pi) (ops : List Oper) (S : Held) (fr : Frm) (o : Oper) : Option (List Tm × SV) :=
  match gd π ops fr o.guard with
  | .no => some ([], .un)
  | .yes =>
    match pureOp P π fr o with
    | some r => some r
    | none =>
      match o.op with
      | .load t x => match loadH P S t (opnd fr x) with
        | some v => some ([], v)
        | none => none
      | _ => none
  | _ => none
def saEq : SA → SA → Bool
  | .one c, .one d => SC.beq c d
  | .agg l, .agg m => scsEq l m
  | _, _ => false
where scsEq : List SC → List SC → Bool
  | [], [] => true
  | x :: r, y :: s => bif SC.beq x y then scsEq r s else false
  | _, _ => false
def sasEq : List SA → List SA → Bool
  | [], [] => true
  | x :: r, y :: s => bif saEq x y then sasEq r s else false
  | _, _ => false
def svEq : SV → SV → Bool
  | .a x, .a y => saEq x y
  | .tup l, .tup m => sasEq l m
  | .top, .top => true
  | _, _ => false
def frEq : Fr → Fr → Bool
  | .e, .e => true
  | .n v l r, .n v' l' r' => bif svEq v v' then (bif frEq l l' then frEq r r' else false) else false
  | _, _ => false
def nmEq : List Nat → List Nat → Bool
  | [], [] => true
  | a :: r, b :: s => bif Nat.beq a b then nmEq r s else false
  | _, _ => false
def soEq : SO → SO → Bool
  | .cells l T, .cells m U => bif Nat.beq T U then saEq.scsEq l m else false
  | .abs k x ns, .abs j y ms => bif Nat.beq k j then (bif Tm.beq x y then nmEq ns ms else false) else false
  | _, _ => false
def shEq : SH → SH → Bool
  | [], [] => true
  | (n, o) :: r, (m, q) :: s => bif Nat.beq n m then (bif soEq o q then shEq r s else false) else false
  | _, _ => false
def piEq : Pi → Pi → Bool
  | [], [] => true
  | (t, b) :: r, (u, c) :: s => bif boolBeq b c then (bif Tm.beq t u then piEq r s else false) else false
  | _, _ => false
def fsEq (a b : Frm × St) : Bool :=
  bif Nat.beq a.1.sz b.1.sz then (bif Nat.beq a.2.n b.2.n then (bif frEq a.1.t b.1.t then (bif shEq a.2.H b.2.H then piEq a.2.pi b.2.pi else false) else false) else false) else false
theorem scsEq_eq : ∀ {l m : List SC}, saEq.scsEq l m = true → l = m
  | [], [], _ => rfl
  | [], _ :: _, h => by cases h
  | _ :: _, [], h => by cases h
  | x :: r, y :: s, h => by
    unfold saEq.scsEq at h
    rw [Bool.cond_eq_ite] at h
    split at h
    · rename_i hc; rw [SC.beq_eq hc, scsEq_eq h]
    · cases h
theorem saEq_eq {x y : SA} (h : saEq x y = true) : x = y := by
  unfold saEq at h
  split at h
  · rw [SC.beq_eq h]
  · rw [scsEq_eq h]
  · cases h
theorem sasEq_eq : ∀ {l m : List SA}, sasEq l m = true → l = m
  | [], [], _ => rfl
  | [], _ :: _, h => by cases h
  | _ :: _, [], h => by cases h
  | x :: r, y :: s, h => by
    unfold sasEq at h
    rw [Bool.cond_eq_ite] at h
    split at h
    · rename_i hc; rw [saEq_eq hc, sasEq_eq h]
    · cases h
theorem svEq_eq {x y : SV} (h : svEq x y = true) : x = y := by
  unfold svEq at h
  split at h
  · rw [saEq_eq h]
  · rw [sasEq_eq h]
  · rfl
  · cases h
theorem frEq_eq : ∀ {f g : Fr}, frEq f g = true → f = g
  | .e, .e, _ => rfl
  | .e, .n _ _ _, h => by cases h
  | .n _ _ _, .e, h => by cases h
  | .n v l r, .n v' l' r', h => by
    unfold frEq at h
    rw [Bool.cond_eq_ite] at h
    split at h
    · rename_i h1
      rw [Bool.cond_eq_ite] at h
      split at h
      · rename_i h2
        rw [svEq_eq h1, frEq_eq h2, frEq_eq h]
      · cases h
    · cases h
theorem nmEq_eq : ∀ {r s : List Nat}, nmEq r s = true → r = s
  | [], [], _ => rfl
  | [], _ :: _, h => by cases h
  | _ :: _, [], h => by cases h
  | a :: r, b :: s, h => by
    unfold nmEq at h
    rw [Bool.cond_eq_ite] at h
    split at h
    · rename_i hc; rw [Nat.eq_of_beq_eq_true hc, nmEq_eq h]
    · cases h
theorem soEq_eq {x y : SO} (h : soEq x y = true) : x = y := by
  unfold soEq at h
  split at h
  · rw [Bool.cond_eq_ite] at h
    split at h
    · rename_i h1; rw [Nat.eq_of_beq_eq_true h1, scsEq_eq h]
    · cases h
  · rw [Bool.cond_eq_ite] at h
    split at h
    · rename_i h1
      rw [Bool.cond_eq_ite] at h
      split at h
      · rename_i h2; rw [Nat.eq_of_beq_eq_true h1, Tm.beq_eq h2, nmEq_eq h]
      · cases h
    · cases h
  · cases h
theorem shEq_eq : ∀ {r s : SH}, shEq r s = true → r = s
  | [], [], _ => rfl
  | [], _ :: _, h => by cases h
  | _ :: _, [], h => by cases h
  | (n, o) :: r, (m, q) :: s, h => by
    unfold shEq at h
    rw [Bool.cond_eq_ite] at h
    split at h
    · rename_i h1
      rw [Bool.cond_eq_ite] at h
      split at h
      · rename_i h2; rw [Nat.eq_of_beq_eq_true h1, soEq_eq h2, shEq_eq h]
      · cases h
    · cases h
theorem piEq_eq : ∀ {r s : Pi}, piEq r s = true → r = s
  | [], [], _ => rfl
  | [], _ :: _, h => by cases h
  | _ :: _, [], h => by cases h
  | (n, o) :: r, (m, q) :: s, h => by
    unfold piEq at h
    rw [Bool.cond_eq_ite] at h
    split at h
    · rename_i h1
      rw [Bool.cond_eq_ite] at h
      split at h
      · rename_i h2; rw [boolBeq_eq h1, Tm.beq_eq h2, piEq_eq h]
      · cases h
    · cases h
theorem fsEq_eq {a b : Frm × St} (h : fsEq a b = true) : a = b := by
  unfold fsEq at h
  rw [Bool.cond_eq_ite] at h
  split at h
  · rename_i h1
    rw [Bool.cond_eq_ite] at h
    split at h
    · rename_i h2
      rw [Bool.cond_eq_ite] at h
      split at h
      · rename_i h3
        rw [Bool.cond_eq_ite] at h
        split at h
        · rename_i h4
          obtain ⟨⟨z, t⟩, ⟨p, H, n⟩⟩ := a
          obtain ⟨⟨z', t'⟩, ⟨p', H', n'⟩⟩ := b
          simp only at h1 h2 h3 h4 h
          rw [Nat.eq_of_beq_eq_true h1, Nat.eq_of_beq_eq_true h2, frEq_eq h3, shEq_eq h4, piEq_eq h]
        · cases h
      · cases h
    · cases h
  · cases h
def trEq : Tree (Frm × St) → Tree (Frm × St) → Bool
  | .done x, .done y => fsEq x y
  | .ite c a b, .ite d p q => bif Tm.beq c d then (bif trEq a p then trEq b q else false) else false
  | .new n t, .new m u => bif Nat.beq n m then trEq t u else false
  | .both a b, .both p q => bif trEq a p then trEq b q else false
  | _, _ => false
theorem trEq_eq : ∀ {s t : Tree (Frm × St)}, trEq s t = true → s = t
  | .done x, t, h => by
    cases t <;> first | (exact congrArg _ (fsEq_eq h)) | cases h
  | .ite c a b, t, h => by
    cases t <;> first
      | (unfold trEq at h
         rw [Bool.cond_eq_ite] at h
         split at h
         · rename_i h1
           rw [Bool.cond_eq_ite] at h
           split at h
           · rename_i h2
             rw [Tm.beq_eq h1, trEq_eq h2, trEq_eq h]
           · cases h
         · cases h)
      | cases h
  | .new n a, t, h => by
    cases t <;> first
      | (unfold trEq at h
         rw [Bool.cond_eq_ite] at h
         split at h
         · rename_i h1
           rw [Nat.eq_of_beq_eq_true h1, trEq_eq h]
         · cases h)
      | cases h
  | .both a b, t, h => by
    cases t <;> first
      | (unfold trEq at h
         rw [Bool.cond_eq_ite] at h
         split at h
         · rename_i h1
           rw [trEq_eq h1, trEq_eq h]
         · cases h)
      | cases h
  | .fail _, t, h => by cases t <;> cases h
/-- Two orders; one if they come to the same. -/
def both1 (a b : Tree (Frm × St)) : Tree (Frm × St) := bif trEq a b then a else .both a b
def allT : List Rw → (Rw → Tree (Frm × St)) → Tree (Frm × St)
  | [], _ => .fail 23
  | [i], t => t i
  | i :: r, t => both1 (t i) (allT r t)
abbrev Prom := List (Rw × SV)
def stEq (a b : St) : Bool := bif Nat.beq a.n b.n then (bif shEq a.H b.H then piEq a.pi b.pi else false) else false
def svB (n : Nat) (v : SV) : Bool :=
  match v with
  | .a (.one c) => c.wfB n
  | .a (.agg l) => lwfB n l
  | .tup [] => true
  | _ => false
/-- A row's guard. -/
def gdP (π : Pi) (fr : Frm) : Option (Option Nat × Bool) → Gd
  | none => .yes
  | some (none, _) => .no
  | some (some d, want) =>
    match fr.get d with
    | .a (.one (.bool c)) =>
      match dec π c with
      | some b => bif boolBeq b want then .yes else .no
      | none => .fork c want
    | .a (.one (.raw _)) => .bad
    | .a (.one (.any _)) => .bad
    | .top => .bad
    | _ => .no
theorem gdP_eq {π : Pi} {ops : List Oper} {fr : Frm} : ∀ g : Option (Nat × Bool), gdP π fr (gsl ops g) = gd π ops fr g
  | none => rfl
  | some (j, want) => by
    have e1 : gsl ops (some (j, want)) = match ops[j]? with | some o => some (o.dst, want) | none => some (none, want) := rfl
    cases h : ops[j]? with
    | none =>
      rw [h] at e1
      rw [e1]
      simp only [gd, h, gdP]
    | some o =>
      rw [h] at e1
      rw [e1]
      cases hd : o.dst with
      | none => simp only [gd, h, hd, gdP]
      | some d => simp only [gd, h, hd, gdP]
def quietR (P : Program) [Fast P] (π : Pi) (S : Held) (fr : Frm) (r : Rw) : Option (List Tm × SV) :=
  match gdP π fr r.gs with
  | .no => some ([], .un)
  | .yes =>
    match pureOp P π fr r.o with
    | some r => some r
    | none =>
      match r.o.op with
      | .load t x => match loadH P S t (opnd fr x) with
        | some v => some ([], v)
        | none => none
      | _ => none
  | _ => none
theorem quietR_eq {P : Program} [Fast P] {π : Pi} {ops : List Oper} {S : Held} {fr : Frm} {r : Rw} (ok : RwOk ops r) : quietR P π S fr r = quiet P π ops S fr r.o := by
  unfold quietR quiet
  rw [ok.gs, gdP_eq]
def pickQ (P : Program) [Fast P] (π : Pi) (S : Held) (m : Nat) (fr : Frm) : List Rw → Option (Rw × List Tm × SV)
  | [] => none
  | r :: t =>
    match quietR P π S fr r with
    | some (ps, v) => bif sub m r.conf then some (r, ps, v) else pickQ P π S m fr t
    | none => pickQ P π S m fr t
def pickF (π : Pi) (fr : Frm) : List Rw → Option Tm
  | [] => none
  | r :: t =>
    match gdP π fr r.gs with
    | .fork c _ => some c
    | _ => pickF π fr t
/-- An operation that gives a value and leaves all that is known as it is. -/
def calmV (P : Program) [Fast P] [Ab P] (call : Caller) (fr : Frm) (s : St) (r : Rw) : Option SV :=
  match gdP s.pi fr r.gs with
  | .yes =>
    match evOp P call r.o fr s with
    | .done (v, s') => bif stEq s' s then (bif svB s.n v then some v else none) else none
    | _ => none
  | _ => none
def keepD (P : Program) [Fast P] [Ab P] (call : Caller) (fr : Frm) (s : St) : Prom → Bool
  | [] => true
  | (o, v) :: r =>
    match calmV P call fr s o with
    | some u => bif svEq u v then keepD P call fr s r else false
    | none => false
/-- None of those that are promised looks at what number i writes. -/
def noLooks (i : Nat) : Prom → Bool
  | [] => true
  | (o, _) :: r => bif tb o.look i then false else noLooks i r
def pickC (P : Program) [Fast P] [Ab P] (call : Caller) (m : Nat) (fr : Frm) (s : St) : List Rw → Option (Rw × SV)
  | [] => none
  | r :: t =>
    bif sub m r.look && sub m r.conf then
      match calmV P call fr s r with
      | some v => some (r, v)
      | none => pickC P call m fr s t
    else pickC P call m fr s t
/-- A load that lays an object open: it is opened ahead of it. -/
def pickO (P : Program) [Fast P] [Ab P] (fr : Frm) (s : St) : List Rw → Option (Nat × SO)
  | [] => none
  | r :: rs =>
    match r.o.op with
    | .load t x =>
      match gdP s.pi fr r.gs with
      | .yes =>
        match loadV P s.pi t s.H (opnd fr x) with
        | some _ => pickO P fr s rs
        | none => match openV P t s.H s.n (opnd fr x) with
          | some (nm, o, _) => some (nm, o)
          | none => pickO P fr s rs
      | _ => pickO P fr s rs
    | _ => pickO P fr s rs
def single {α : Type} : List α → Bool
  | [_] => true
  | _ => false
def evAny (P : Program) [Fast P] [Ab P] (call : Caller) (rows : List Rw) (S : Held) : Prom → Nat → Nat → Nat → Frm → St → Tree (Frm × St)
  | _, 0, _, _, _, _ => .fail 24
  | D, g + 1, F, m, fr, s =>
    match readyR m rows with
    | [] => .done (fr, s)
    | r :: rs =>
      match F with
      | 0 => .fail 25
      | F + 1 =>
        match pickQ P s.pi S m fr (r :: rs) with
        | some (r, ps, v) => bif noLooks r.i D then needs s.pi ps (frcV v fun v => putK fr r.o.dst v fun fr => frcN (Nat.lor m (bit r.i)) fun m => evAny P call rows S D g F m fr s) else .fail 29
        | none =>
          match pickO P fr s (r :: rs) with
          | some (nm, o) => frcN s.n fun n => frcO o fun o => frcH (put s.H nm o) fun H => .new n (bif heldB H S && keepD P call fr ⟨s.pi, H, n + 1⟩ D then evAny P call rows S D g (F + 1) m fr ⟨s.pi, H, n + 1⟩ else .fail 30)
          | none =>
          match pickF s.pi fr (r :: rs) with
          | some c => br c s.pi fun π b => evAny P call rows S D g (F + 1) m fr ⟨π, s.H, s.n⟩
          | none =>
          match (bif single (r :: rs) then none else pickC P call m fr s (r :: rs)) with
          | some (r, v) => bif noLooks r.i D then frcV v fun v => putK fr r.o.dst v fun fr => frcN (Nat.lor m (bit r.i)) fun m => evAny P call rows S ((r, v) :: D) g F m fr s else .fail 29
          | none => allT (r :: rs) fun r =>
            match gdP s.pi fr r.gs with
            | .yes => (evOp P call r.o fr s).bind fun q => match q with
              | (v, s') => bif heldB s'.H S then frcV v fun v => putK fr r.o.dst v fun fr => bif keepD P call fr s' D then frcN (Nat.lor m (bit r.i)) fun m => evAny P call rows S D g F m fr s' else .fail 31 else .fail 26
            | _ => .fail 27
variable [Vars]
def heldS (S : Held) (β : Bl) (w : World) : Prop := ∀ x ∈ S, w.cell? ⟨β x.1, x.2.1, none⟩ = some (x.2.2.den β)
theorem heldS_ext {S : Held} {n : Nat} (hS : S.wf n) {β β' : Bl} (h : Ag n β β') {w : World} : heldS S β' w ↔ heldS S β w := by
  constructor
  · intro hh x hx
    have := hh x hx
    rw [h _ (hS x hx).1, SC.ext h (hS x hx).2] at this
    exact this
  · intro hh x hx
    rw [h _ (hS x hx).1, SC.ext h (hS x hx).2]
    exact hh x hx
theorem heldB_ok {β : Bl} {H : SH} {w : World} {R : HProp} (hw : Holds w (hden β H * R)) : ∀ (S : Held), heldB H S = true → heldS S β w
  | [], h => fun x hx => (by cases hx)
  | (nm, off, c) :: r, h => by
    unfold heldB at h
    split at h
    · rename_i l T hf
      split at h
      · rename_i c' hl
        rw [Bool.cond_eq_ite] at h
        split at h
        · rename_i hc
          have e := SC.beq_eq hc
          subst e
          have hw1 : Holds w (pt (β nm) (.cells (dens β l) T (0, 0)) * (hden β (del H nm) * R)) := focus hf hw
          intro x hx
          rcases List.mem_cons.1 hx with rfl | hx
          · show w.cell? ⟨β nm, off, none⟩ = some (c'.den β)
            rw [hw1.cells]
            simp [dens, hl]
          · exact heldB_ok hw r h x hx
        · cases h
      · cases h
    · cases h
theorem looksS_ok {S : Held} {β : Bl} {m : Nat} {w : World} (hS : heldS S β w) : ∀ (n o : Nat) (l : List SC), looksS S m o n = some l →
    l.length = n ∧ ∀ j c, l[j]? = some c → w.cell? ⟨β m, o + j, none⟩ = some (c.den β)
  | 0, o, l, h => by
    simp [looksS] at h
    subst h
    exact ⟨rfl, fun j c hj => by simp at hj⟩
  | n + 1, o, l, h => by
    unfold looksS at h
    split at h
    · rename_i c l' h1 h2
      simp at h
      subst h
      obtain ⟨g1, g2⟩ := looksS_ok hS n (o + 1) l' h2
      refine ⟨by simp [g1], fun j c' hj => ?_⟩
      cases j with
      | zero => simp at hj; subst hj; exact hS _ (lookS_mem h1)
      | succ j =>
        simp at hj
        have := g2 j c' hj
        rw [show o + (j + 1) = o + 1 + j by omega]; exact this
    · simp at h
theorem run_loadH {P : Program} [Fast P] {S : Held} {β : Bl} {t : TypeId} {x v : SV} (h : loadH P S t x = some v) {w : World} (hS : heldS S β w) :
    (Instr.loadAt t (x.den β)).run P w = .ok (v.den β) w := by
  unfold loadH at h
  split at h
  · rename_i nm off
    unfold Instr.loadAt
    simp only [SV.den, SA.den, SC.den, Instr.sureAddr, Sem.run_bind, Sem.run_pure, Result.andThen_ok]
    split at h
    · rename_i n ha hs
      split at h
      · rename_i l hl
        simp at h
        subst h
        obtain ⟨g1, g2⟩ := looksS_ok hS n off l hl
        refine run_loadVar_agg ha hs (l := l.map (SC.den β)) (by simp [g1]) fun j c hj => ?_
        rw [List.getElem?_map] at hj
        cases hlj : l[j]? with
        | none => rw [hlj] at hj; cases hj
        | some d => rw [hlj] at hj; simp at hj; subst hj; exact g2 j d hlj
      · cases h
    · rename_i ha
      split at h
      · rename_i c hl
        simp at h
        subst h
        exact run_loadVar_one ha (hS _ (lookS_mem hl))
      · cases h
    · simp at h
  · simp at h
theorem quiet_ok {P : Program} [Fast P] {π : Pi} (hπ : facts π) {n : Nat} {β : Bl} {fr : Frm} {a : Act} (hf : FrIs n β fr a.tmps) {ops : List Oper} {S : Held} {S0 : World → Prop} (h0 : ∀ w, S0 w → heldS S β w) {o : Oper} {ps : List Tm} {v : SV} (h : quiet P π ops S fr o = some (ps, v)) (hp : ∀ p ∈ ps, p.tv = true) :
    YieldsIf P ops.toArray S0 o (v.den β) a := by
  obtain ⟨g1, g2, g3⟩ := gd_spec hπ hf (ops := ops) (o := o)
  unfold quiet at h
  unfold YieldsIf
  split at h
  · rename_i hg
    simp at h
    obtain ⟨rfl, rfl⟩ := h
    exact .inr ⟨g2 hg, un_den β⟩
  · rename_i hg
    left
    refine ⟨g1 hg, fun w hS => ?_⟩
    split at h
    · rename_i r hr
      simp only [Option.some.injEq] at h
      subst h
      exact run_pureOp hπ hf hr hp w
    · split at h
      · rename_i t x ho
        split at h
        · rename_i u hu
          simp at h
          obtain ⟨rfl, rfl⟩ := h
          have hx : (opnd fr x).isTop = false := by
            unfold loadH at hu
            split at hu
            · rename_i e; rw [e]; rfl
            · cases hu
          have := run_loadH hu (h0 w hS)
          unfold execOp
          simp only [ho, opnd_den hf x hx, Sem.run_bind, this, Result.andThen_ok, Sem.run_pure]
        · cases h
      · simp at h
  · simp at h
theorem quiet_wf {P : Program} [Fast P] {π : Pi} {n : Nat} {β : Bl} {fr : Frm} {a : Array Value} (hf : FrIs n β fr a) {ops : List Oper} {S : Held} (hS : S.wf n) {o : Oper} {ps : List Tm} {v : SV} (h : quiet P π ops S fr o = some (ps, v)) : v.wf n ∧ v.isTop = false := by
  unfold quiet at h
  split at h
  · simp at h; obtain ⟨_, rfl⟩ := h; exact ⟨un_wf n, rfl⟩
  · split at h
    · rename_i r hr
      simp only [Option.some.injEq] at h
      subst h
      exact ⟨pureOp_wf hf hr, pureOp_notTop hr⟩
    · split at h
      · split at h
        · rename_i hu; simp at h; obtain ⟨_, rfl⟩ := h; exact loadH_wf hu hS
        · cases h
      · cases h
  · cases h
theorem pickQ_ok {P : Program} [Fast P] {π : Pi} {S : Held} {m : Nat} {fr : Frm} : ∀ {l : List Rw} {r : Rw} {ps : List Tm} {v : SV}, pickQ P π S m fr l = some (r, ps, v) →
    r ∈ l ∧ quietR P π S fr r = some (ps, v) ∧ sub m r.conf = true
  | [], _, _, _, h => by cases h
  | x :: t, r, ps, v, h => by
    unfold pickQ at h
    split at h
    · rename_i qs u hq
      rw [Bool.cond_eq_ite] at h
      split at h
      · rename_i hc; cases h; exact ⟨List.mem_cons_self .., hq, hc⟩
      · obtain ⟨a1, a2⟩ := pickQ_ok h; exact ⟨List.mem_cons_of_mem _ a1, a2⟩
    · obtain ⟨a1, a2⟩ := pickQ_ok h; exact ⟨List.mem_cons_of_mem _ a1, a2⟩
theorem both1_leads {L : Bl → Frm × St → Prop} {β : Bl} {a b : Tree (Frm × St)} (h : (both1 a b).Leads L β) : a.Leads L β ∧ b.Leads L β := by
  unfold both1 at h
  rw [Bool.cond_eq_ite] at h
  split at h
  · rename_i hc
    have e := trEq_eq hc
    subst e
    exact ⟨h, h⟩
  · exact h
theorem allT_leads {L : Bl → Frm × St → Prop} {β : Bl} {t : Rw → Tree (Frm × St)} : ∀ {l : List Rw}, (allT l t).Leads L β → ∀ i ∈ l, (t i).Leads L β
  | [], h, i, hi => by cases hi
  | [j], h, i, hi => by
    rcases List.mem_cons.1 hi with rfl | hi
    · exact h
    · cases hi
  | j :: j' :: r, h, i, hi => by
    obtain ⟨h1, h2⟩ := both1_leads h
    rcases List.mem_cons.1 hi with rfl | hi
    · exact h1
    · exact allT_leads h2 i hi
theorem stEq_eq {a b : St} (h : stEq a b = true) : a = b := by
  unfold stEq at h
  rw [Bool.cond_eq_ite] at h
  split at h
  · rename_i h1
    rw [Bool.cond_eq_ite] at h
    split at h
    · rename_i h2
      obtain ⟨p, H, n⟩ := a
      obtain ⟨p', H', n'⟩ := b
      simp only at h1 h2 h
      rw [Nat.eq_of_beq_eq_true h1, shEq_eq h2, piEq_eq h]
    · cases h
  · cases h
theorem svB_ok {n : Nat} {v : SV} (h : svB n v = true) : v.wf n ∧ v.isTop = false := by
  unfold svB at h
  split at h
  · exact ⟨SC.wfB_ok h, rfl⟩
  · exact ⟨lwfB_ok h, rfl⟩
  · exact ⟨fun x hx => (by cases hx), rfl⟩
  · cases h
/-- What is known of the world in a region. -/
def Reg (S : Held) (β0 : Bl) (R : HProp) (w00 : World) (β : Bl) (H : SH) : World → Prop := fun w => Holds w (hden β H * R) ∧ heldS S β0 w ∧ Strm w00 w
theorem calmV_ok {P : Program} [Fast P] [Ab P] [AbOk P] (hn : NoGos P) {call : Caller} (hcall : CallerOk P call) {ops : List Oper} {S : Held} {n0 : Nat} (hS0 : S.wf n0) {β0 β : Bl} {fr : Frm} {s : St} {r : Rw} (ok : RwOk ops r) {v : SV} (h : calmV P call fr s r = some v)
    {a : Act} (hf : FrIs s.n β fr a.tmps) (hπ : facts s.pi) (hwf : hwf s.n s.H) (hB : heldB s.H S = true) (hag : Ag n0 β0 β) {R : HProp} {w00 : World} :
    CalmAt P ops.toArray r.o (v.den β) a (Reg S β0 R w00 β s.H) ∧ v.wf s.n ∧ v.isTop = false := by
  unfold calmV at h
  rw [ok.gs, gdP_eq] at h
  split at h
  · rename_i hg
    split at h
    · rename_i v' s' he
      rw [Bool.cond_eq_ite] at h
      split at h
      · rename_i hs
        have hs := stEq_eq hs
        subst hs
        rw [Bool.cond_eq_ite] at h
        split at h
        · rename_i hv
          simp only [Option.some.injEq] at h
          subst h
          refine ⟨.inl ⟨(gd_spec hπ hf (ops := ops) (o := r.o)).1 hg, fun w hw => ?_⟩, svB_ok hv⟩
          have hl : (evOp P call r.o fr s').Leads (fun β' q => β' = β ∧ q = (v', s')) β := by rw [he]; exact ⟨rfl, rfl⟩
          refine evOp_gives hn hcall hl hf ⟨hπ, hwf, hw.1⟩ fun β' u s'' w' k1 k2 k3 k4 => ?_
          obtain ⟨rfl, e⟩ := k1
          cases e
          exact ⟨rfl, k4.at_.hold, (heldS_ext hS0 hag).1 (heldB_ok k4.at_.hold S hB), hw.2.2.trans k4.st⟩
        · cases h
      · cases h
    · cases h
  · cases h
theorem keepD_ok {P : Program} [Fast P] [Ab P] [AbOk P] (hn : NoGos P) {call : Caller} (hcall : CallerOk P call) {ops : List Oper} {S : Held} {n0 : Nat} (hS0 : S.wf n0) {β0 β : Bl} {fr : Frm} {s : St}
    {a : Act} (hf : FrIs s.n β fr a.tmps) (hπ : facts s.pi) (hwf : hwf s.n s.H) (hB : heldB s.H S = true) (hag : Ag n0 β0 β) {R : HProp} {w00 : World} :
    ∀ {D : Prom}, keepD P call fr s D = true → (∀ d ∈ D, RwOk ops d.1) → ∀ d ∈ D, CalmAt P ops.toArray d.1.o (d.2.den β) a (Reg S β0 R w00 β s.H)
  | [], _, _, d, hd => by cases hd
  | (o, v) :: r, h, hok, d, hd => by
    unfold keepD at h
    split at h
    · rename_i u hu
      rw [Bool.cond_eq_ite] at h
      split at h
      · rename_i he
        have he := svEq_eq he
        subst he
        rcases List.mem_cons.1 hd with rfl | hd
        · exact (calmV_ok hn hcall hS0 (hok _ (List.mem_cons_self ..)) hu hf hπ hwf hB hag).1
        · exact keepD_ok hn hcall hS0 hf hπ hwf hB hag h (fun d hd => hok d (List.mem_cons_of_mem _ hd)) d hd
      · cases h
    · cases h
theorem noLooks_ok {ops : List Oper} {i : Nat} {o : Oper} (hi : ops.toArray[i]? = some o) : ∀ {D : Prom}, noLooks i D = true → (∀ d ∈ D, RwOk ops d.1) → ∀ e ∈ D, ∀ d, o.dst = some d → d ∉ e.1.o.looksAt ops.toArray
  | [], _, _, e, he => by cases he
  | (p, v) :: r, h, hok, e, he => by
    unfold noLooks at h
    rw [Bool.cond_eq_ite] at h
    split at h
    · cases h
    · rename_i h1
      rw [tb_eq] at h1
      rcases List.mem_cons.1 he with rfl | he
      · exact (hok _ (List.mem_cons_self ..)).look i o hi (by simpa using h1)
      · exact noLooks_ok hi h (fun d hd => hok d (List.mem_cons_of_mem _ hd)) e he
theorem pickC_ok {P : Program} [Fast P] [Ab P] {call : Caller} {m : Nat} {fr : Frm} {s : St} : ∀ {l : List Rw} {r : Rw} {v : SV}, pickC P call m fr s l = some (r, v) →
    r ∈ l ∧ calmV P call fr s r = some v ∧ sub m r.conf = true ∧ sub m r.look = true
  | [], _, _, h => by cases h
  | x :: t, r, v, h => by
    unfold pickC at h
    rw [Bool.cond_eq_ite] at h
    split at h
    · rename_i hc
      rw [Bool.and_eq_true] at hc
      split at h
      · rename_i v' hv
        cases h
        exact ⟨List.mem_cons_self .., hv, hc.2, hc.1⟩
      · obtain ⟨a1, a2⟩ := pickC_ok h; exact ⟨List.mem_cons_of_mem _ a1, a2⟩
    · obtain ⟨a1, a2⟩ := pickC_ok h; exact ⟨List.mem_cons_of_mem _ a1, a2⟩
theorem pickO_ok {P : Program} [Fast P] [Ab P] {fr : Frm} {s : St} : ∀ {l : List Rw} {nm : Nat} {o : SO}, pickO P fr s l = some (nm, o) → ∃ t x v, openV P t s.H s.n x = some (nm, o, v)
  | [], _, _, h => by cases h
  | j :: r, nm, o, h => by
    unfold pickO at h
    split at h
    · split at h
      · split at h
        · exact pickO_ok h
        · split at h
          · rename_i hv
            cases h
            exact ⟨_, _, _, hv⟩
          · exact pickO_ok h
      · exact pickO_ok h
    · exact pickO_ok h
theorem AnyA.at_ {P : Program} {md : Region.Mode} {ops : Array Oper} {Q : Exit → Act → World → Prop} {S : World → Prop} {D : List (Oper × Value)} {A : World → Prop} {l : Array Bool} {a : Act} : ∀ {F : Nat}, Region.ready md ops l ≠ [] → (∀ w, A w → ∃ A' : World → Prop, A' w ∧ AnyA P md ops Q S D (F + 1) l a A') → AnyA P md ops Q S D (F + 1) l a A := by
  intro F hne h
  refine ⟨fun hr => absurd hr hne, fun j hj w hw => ?_⟩
  obtain ⟨A', h1, h2⟩ := h w hw
  exact h2.2 j hj w h1
theorem evAny_ok {P : Program} [Fast P] [Ab P] [AbOk P] (hn : NoGos P) {call : Caller} (hcall : CallerOk P call) {ops : List Oper} {S : Held} {n0 : Nat} (hS0 : S.wf n0) {β0 : Bl} (hns : Region.noSelect ops.toArray = true) {L : Bl → Frm × St → Prop} {R : HProp}
    {Q : Exit → Act → World → Prop} (hQ : ∀ c a a' w, Q (.panic c) a w → Q (.panic c) a' w) {w00 : World} :
    ∀ (g F m : Nat) (listed : Array Bool) (fr : Frm) (s : St) (β : Bl) (a : Act) (D : Prom), (evAny P call (mkRows ops) S D g F m fr s).Leads L β → LM ops.length m listed → FrIs s.n β fr a.tmps → a.defers = [] → facts s.pi → hwf s.n s.H → heldB s.H S = true → n0 ≤ s.n → Ag n0 β0 β →
      (∀ d ∈ D, CalmAt P ops.toArray d.1.o (d.2.den β) a (Reg S β0 R w00 β s.H)) → (∀ d ∈ D, d.2.wf s.n) → (∀ d ∈ D, RwOk ops d.1) →
      (∀ β' fr' s' a' w', L β' (fr', s') → FrIs s'.n β' fr' a'.tmps → a'.defers = [] → Ag s.n β β' → s.n ≤ s'.n → At β' s' w' R → Strm w00 w' → Q .normal a' w') →
      AnyA P .any ops.toArray Q (heldS S β0) (D.map fun d => (d.1.o, d.2.den β)) F listed a (Reg S β0 R w00 β s.H)
  | 0, F, m, listed, fr, s, β, a, D, hl, hm, hf, hd, hπ, hwf, hB, hn0, hag, hD, hDw, hDo, hk => hl.elim
  | g + 1, F, m, listed, fr, s, β, a, D, hl, hm, hf, hd, hπ, hwf, hB, hn0, hag, hD, hDw, hDo, hk => by
    have hsel := Region.noSelect_spec hns
    have hDs : ∀ e ∈ D.map (fun d => (d.1.o, d.2.den β)), ∀ cs b, e.1.op ≠ .select cs b := by
      intro e he cs b
      obtain ⟨d, hd', rfl⟩ := List.mem_map.1 he
      exact hsel _ _ cs b (hDo d hd').o
    have hDm : ∀ {i : Nat} {o : Oper}, ops.toArray[i]? = some o → noLooks i D = true → ∀ e ∈ D.map (fun d => (d.1.o, d.2.den β)), ∀ x, o.dst = some x → x ∉ e.1.looksAt ops.toArray := by
      intro i o hi h e he
      obtain ⟨d, hd', rfl⟩ := List.mem_map.1 he
      exact noLooks_ok hi h hDo d hd'
    have hDc : ∀ e ∈ D.map (fun d => (d.1.o, d.2.den β)), CalmAt P ops.toArray e.1 e.2 a (Reg S β0 R w00 β s.H) := by
      intro e he
      obtain ⟨d, hd', rfl⟩ := List.mem_map.1 he
      exact hD d hd'
    have hAS : ∀ w, Reg S β0 R w00 β s.H w → heldS S β0 w := fun w h => h.2.1
    have hlt : ∀ {r : Rw}, RwOk ops r → r.i < ops.length := fun ok => by
      have := (Array.getElem?_eq_some_iff.1 ok.o).1
      simpa using this
    unfold evAny at hl
    split at hl
    · rename_i hr
      have hr' : Region.ready .any ops.toArray listed = [] := by
        cases h : Region.ready .any ops.toArray listed with
        | nil => rfl
        | cons j t =>
          obtain ⟨r, h1, _⟩ := ready_has hm (i := j) (by rw [h]; exact List.mem_cons_self ..)
          rw [hr] at h1
          cases h1
      exact AnyA.done hr' (fun w hw => hk β fr s a w hl hf hd (Ag.refl _ _) (Nat.le_refl _) ⟨hπ, hwf, hw.1⟩ hw.2.2) F
    · rename_i r0 rs hr
      have hne : Region.ready .any ops.toArray listed ≠ [] := by
        intro h
        have := ready_of hm (r := r0) (by rw [hr]; exact List.mem_cons_self ..)
        rw [h] at this
        cases this
      have hmem : ∀ {r : Rw}, r ∈ r0 :: rs → RwOk ops r ∧ r.i ∈ Region.ready .any ops.toArray listed ∧ m.testBit r.i = false := fun {r} h => by
        rw [← hr] at h
        have h' := readyR_iff.1 h
        exact ⟨mkRows_ok h'.1, ready_of hm h, h'.2.1⟩
      cases F with
      | zero => exact hl.elim
      | succ F =>
        simp only at hl
        split at hl
        · rename_i r ps v hq
          rw [Bool.cond_eq_ite] at hl
          split at hl
          · rename_i hnl
            obtain ⟨h1, h2⟩ := needs_leads hπ hl
            rw [frcV_eq, putK_eq, frcN_eq] at h2
            obtain ⟨p1, p3, p4⟩ := pickQ_ok hq
            obtain ⟨ok, hri, _⟩ := hmem p1
            rw [quietR_eq ok] at p3
            obtain ⟨q1, q2⟩ := quiet_wf hf (fun x hx => ⟨Nat.lt_of_lt_of_le (hS0 x hx).1 hn0, SC.wf_mono hn0 (hS0 x hx).2⟩) p3
            refine anyA_quiet (v := v.den β) ok.o hsel (fun c a w h => hQ c _ _ w h) (hDm ok.o hnl) hDs F listed a _ (free_of hm ok p4) hri (quiet_ok hπ hf (fun w hh => (heldS_ext hS0 hag).2 hh) p3 h1) hDc hAS ?_
            refine evAny_ok hn hcall hS0 hns hQ g F _ _ _ s β _ D h2 (hm.set (hlt ok)) (hf.put r.o.dst q1 (.inr rfl)) (by rw [put_defers]; exact hd) hπ hwf hB hn0 hag (fun d hd' => ?_) hDw hDo hk
            exact (hD d hd').put (hDs _ (List.mem_map.2 ⟨d, hd', rfl⟩)) (noLooks_ok ok.o hnl hDo d hd')
          · exact hl.elim
        · split at hl
          · rename_i nm o hq
            rw [frcN_eq, frcO_eq, frcH_eq] at hl
            obtain ⟨t, x, v, ho⟩ := pickO_ok hq
            refine AnyA.at_ hne fun w hw => ?_
            obtain ⟨wb, _, h2, _, _, h5⟩ := run_openV ho hw.1 hwf (fun wb => upd_ag β s.n wb)
            have h6 := hl wb
            rw [Bool.cond_eq_ite] at h6
            split at h6
            · rename_i hc
              rw [Bool.and_eq_true] at hc
              have hf' : FrIs (s.n + 1) (upd β s.n wb) fr a.tmps := hf.mono (Nat.le_succ _) (upd_ag _ _ _)
              have ag' : Ag n0 β0 (upd β s.n wb) := hag.trans (upd_ag β s.n wb) hn0
              have eD : (D.map fun d => (d.1.o, d.2.den β)) = D.map fun d => (d.1.o, d.2.den (upd β s.n wb)) := List.map_congr_left fun d hd' => by rw [SV.ext (upd_ag β s.n wb) (hDw d hd')]
              refine ⟨Reg S β0 R w00 (upd β s.n wb) (put s.H nm o), ⟨h2, hw.2.1, hw.2.2⟩, ?_⟩
              rw [eD]
              exact evAny_ok hn hcall hS0 hns hQ g (F + 1) m listed fr ⟨s.pi, put s.H nm o, s.n + 1⟩ (upd β s.n wb) a D h6 hm hf' hd hπ h5 hc.1 (Nat.le_succ_of_le hn0) ag' (keepD_ok (s := ⟨s.pi, put s.H nm o, s.n + 1⟩) hn hcall hS0 hf' hπ h5 hc.1 ag' hc.2 hDo) (fun d hd' => SV.wf_mono (Nat.le_succ _) (hDw d hd')) hDo
                fun β' fr' s' a' w' j1 j2 j3 j4 j5 j6 j7 => hk β' fr' s' a' w' j1 j2 j3 ((upd_ag β s.n wb).trans j4 (Nat.le_succ _)) (Nat.le_trans (Nat.le_succ _) j5) j6 j7
            · exact h6.elim
          · split at hl
            · rename_i c hc
              obtain ⟨π', h1, h2⟩ := br_leads hl hπ
              exact evAny_ok hn hcall hS0 hns hQ g (F + 1) m listed fr ⟨π', s.H, s.n⟩ β a D h2 hm hf hd h1 hwf hB hn0 hag hD hDw hDo hk
            · split at hl
              · rename_i r v hq
                have hq : pickC P call m fr s (r0 :: rs) = some (r, v) := by
                  rw [Bool.cond_eq_ite] at hq
                  split at hq
                  · cases hq
                  · exact hq
                rw [Bool.cond_eq_ite] at hl
                split at hl
                · rename_i hnl
                  rw [frcV_eq, putK_eq, frcN_eq] at hl
                  obtain ⟨p1, p3, p4, p5⟩ := pickC_ok hq
                  obtain ⟨ok, hri, hun⟩ := hmem p1
                  obtain ⟨c1, c2, c3⟩ := calmV_ok (R := R) (w00 := w00) hn hcall hS0 ok p3 hf hπ hwf hB hag
                  have hself := stab_of hm ok p5 ok.o hun
                  refine anyA_take (v := v.den β) ok.o hsel (fun c a w h => hQ c _ _ w h) hself (hDm ok.o hnl) hDs F listed a _ (free_of hm ok p4) hri c1 hDc hAS ?_
                  refine evAny_ok hn hcall hS0 hns hQ g F _ _ _ s β _ ((r, v) :: D) hl (hm.set (hlt ok)) (hf.put r.o.dst c2 (.inr rfl)) (by rw [put_defers]; exact hd) hπ hwf hB hn0 hag (fun d hd' => ?_) (fun d hd' => ?_) (fun d hd' => ?_) hk
                  · rcases List.mem_cons.1 hd' with rfl | hd'
                    · exact c1.put (fun cs b => hsel _ _ cs b ok.o) hself
                    · exact (hD d hd').put (hDs _ (List.mem_map.2 ⟨d, hd', rfl⟩)) (noLooks_ok ok.o hnl hDo d hd')
                  · rcases List.mem_cons.1 hd' with rfl | hd'
                    · exact c2
                    · exact hDw d hd'
                  · rcases List.mem_cons.1 hd' with rfl | hd'
                    · exact ok
                    · exact hDo d hd'
                · exact hl.elim
              · refine anyA_all rfl hne fun i hi w hw => ?_
                obtain ⟨r, hr1, rfl⟩ := ready_has hm hi
                rw [hr] at hr1
                obtain ⟨ok, _, _⟩ := hmem hr1
                have hl' := allT_leads hl r hr1
                rw [ok.gs, gdP_eq] at hl'
                split at hl'
                · rename_i hg
                  unfold wpOp
                  simp only [ok.o]
                  rw [if_pos ((gd_spec hπ hf (ops := ops) (o := r.o)).1 hg)]
                  left
                  refine evOp_ok hn hcall (bind_leads hl') hf ⟨hπ, hwf, hw.1⟩ fun β' v s' w' k1 k2 k3 k4 => ?_
                  simp only at k1
                  rw [Bool.cond_eq_ite] at k1
                  split at k1
                  · rename_i hB'
                    rw [frcV_eq, putK_eq, Bool.cond_eq_ite] at k1
                    split at k1
                    · rename_i hkd
                      rw [frcN_eq] at k1
                      have ag' : Ag n0 β0 β' := hag.trans k4.ag hn0
                      have hS' := (heldS_ext hS0 ag').1 (heldB_ok k4.at_.hold S hB')
                      have hf' : FrIs s'.n β' (fput fr r.o.dst v) (a.put r.o.dst (v.den β')).tmps := (hf.mono k4.n k4.ag).put r.o.dst k2 (.inr rfl)
                      have eD : (D.map fun d => (d.1.o, d.2.den β)) = D.map fun d => (d.1.o, d.2.den β') := List.map_congr_left fun d hd' => by rw [SV.ext k4.ag (hDw d hd')]
                      have hcD := keepD_ok (R := R) (w00 := w00) hn hcall hS0 hf' k4.at_.pi k4.at_.wf hB' ag' hkd hDo
                      refine ⟨Reg S β0 R w00 β' s'.H, ⟨k4.at_.hold, hS', hw.2.2.trans k4.st⟩, fun w h => h.2.1, ?_, ?_⟩
                      · intro e he
                        rw [eD] at he
                        obtain ⟨d, hd', rfl⟩ := List.mem_map.1 he
                        exact hcD d hd'
                      · rw [eD]
                        exact evAny_ok hn hcall hS0 hns hQ g F _ _ _ s' β' _ D k1 (hm.set (hlt ok)) hf' (by rw [put_defers]; exact hd) k4.at_.pi k4.at_.wf hB' (Nat.le_trans hn0 k4.n) ag' hcD (fun d hd' => SV.wf_mono k4.n (hDw d hd')) hDo
                          fun β'' fr' s'' a' w'' j1 j2 j3 j4 j5 j6 j7 => hk β'' fr' s'' a' w'' j1 j2 j3 (k4.ag.trans j4 k4.n) (Nat.le_trans k4.n j5) j6 j7
                    · exact k1.elim
                  · exact k1.elim
                · exact hl'.elim
end
/-! ### the cells that a region's loads read and that none of its stores writes -/
def keepable : SC → Bool
  | .raw _ => false
  | _ => true
section
variable [Interp] [Rules]
def gather (P : Program) [Fast P] (π : Pi) (ops : List Oper) (H : SH) : List Oper → Frm → Held → List (Nat × Nat × Nat) → Held × List (Nat × Nat × Nat)
  | [], _, S, W => (S, W)
  | o :: rest, fr, S, W =>
    match gd π ops fr o.guard with
    | .no => putK fr o.dst .un fun fr => gather P π ops H rest fr S W
    | .bad => putK fr o.dst .top fun fr => gather P π ops H rest fr S W
    | _ =>
      match pureOp P π fr o with
      | some (_, v) => frcV v fun v => putK fr o.dst v fun fr => gather P π ops H rest fr S W
      | none =>
        match o.op with
        | .load t x =>
          match opnd fr x with
          | .a (.one (.ptr nm off)) =>
            match find H nm with
            | some (.cells l _) =>
              match loadC P t l off, tySize P t with
              | some v, some n => frcV v fun v => putK fr o.dst v fun fr => gather P π ops H rest fr (((l.drop off).take n).zipIdx.map (fun p => (nm, off + p.2, p.1)) ++ S) W
              | _, _ => putK fr o.dst .top fun fr => gather P π ops H rest fr S W
            | _ => putK fr o.dst .top fun fr => gather P π ops H rest fr S W
          | _ => putK fr o.dst .top fun fr => gather P π ops H rest fr S W
        | .store t x _ =>
          match opnd fr x, tySize P t with
          | .a (.one (.ptr nm off)), some n => gather P π ops H rest fr S ((nm, off, n) :: W)
          | _, _ => gather P π ops H rest fr S W
        | _ => putK fr o.dst .top fun fr => gather P π ops H rest fr S W
def struck (W : List (Nat × Nat × Nat)) (nm off : Nat) : Bool := W.any fun q => Nat.beq q.1 nm && (Nat.ble q.2.1 off && Nat.blt off (q.2.1 + q.2.2))
def frcHeld {R : Type} : Held → (Held → R) → R
  | [], k => k []
  | (nm, off, c) :: r, k => frcN off fun off => frcHeld r fun r => k ((nm, off, c) :: r)
theorem frcHeld_eq {R : Type} : ∀ (S : Held) (k : Held → R), frcHeld S k = k S
  | [], k => rfl
  | (nm, off, c) :: r, k => by unfold frcHeld; rw [frcN_eq, frcHeld_eq r]
def gathered (P : Program) [Fast P] (π : Pi) (ops : List Oper) (fr : Frm) (H : SH) : Held :=
  let r := gather P π ops H ops fr [] []
  r.1.filter fun x => keepable x.2.2 && (!struck r.2 x.1 x.2.1 && heldB H [x])
variable [Vars]
theorem gathered_wf {P : Program} [Fast P] {π : Pi} {ops : List Oper} {fr : Frm} {H : SH} {n : Nat} (hH : hwf n H) : (gathered P π ops fr H).wf n := by
  intro x hx
  have h := (List.mem_filter.1 hx).2
  rw [Bool.and_eq_true, Bool.and_eq_true] at h
  obtain ⟨nm, off, c⟩ := x
  have h3 := h.2.2
  unfold heldB at h3
  split at h3
  · rename_i l T hf
    split at h3
    · rename_i c' hl
      rw [Bool.cond_eq_ite] at h3
      split at h3
      · rename_i hc
        have e := SC.beq_eq hc
        subst e
        have := hH _ (find_mem hf)
        exact ⟨this.1, this.2 _ (List.mem_of_getElem? hl)⟩
      · cases h3
    · cases h3
  · cases h3
theorem gathered_held {P : Program} [Fast P] {π : Pi} {ops : List Oper} {fr : Frm} {β : Bl} {H : SH} {w : World} {R : HProp} (hw : Holds w (hden β H * R)) : heldS (gathered P π ops fr H) β w := by
  intro x hx
  have h := (List.mem_filter.1 hx).2
  rw [Bool.and_eq_true, Bool.and_eq_true] at h
  exact heldB_ok hw [x] h.2.2 x (List.mem_singleton.2 rfl)
end
end Go.Proofs.Ytmmpnjcmaodkcaa.Ef
/- What is proved: two states of two ways as one, by the truth that parts them. Conditions: stated with each lemma. -/
namespace Go.Proofs.Ytmmpnjcmaodkcaa.Ef
open Go Go.Proofs.Ytmmpnjcmaodkcaa.Sep
open Go.Proofs.Ytmmpnjcmaodkcaa.Ev (Fast tyAgg tySize run_underlying' run_isAgg' run_sizeOf' run_zeroValue')
set_option linter.unusedVariables false
set_option linter.unusedSimpArgs false
set_option linter.unusedSectionVars false
def mkSel (c x y : Tm) : Tm := bif Tm.beq x y then x else .a2 .sel c (.a2 .pair x y)
def mrgC (c : Tm) (x y : SC) : Option SC :=
  bif SC.beq x y then some x else
  match x, y with
  | .int k t, .int j u => bif sameK k j then some (.int k (mkSel c t u)) else none
  | .bool t, .bool u => some (.bool (mkSel c t u))
  | _, _ => none
def mrgCs (c : Tm) : List SC → List SC → Option (List SC)
  | [], [] => some []
  | x :: r, y :: s =>
    match mrgC c x y, mrgCs c r s with
    | some z, some t => some (z :: t)
    | _, _ => none
  | _, _ => none
def mrgV (c : Tm) (x y : SV) : SV :=
  match x, y with
  | .a (.one x), .a (.one y) => match mrgC c x y with
    | some z => .c z
    | none => .top
  | .a (.agg x), .a (.agg y) => match mrgCs c x y with
    | some z => .a (.agg z)
    | none => .top
  | .tup [], .tup [] => .tup []
  | _, _ => .top
def mrgF (c : Tm) : Fr → Fr → Option Fr
  | .n x l r, .n y l' r' =>
    match mrgF c l l', mrgF c r r' with
    | some p, some q => some (.n (mrgV c x y) p q)
    | _, _ => none
  | .e, .e => some .e
  | _, _ => none
def nsBeq : List Nat → List Nat → Bool
  | [], [] => true
  | a :: r, b :: s => bif Nat.beq a b then nsBeq r s else false
  | _, _ => false
theorem nsBeq_eq : ∀ {r s : List Nat}, nsBeq r s = true → r = s
  | [], [], _ => rfl
  | [], _ :: _, h => by cases h
  | _ :: _, [], h => by cases h
  | a :: r, b :: s, h => by
    unfold nsBeq at h
    rw [Bool.cond_eq_ite] at h
    split at h
    · rename_i hc; rw [Nat.eq_of_beq_eq_true hc, nsBeq_eq h]
    · cases h
def mrgO (c : Tm) (x y : SO) : Option SO :=
  match x, y with
  | .cells l T, .cells m U => bif Nat.beq T U then match mrgCs c l m with
    | some z => some (.cells z T)
    | none => none else none
  | .abs k x ns, .abs j y ms => bif Nat.beq k j && nsBeq ns ms then some (.abs k (mkSel c x y) ns) else none
  | _, _ => none
def mrgH (c : Tm) : SH → SH → Option SH
  | [], [] => some []
  | (n, x) :: r, (m, y) :: s =>
    bif Nat.beq n m then
      match mrgO c x y, mrgH c r s with
      | some z, some t => some ((n, z) :: t)
      | _, _ => none
    else none
  | _, _ => none
theorem mrgC_wf {c : Tm} {x y z : SC} (h : mrgC c x y = some z) {n : Nat} (hx : x.wf n ∨ y.wf n) : z.wf n := by
  unfold mrgC at h
  rw [Bool.cond_eq_ite] at h
  split at h
  · rename_i hb
    simp at h; subst h
    rcases hx with hx | hx
    · exact hx
    · rw [SC.beq_eq hb]; exact hx
  · split at h
    · rw [Bool.cond_eq_ite] at h
      split at h
      · simp at h; subst h; trivial
      · cases h
    · simp at h; subst h; trivial
    · cases h
theorem lwf_tail {n : Nat} {a : SC} {r : List SC} (h : lwf n (a :: r)) : lwf n r := fun e he => h e (List.mem_cons_of_mem _ he)
theorem mrgCs_wf {c : Tm} {n : Nat} : ∀ {x y z : List SC}, mrgCs c x y = some z → (lwf n x ∨ lwf n y) → lwf n z
  | [], [], z, h, hx => by simp [mrgCs] at h; subst h; intro c hc; cases hc
  | [], _ :: _, z, h, hx => by cases h
  | _ :: _, [], z, h, hx => by cases h
  | a :: r, b :: s, z, h, hx => by
    unfold mrgCs at h
    split at h
    · rename_i u v h1 h2
      simp at h; subst h
      intro d hd
      rcases List.mem_cons.1 hd with rfl | hd
      · exact mrgC_wf h1 (hx.imp (fun hx => hx _ (List.mem_cons_self ..)) (fun hx => hx _ (List.mem_cons_self ..)))
      · exact mrgCs_wf h2 (hx.imp lwf_tail lwf_tail) d hd
    · cases h
theorem mrgV_wf (c : Tm) {x y : SV} {n : Nat} (hx : x.wf n ∨ y.wf n) : (mrgV c x y).wf n := by
  unfold mrgV
  split
  · split
    · rename_i h; exact mrgC_wf h hx
    · trivial
  · split
    · rename_i h; exact mrgCs_wf h hx
    · trivial
  · intro x hx; cases hx
  · trivial
theorem mrgO_wf {c : Tm} {n : Nat} {x y z : SO} (h1 : mrgO c x y = some z) (ha : x.wf n ∨ y.wf n) : z.wf n := by
  unfold mrgO at h1
  split at h1
  · rw [Bool.cond_eq_ite] at h1
    split at h1
    · split at h1
      · rename_i hz; simp at h1; subst h1; exact mrgCs_wf hz ha
      · cases h1
    · cases h1
  · rw [Bool.cond_eq_ite] at h1
    split at h1
    · rename_i hk
      rw [Bool.and_eq_true] at hk
      simp at h1; subst h1
      rcases ha with ha | ha
      · exact ha
      · rw [nsBeq_eq hk.2]; exact ha
    · cases h1
  · cases h1
theorem hwf_tail {n : Nat} {a : Nat × SO} {r : SH} (h : hwf n (a :: r)) : hwf n r := fun e he => h e (List.mem_cons_of_mem _ he)
theorem mrgH_wf {c : Tm} {n : Nat} : ∀ {x y z : SH}, mrgH c x y = some z → (hwf n x ∨ hwf n y) → hwf n z
  | [], [], z, h, hx => by simp [mrgH] at h; subst h; intro c hc; cases hc
  | [], _ :: _, z, h, hx => by cases h
  | _ :: _, [], z, h, hx => by cases h
  | (k, a) :: r, (m, b) :: s, z, h, hx => by
    unfold mrgH at h
    rw [Bool.cond_eq_ite] at h
    split at h
    · rename_i hn
      split at h
      · rename_i u v h1 h2
        simp at h; subst h
        intro q hq
        rcases List.mem_cons.1 hq with rfl | hq
        · refine ⟨?_, mrgO_wf h1 (hx.imp (fun hx => (hx _ (List.mem_cons_self ..)).2) (fun hx => (hx _ (List.mem_cons_self ..)).2))⟩
          rcases hx with hx | hx
          · exact (hx _ (List.mem_cons_self ..)).1
          · rw [Nat.eq_of_beq_eq_true hn]; exact (hx _ (List.mem_cons_self ..)).1
        · exact mrgH_wf h2 (hx.imp hwf_tail hwf_tail) q hq
      · cases h
    · cases h
section
variable [Interp] [Vars]
theorem mkSel_den (c x y : Tm) : (mkSel c x y).den = bif c.tv then x.den else y.den := by
  unfold mkSel
  rw [Bool.cond_eq_ite]
  split
  · rename_i h; rw [Tm.beq_eq h]; cases c.tv <;> rfl
  · rfl
/-- What was merged is, by the truth, the one or the other. -/
theorem mrgC_den {c : Tm} {x y z : SC} (h : mrgC c x y = some z) (β : Bl) : z.den β = bif c.tv then x.den β else y.den β := by
  unfold mrgC at h
  rw [Bool.cond_eq_ite] at h
  split at h
  · rename_i hb
    simp at h; subst h
    rw [SC.beq_eq hb]; cases c.tv <;> rfl
  · split at h
    · rename_i k t j u _
      rw [Bool.cond_eq_ite] at h
      split at h
      · rename_i hk
        have := kCode_inj hk
        subst this
        simp at h; subst h
        simp only [SC.den, Tm.v, mkSel_den]
        cases c.tv <;> rfl
      · cases h
    · simp at h; subst h
      simp only [SC.den]
      rw [show ∀ t : Tm, t.tv = t.den.bool from fun _ => rfl, mkSel_den]
      cases c.tv <;> rfl
    · cases h
theorem mrgCs_den {c : Tm} (β : Bl) : ∀ {x y z : List SC}, mrgCs c x y = some z → z.map (SC.den β) = bif c.tv then x.map (SC.den β) else y.map (SC.den β)
  | [], [], z, h => by simp [mrgCs] at h; subst h; cases c.tv <;> rfl
  | [], _ :: _, z, h => by cases h
  | _ :: _, [], z, h => by cases h
  | a :: r, b :: s, z, h => by
    unfold mrgCs at h
    split at h
    · rename_i u v h1 h2
      simp at h; subst h
      simp only [List.map_cons, mrgC_den h1 β, mrgCs_den β h2]
      cases c.tv <;> rfl
    · cases h
theorem mrgV_den (c : Tm) (x y : SV) (β : Bl) (ht : (mrgV c x y).isTop = false) : (mrgV c x y).den β = (bif c.tv then x.den β else y.den β) ∧ x.isTop = false ∧ y.isTop = false := by
  unfold mrgV at ht ⊢
  split at ht
  · split at ht
    · rename_i h; exact ⟨mrgC_den h β, rfl, rfl⟩
    · cases ht
  · split at ht
    · rename_i h
      refine ⟨?_, rfl, rfl⟩
      simp only [SV.den, SA.den, dens, mrgCs_den β h]
      cases c.tv <;> rfl
    · cases ht
  · refine ⟨?_, rfl, rfl⟩
    cases c.tv <;> rfl
  · cases ht
theorem mrgO_den {c : Tm} {x y z : SO} (h : mrgO c x y = some z) (β : Bl) (b : Nat) : z.den β b = bif c.tv then x.den β b else y.den β b := by
  unfold mrgO at h
  split at h
  · rw [Bool.cond_eq_ite] at h
    split at h
    · rename_i hT
      split at h
      · rename_i hz
        simp at h; subst h
        simp only [SO.den, dens, mrgCs_den β hz, Nat.eq_of_beq_eq_true hT]
        cases c.tv <;> rfl
      · cases h
    · cases h
  · rw [Bool.cond_eq_ite] at h
    split at h
    · rename_i hk
      rw [Bool.and_eq_true] at hk
      simp at h; subst h
      simp only [SO.den, mkSel_den, Nat.eq_of_beq_eq_true hk.1, nsBeq_eq hk.2]
      cases c.tv <;> rfl
    · cases h
  · cases h
theorem mrgH_den {c : Tm} (β : Bl) : ∀ {x y z : SH}, mrgH c x y = some z → hden β z = bif c.tv then hden β x else hden β y
  | [], [], z, h => by simp [mrgH] at h; subst h; cases c.tv <;> rfl
  | [], _ :: _, z, h => by cases h
  | _ :: _, [], z, h => by cases h
  | (k, a) :: r, (m, b) :: s, z, h => by
    unfold mrgH at h
    rw [Bool.cond_eq_ite] at h
    split at h
    · rename_i hn
      split at h
      · rename_i u v h1 h2
        simp at h; subst h
        unfold hden
        rw [mrgO_den h1 β, mrgH_den β h2, Nat.eq_of_beq_eq_true hn]
        cases c.tv <;> rfl
      · cases h
    · cases h
theorem mrgF_some {c : Tm} {x y : SV} {l r l' r' z : Fr} (h : mrgF c (.n x l r) (.n y l' r') = some z) : ∃ p q, mrgF c l l' = some p ∧ mrgF c r r' = some q ∧ z = .n (mrgV c x y) p q := by
  unfold mrgF at h
  split at h
  · rename_i p q h1 h2; simp at h; exact ⟨p, q, h1, h2, h.symm⟩
  · cases h
theorem mrgF_get {c : Tm} : ∀ {f g z : Fr}, mrgF c f g = some z → ∀ i, z.get i = mrgV c (f.get i) (g.get i)
  | .e, .e, z, h, i => by simp [mrgF] at h; subst h; rfl
  | .e, .n _ _ _, z, h, i => by cases h
  | .n _ _ _, .e, z, h, i => by cases h
  | .n x l r, .n y l' r', z, h, 0 => by obtain ⟨p, q, h1, h2, rfl⟩ := mrgF_some h; rfl
  | .n x l r, .n y l' r', z, h, j + 1 => by
    obtain ⟨p, q, h1, h2, rfl⟩ := mrgF_some h
    show (bif Nat.beq (j % 2) 0 then p.get (j / 2) else q.get (j / 2)) = mrgV c (bif Nat.beq (j % 2) 0 then l.get (j / 2) else r.get (j / 2)) (bif Nat.beq (j % 2) 0 then l'.get (j / 2) else r'.get (j / 2))
    cases Nat.beq (j % 2) 0
    · exact mrgF_get h2 _
    · exact mrgF_get h1 _
theorem mrgF_full {c : Tm} : ∀ {D : Nat} {f g z : Fr}, mrgF c f g = some z → (f.Full D ∨ g.Full D) → z.Full D
  | 0, _, _, _, _, _ => trivial
  | D + 1, .e, .e, z, h, k => by rcases k with k | k <;> exact k.elim
  | D + 1, .e, .n _ _ _, z, h, k => by cases h
  | D + 1, .n _ _ _, .e, z, h, k => by cases h
  | D + 1, .n x l r, .n y l' r', z, h, k => by
    obtain ⟨p, q, h1, h2, rfl⟩ := mrgF_some h
    exact ⟨mrgF_full h1 (k.imp (fun k => k.1) (fun k => k.1)), mrgF_full h2 (k.imp (fun k => k.2) (fun k => k.2))⟩
theorem mrgV_un_l (c : Tm) (y : SV) : mrgV c .un y = .un ∨ (mrgV c .un y).isTop = true := by
  cases y with
  | a x => cases x <;> exact .inr rfl
  | tup l => cases l <;> first | exact .inl rfl | exact .inr rfl
  | top => exact .inr rfl
theorem mrgV_un_r (c : Tm) (y : SV) : mrgV c y .un = .un ∨ (mrgV c y .un).isTop = true := by
  cases y with
  | a x => cases x <;> exact .inr rfl
  | tup l => cases l <;> first | exact .inl rfl | exact .inr rfl
  | top => exact .inr rfl
theorem mrgV_top_l (c : Tm) {x : SV} (h : x.isTop = true) (y : SV) : (mrgV c x y).isTop = true := by
  cases x with
  | a x => cases h
  | tup l => cases h
  | top => rfl
theorem mrgV_top_r (c : Tm) {x : SV} (h : x.isTop = true) (y : SV) : (mrgV c y x).isTop = true := by
  cases x with
  | a x => cases h
  | tup l => cases h
  | top =>
    cases y with
    | a z => cases z <;> rfl
    | tup l => cases l <;> rfl
    | top => rfl
/-- The frame of the one that was gone is the merged one's. -/
theorem mrgF_is {c : Tm} {n : Nat} {β : Bl} {f g : Frm} {z : Fr} {a : Array Value} (hz : mrgF c f.t g.t = some z) (hs : g.sz = f.sz) (hf : FrIs n β (bif c.tv then f else g) a) : FrIs n β ⟨f.sz, z⟩ a := by
  have hg := mrgF_get hz
  cases hc : c.tv with
  | true =>
    rw [hc] at hf
    obtain ⟨D, h1, h2⟩ := hf.full
    refine ⟨hf.size, ⟨D, mrgF_full hz (.inl h1), h2⟩, fun i hi => ?_, fun i => ?_, fun i hi ht => ?_⟩
    · rw [show (⟨f.sz, z⟩ : Frm).t = z from rfl, hg i]
      rcases hf.out i hi with e | e
      · rw [show f.t.get i = .un from e]; exact mrgV_un_l c _
      · exact .inr (mrgV_top_l c e _)
    · rw [show (⟨f.sz, z⟩ : Frm).t = z from rfl, hg i]; exact mrgV_wf c (.inl (hf.wf i))
    · rw [show (⟨f.sz, z⟩ : Frm).t = z from rfl, hg i] at ht ⊢
      obtain ⟨e, t1, t2⟩ := mrgV_den c _ _ β ht
      rw [e, hc]
      exact hf.val i hi t1
  | false =>
    rw [hc] at hf
    have hs' : f.sz = g.sz := hs.symm
    obtain ⟨D, h1, h2⟩ := hf.full
    refine ⟨hf.size.trans hs, ⟨D, mrgF_full hz (.inr h1), by show f.sz < _; rw [hs']; exact h2⟩, fun i hi => ?_, fun i => ?_, fun i hi ht => ?_⟩
    · rw [show (⟨f.sz, z⟩ : Frm).t = z from rfl, hg i]
      rcases hf.out i (by show g.sz ≤ i; rw [hs]; exact hi) with e | e
      · rw [show g.t.get i = .un from e]; exact mrgV_un_r c _
      · exact .inr (mrgV_top_r c e _)
    · rw [show (⟨f.sz, z⟩ : Frm).t = z from rfl, hg i]; exact mrgV_wf c (.inr (hf.wf i))
    · rw [show (⟨f.sz, z⟩ : Frm).t = z from rfl, hg i] at ht ⊢
      obtain ⟨e, t1, t2⟩ := mrgV_den c _ _ β ht
      rw [e, hc]
      exact hf.val i (by show i < g.sz; rw [hs]; exact hi) t2
end
end Go.Proofs.Ytmmpnjcmaodkcaa.Ef
/- What is proved: what the second evaluator finds of code and of calls holds of the program. Conditions: the evaluator's own premises. -/
namespace Go.Proofs.Ytmmpnjcmaodkcaa.Ef
open Go Go.Proofs.Ytmmpnjcmaodkcaa.Sep
open Go.Proofs.Ytmmpnjcmaodkcaa.Ev (Fast tyAgg tySize run_underlying' run_isAgg' run_sizeOf' run_zeroValue')
set_option linter.unusedVariables false
set_option linter.unusedSimpArgs false
set_option linter.unusedSectionVars false
abbrev Ex := Exit × Frm × St
abbrev Ctr := Nat → List SV → St → Option Rt
def loopE (body : Frm → St → Tree Ex) : Nat → Frm → St → Tree Ex
  | 0, _, _ => .fail 31
  | m + 1, fr, s => (body fr s).bind fun q => match q with
    | (e, fr, s) => match e with
      | .normal => loopE body m fr s
      | e => .done (e, fr, s)
def merge (π : Pi) (c : Tm) (ta tb : Tree Ex) : Tree Ex :=
  match ta, tb with
  | .done (.normal, fa, sa), .done (.normal, fb, sb) =>
    bif Nat.beq fb.sz fa.sz && Nat.beq sa.n sb.n then
      match mrgF c fa.t fb.t, mrgH c sa.H sb.H with
      | some z, some H => .done (.normal, ⟨fa.sz, z⟩, ⟨π, H, sa.n⟩)
      | _, _ => .ite c (.done (.normal, fa, sa)) (.done (.normal, fb, sb))
    else .ite c (.done (.normal, fa, sa)) (.done (.normal, fb, sb))
  | ta, tb => .ite c ta tb
def toSA : List SV → Option (List SA)
  | [] => some []
  | .a x :: r => match toSA r with
    | some l => some (x :: l)
    | none => none
  | _ => none
def resOf : List SV → Option SV
  | [v] => some v
  | l => match toSA l with
    | some l => some (.tup l)
    | none => none
/-- Two values and heaps as one, by the truth that parts them. -/
def mrgR (π : Pi) (c : Tm) (a b : SV × St) : Option (SV × St) :=
  bif Nat.beq a.2.n b.2.n then
    match mrgV c a.1 b.1, mrgH c a.2.H b.2.H with
    | .top, _ => none
    | v, some H => some (v, ⟨π, H, a.2.n⟩)
    | _, none => none
  else none
def collapse : Pi → Rt → Rt
  | π, .ite c a b =>
    match collapse ((c, true) :: π) a, collapse ((c, false) :: π) b with
    | .done x, .done y => match mrgR π c x y with
      | some z => .done z
      | none => .ite c (.done x) (.done y)
    | a, b => .ite c a b
  | π, .new n t => .new n (collapse π t)
  | _, t => t
section
variable [Interp] [Rules]
def resV (P : Program) [Fast P] [Ab P] (π : Pi) (fr : Frm) (H : SH) : List ResultVar → Option (List Tm × List SV)
  | [] => some ([], [])
  | .tmp t :: r =>
    match fr.get t, resV P π fr H r with
    | .top, _ => none
    | v, some (ps, l) => some (ps, v :: l)
    | _, none => none
  | .cell a t :: r =>
    match loadV P π t H (fr.get a), resV P π fr H r with
    | some (qs, v), some (ps, l) => some (qs ++ ps, v :: l)
    | _, _ => none
def ends (P : Program) [Fast P] [Ab P] (fn : Func) (q : Ex) : Rt :=
  match q with
  | (e, fr, s) =>
    match e with
    | .normal | .ret =>
      match resV P s.pi fr s.H fn.results.toList with
      | some (ps, l) =>
        match resOf l with
        | some v => needs s.pi ps (frcV v fun v => .done (v, s))
        | none => .fail 32
      | none => .fail 33
    | _ => .fail 34
def callIn (P : Program) [Fast P] [Ab P] (ev : Code → Frm → St → Tree Ex) (f : Nat) (args : List SV) (s : St) : Rt :=
  match Fast.func P f with
  | some fn =>
    match fn.body with
    | some c => bif Nat.blt (args.length + (fn.ntmps - args.length)) 4095 then (ev c (Frm.start fn.ntmps args) s).bind (ends P fn) else .fail 35
    | none => .fail 36
  | none => .fail 37
def callBy (P : Program) [Fast P] [Ab P] (Γ : Ctr) (mf : Nat → Bool) (ev : Bool → Code → Frm → St → Tree Ex) : Caller := fun f args s =>
  match Γ f args s with
  | some t => t
  | none => bif mf f then collapse s.pi (callIn P (ev true) f args s) else callIn P (ev false) f args s
def evReg (P : Program) [Fast P] [Ab P] (call : Caller) (ops : List Oper) (draw : Bool) (fr : Frm) (s : St) : Tree (Frm × St) :=
  bif draw then
    (bif Region.noSelect ops.toArray then frcHeld (gathered P s.pi ops fr s.H) fun S => bif heldB s.H S then frcRw (mkRows ops) fun rows => evAny P call rows S [] (6 * ops.length + 8) ops.length 0 fr s else .fail 44 else .fail 38)
  else evList P call ops ops fr s
def evCode (P : Program) [Fast P] [Ab P] (Γ : Ctr) (mf : Nat → Bool) : Nat → Bool → Code → Frm → St → Tree Ex
  | 0, _, _, _, _ => .fail 39
  | g + 1, mg, c, fr, s =>
    match c with
    | .skip => .done (.normal, fr, s)
    | .label _ => .done (.normal, fr, s)
    | .ret => .done (.ret, fr, s)
    | .exit id => .done (.exit id, fr, s)
    | .goto l => .done (.goto l, fr, s)
    | .seq a b => (evCode P Γ mf g mg a fr s).bind fun q => match q with
      | (e, fr, s) => match e with
        | .normal => evCode P Γ mf g mg b fr s
        | e => .done (e, fr, s)
    | .block id c => (evCode P Γ mf g mg c fr s).bind fun q => match q with
      | (e, fr, s) => match e with
        | .exit id' => bif Nat.beq id' id then .done (.normal, fr, s) else .done (.exit id', fr, s)
        | e => .done (e, fr, s)
    | .scope c => (evCode P Γ mf g mg c fr s).bind fun q => match q with
      | (e, fr, s) => match e with
        | .goto l => match findLabel c l with
          | some rest => (evCode P Γ mf g mg rest fr s).bind fun q => match q with
            | (e, fr, s) => match e with
              | .goto _ => .fail 40
              | e => .done (e, fr, s)
          | none => .fail 41
        | e => .done (e, fr, s)
    | .cond x a b =>
      match opnd fr x with
      | .a (.one (.bool c)) =>
        bif mg then
          match dec s.pi c with
          | some t => evCode P Γ mf g mg (bif t then a else b) fr s
          | none => merge s.pi c (evCode P Γ mf g mg a fr ⟨(c, true) :: s.pi, s.H, s.n⟩) (evCode P Γ mf g mg b fr ⟨(c, false) :: s.pi, s.H, s.n⟩)
        else br c s.pi fun π t => evCode P Γ mf g mg (bif t then a else b) fr ⟨π, s.H, s.n⟩
      | _ => .fail 42
    | .loop c => loopE (evCode P Γ mf g mg c) g fr s
    | .region _ ops draw => (evReg P (callBy P Γ mf (evCode P Γ mf g)) ops.toList draw fr s).bind fun q => match q with
      | (fr, s) => .done (.normal, fr, s)
    | _ => .fail 43
/-- **A function, by the evaluator.** -/
def evF (P : Program) [Fast P] [Ab P] (Γ : Ctr) (mf : Nat → Bool) (mg : Bool) (g f : Nat) (args : List SV) (s : St) : Rt := callIn P (evCode P Γ mf g mg) f args s
variable [Vars]
/-- What a table of contracts says holds of the program. -/
def CtrOk (P : Program) (Γ : Ctr) : Prop :=
  ∀ f args s t, Γ f args s = some t → ∀ (L : Bl → SV × St → Prop) β, t.Leads L β → (∀ x ∈ args, x.wf s.n) → (∀ x ∈ args, x.isTop = false) → ∀ (w : World) (R : HProp), At β s w R → ∀ Q : Ending → World → Prop,
    (∀ β' v s' w', L β' (v, s') → v.wf s'.n → v.isTop = false → Out β s w R β' s' w' → Q (.returned (v.den β')) w') → Calls P f (args.map (SV.den β)).toArray w Q
theorem resV_ok {P : Program} [Fast P] [Ab P] [AbOk P] {π : Pi} (hπ : facts π) {n : Nat} {β : Bl} {fr : Frm} {a : Array Value} (hf : FrIs n β fr a) {H : SH} (hH : hwf n H) {w : World} {R : HProp} (hw : Holds w (hden β H * R)) : ∀ (l : List ResultVar) (ps : List Tm) (vs : List SV), resV P π fr H l = some (ps, vs) → (∀ p ∈ ps, p.tv = true) →
    (l.mapM fun
      | .tmp t => pure (a.getD t undef)
      | .cell d t => do loadVar t (← asAddr (a.getD d undef)) : Sem (List Value)).run P w = .ok (vs.map (SV.den β)) w ∧ (∀ v ∈ vs, v.wf n) ∧ ∀ v ∈ vs, v.isTop = false
  | [], ps, vs, h, hp => by simp [resV] at h; obtain ⟨rfl, rfl⟩ := h; exact ⟨rfl, fun v hv => (by cases hv), fun v hv => (by cases hv)⟩
  | .tmp t :: r, ps, vs, h, hp => by
    unfold resV at h
    split at h
    · cases h
    · rename_i ps' l hr hne
      simp only [Option.some.injEq, Prod.mk.injEq] at h
      obtain ⟨rfl, rfl⟩ := h
      obtain ⟨ih, i1, i2⟩ := resV_ok hπ hf hH hw r ps' l hr hp
      have nt : (fr.get t).isTop = false := notTop fun e => by first | exact hne e | exact absurd e (by assumption)
      have e : a.getD t undef = (fr.get t).den β := hf.get t nt
      refine ⟨?_, fun v hv => ?_, fun v hv => ?_⟩
      · rw [List.mapM_cons]
        simp only [Sem.run_bind, Sem.run_pure, Result.andThen_ok, ih, e, List.map_cons]
      · rcases List.mem_cons.1 hv with rfl | hv
        · exact hf.wf t
        · exact i1 v hv
      · rcases List.mem_cons.1 hv with rfl | hv
        · exact nt
        · exact i2 v hv
    · simp at h
  | .cell d t :: r, ps, vs, h, hp => by
    unfold resV at h
    split at h
    · rename_i qs v ps' l hl hr
      simp at h
      obtain ⟨rfl, rfl⟩ := h
      obtain ⟨ih, i1, i2⟩ := resV_ok hπ hf hH hw r ps' l hr (fun p hp' => hp p (by simp [hp']))
      have nt : (fr.get d).isTop = false := by
        unfold loadV at hl
        split at hl
        · rename_i e; rw [e]; rfl
        · rename_i e; rw [e]; rfl
        · cases hl
      have e : a.getD d undef = (fr.get d).den β := hf.get d nt
      have hv := run_loadV (P := P) hπ hl (fun p hp' => hp p (by simp [hp'])) hw
      have hv' : (do loadVar t (← asAddr (a.getD d undef)) : Sem Value).run P w = .ok (v.den β) w := by
        unfold loadV at hl
        split at hl
        · rename_i nm off hx
          rw [e, hx]
          rw [hx] at hv
          exact hv
        · rename_i nm i st o hx
          rw [e, hx]
          rw [hx] at hv
          exact hv
        · simp at hl
      refine ⟨?_, fun u hu => ?_, fun u hu => ?_⟩
      · rw [List.mapM_cons]
        simp only [Sem.run_bind] at hv' ⊢
        simp only [hv', Sem.run_pure, Result.andThen_ok, ih, List.map_cons]
      · rcases List.mem_cons.1 hu with rfl | hu
        · exact loadV_wf hl hH
        · exact i1 u hu
      · rcases List.mem_cons.1 hu with rfl | hu
        · exact loadV_top hl
        · exact i2 u hu
    · simp at h
theorem toSA_den (β : Bl) : ∀ (l : List SV) (r : List SA), toSA l = some r → l.map (SV.den β) = r.map (SA.den β)
  | [], r, h => by simp [toSA] at h; subst h; rfl
  | .a x :: l, r, h => by
    simp only [toSA] at h
    split at h
    · rename_i r' hl
      simp at h
      subst h
      simp only [List.map_cons, toSA_den β l r' hl]
      rfl
    · cases h
  | .tup _ :: l, r, h => by simp [toSA] at h
  | .top :: l, r, h => by simp [toSA] at h
theorem toSA_wf {n : Nat} : ∀ (l : List SV) (r : List SA), toSA l = some r → (∀ v ∈ l, v.wf n) → ∀ x ∈ r, x.wf n
  | [], r, h, hl => by simp [toSA] at h; subst h; intro x hx; cases hx
  | .a x :: l, r, h, hl => by
    simp only [toSA] at h
    split at h
    · rename_i r' hr
      simp at h
      subst h
      intro y hy
      rcases List.mem_cons.1 hy with rfl | hy
      · exact hl _ (List.mem_cons_self ..)
      · exact toSA_wf l r' hr (fun v hv => hl v (List.mem_cons_of_mem _ hv)) y hy
    · cases h
  | .tup _ :: l, r, h, hl => by simp [toSA] at h
  | .top :: l, r, h, hl => by simp [toSA] at h
theorem resOf_wf {n : Nat} {l : List SV} {v : SV} (h : resOf l = some v) (hl : ∀ v ∈ l, v.wf n) (ht : ∀ v ∈ l, v.isTop = false) : v.wf n ∧ v.isTop = false := by
  unfold resOf at h
  split at h
  · simp at h; subst h; exact ⟨hl _ (List.mem_cons_self ..), ht _ (List.mem_cons_self ..)⟩
  · split at h
    · rename_i hr; simp at h; subst h; exact ⟨toSA_wf _ _ hr hl, rfl⟩
    · cases h
theorem results_ok {P : Program} [Fast P] [Ab P] [AbOk P] {π : Pi} (hπ : facts π) {fn : Func} {n : Nat} {β : Bl} {fr : Frm} {a : Array Value} (hf : FrIs n β fr a) {H : SH} (hH : hwf n H) {w : World} {R : HProp} (hw : Holds w (hden β H * R)) {ps : List Tm} {l : List SV} {v : SV} (h : resV P π fr H fn.results.toList = some (ps, l)) (hp : ∀ p ∈ ps, p.tv = true) (hv : resOf l = some v) :
    (results fn a).run P w = .ok (v.den β) w ∧ v.wf n ∧ v.isTop = false := by
  obtain ⟨h1, i1, i2⟩ := resV_ok hπ hf hH hw _ ps l h hp
  refine ⟨?_, resOf_wf hv i1 i2⟩
  suffices key : ∀ r, r = Result.ok (l.map (SV.den β)) w → ((r.andThen fun a w' => Result.ok a.toArray w').andThen fun vs w' => (pure (if h : vs.size = 1 then vs[0] else .tuple vs) : Sem Value).run P w') = .ok (v.den β) w by
    unfold results
    rw [Array.mapM_eq_mapM_toList, Sem.run_bind, Sem.run_map]
    exact key _ h1
  intro r hr
  subst hr
  simp only [Result.andThen_ok]
  unfold resOf at hv
  split at hv
  · rename_i v'
    simp at hv
    subst hv
    simp
  · rename_i hne
    split at hv
    · rename_i r ht
      simp at hv
      subst hv
      have e := toSA_den β l r ht
      have hs : ¬ (l.map (SV.den β)).toArray.size = 1 := by
        intro hh
        have hh' : l.length = 1 := by simpa using hh
        match l, hh' with
        | [v], _ => exact hne v rfl
      rw [dif_neg hs, Sem.run_pure, e]
      rfl
    · cases hv
/-- What the evaluator finds of code holds. -/
def CodeOk (P : Program) (ev : Code → Frm → St → Tree Ex) : Prop :=
  ∀ (c : Code) (fr : Frm) (s : St) (L : Bl → Ex → Prop) (β : Bl) (a : Act) (w : World) (R : HProp) (Q : Exit → Act → World → Prop), (ev c fr s).Leads L β → FrIs s.n β fr a.tmps → a.defers = [] → At β s w R →
    (∀ β' e fr' s' a' w', L β' (e, fr', s') → FrIs s'.n β' fr' a'.tmps → a'.defers = [] → Out β s w R β' s' w' → Q e a' w') → c.wp P Q a w
theorem callIn_ok {P : Program} [Fast P] [Ab P] [AbOk P] {ev : Code → Frm → St → Tree Ex} (hev : CodeOk P ev) : CallerOk P (callIn P ev) := by
  intro f args s L β hl hwf htop w R hw Q hk
  unfold callIn at hl
  split at hl
  · rename_i fn hf
    split at hl
    · rename_i c hc
      rw [Bool.cond_eq_ite] at hl
      split at hl
      · rename_i hlt
        refine calls_of_wp (Fast.func_ok hf) hc ?_
        have hs := start_is (n := s.n) (β := β) (k := fn.ntmps) (args := args) (Nat.le_of_ble_eq_true hlt) hwf htop
        refine hev c _ s _ β _ w R _ (bind_leads hl) hs rfl hw fun β' e fr' s' a' w' h1 h2 hd h3 => ?_
        unfold ends at h1
        have key : ∀ {ps l v}, resV P s'.pi fr' s'.H fn.results.toList = some (ps, l) → resOf l = some v → (needs s'.pi ps (frcV v fun v => Tree.done (v, s'))).Leads L β' → ∃ v, (results fn a'.tmps).run P w' = .ok v w' ∧ Q (.returned v) w' := by
          intro ps l v hr hv hn
          obtain ⟨g1, g2⟩ := needs_leads h3.at_.pi hn
          rw [frcV_eq] at g2
          obtain ⟨r1, r2, r3⟩ := results_ok h3.at_.pi h2 h3.at_.wf h3.at_.hold hr g1 hv
          exact ⟨v.den β', r1, hk β' v s' w' g2 r2 r3 h3⟩
        cases e with
        | normal =>
          simp only at h1
          split at h1
          · rename_i ps l hr
            split at h1
            · rename_i v hv
              obtain ⟨v, k1, k2⟩ := key hr hv h1
              exact ⟨hd, v, k1, k2⟩
            · exact h1.elim
          · exact h1.elim
        | ret =>
          simp only at h1
          split at h1
          · rename_i ps l hr
            split at h1
            · rename_i v hv
              obtain ⟨v, k1, k2⟩ := key hr hv h1
              exact ⟨hd, v, k1, k2⟩
            · exact h1.elim
          · exact h1.elim
        | exit id => exact h1.elim
        | goto l => exact h1.elim
        | panic ch => exact h1.elim
        | outgrown => exact h1.elim
      · exact hl.elim
    · exact hl.elim
  · exact hl.elim
/-- The second says no less of the heap than the first. -/
structure Coarse (β : Bl) (q q' : SV × St) : Prop where
  v : q'.1.den β = q.1.den β
  vw : ∀ n, q.1.wf n → q'.1.wf n
  t : q.1.isTop = false → q'.1.isTop = false
  H : hden β q'.2.H = hden β q.2.H
  n : q'.2.n = q.2.n
  Hw : ∀ n, hwf n q.2.H → hwf n q'.2.H
  pi : facts q.2.pi → facts q'.2.pi
theorem Coarse.refl (β : Bl) (q : SV × St) : Coarse β q q := ⟨rfl, fun _ h => h, fun h => h, rfl, rfl, fun _ h => h, fun h => h⟩
theorem Coarse.trans {β : Bl} {a b c : SV × St} (h : Coarse β a b) (k : Coarse β b c) : Coarse β a c :=
  ⟨k.v.trans h.v, fun n x => k.vw n (h.vw n x), fun x => k.t (h.t x), k.H.trans h.H, k.n.trans h.n, fun n x => k.Hw n (h.Hw n x), fun x => k.pi (h.pi x)⟩
theorem mrgR_ok {π : Pi} (hπ : facts π) {c : Tm} {a b z : SV × St} (h : mrgR π c a b = some z) (β : Bl) : (c.tv = true → Coarse β a z) ∧ (c.tv = false → Coarse β b z) := by
  unfold mrgR at h
  rw [Bool.cond_eq_ite] at h
  split at h
  · rename_i hn
    have hn := Nat.eq_of_beq_eq_true hn
    split at h
    · cases h
    · rename_i H hH hne
      simp only [Option.some.injEq] at h
      subst h
      have nt : (mrgV c a.1 b.1).isTop = false := notTop fun e => by first | exact hne e | exact absurd e (by assumption)
      obtain ⟨e, t1, t2⟩ := mrgV_den c _ _ β nt
      have eH := mrgH_den β hH
      refine ⟨fun hc => ⟨by rw [e, hc]; rfl, fun n h => mrgV_wf c (.inl h), fun _ => nt, by rw [eH, hc]; rfl, rfl, fun n h => mrgH_wf hH (.inl h), fun _ => hπ⟩,
        fun hc => ⟨by rw [e, hc]; rfl, fun n h => mrgV_wf c (.inr h), fun _ => nt, by rw [eH, hc]; rfl, hn, fun n h => mrgH_wf hH (.inr h), fun _ => hπ⟩⟩
    · cases h
  · cases h
theorem collapse_leads : ∀ {t : Rt} {π : Pi} {L : Bl → SV × St → Prop} {β : Bl}, facts π → (collapse π t).Leads L β → t.Leads (fun β' q => ∃ q', Coarse β' q q' ∧ L β' q') β
  | .done x, π, L, β, hπ, h => ⟨x, Coarse.refl _ _, h⟩
  | .new n t, π, L, β, hπ, h => fun b => collapse_leads hπ (h b)
  | .both a b, π, L, β, hπ, h => Tree.Leads.mono (t := .both a b) (fun β' q h => ⟨q, Coarse.refl _ _, h⟩) h
  | .fail i, π, L, β, hπ, h => h.elim
  | .ite c a b, π, L, β, hπ, h => by
    unfold collapse at h
    split at h
    · rename_i x y hx hy
      have ka : c.tv = true → a.Leads (fun β' q => ∃ q', Coarse β' q q' ∧ (β' = β ∧ q' = x)) β := fun hc =>
        collapse_leads (L := fun β' q' => β' = β ∧ q' = x) (facts_cons hπ hc) (by rw [hx]; exact ⟨rfl, rfl⟩)
      have kb : c.tv = false → b.Leads (fun β' q => ∃ q', Coarse β' q q' ∧ (β' = β ∧ q' = y)) β := fun hc =>
        collapse_leads (L := fun β' q' => β' = β ∧ q' = y) (facts_cons hπ hc) (by rw [hy]; exact ⟨rfl, rfl⟩)
      split at h
      · rename_i z hz
        refine ⟨fun hc => Tree.Leads.mono (fun β' q hq => ?_) (ka hc), fun hc => Tree.Leads.mono (fun β' q hq => ?_) (kb hc)⟩
        · obtain ⟨q', c1, rfl, rfl⟩ := hq
          exact ⟨z, c1.trans ((mrgR_ok hπ hz _).1 hc), h⟩
        · obtain ⟨q', c1, rfl, rfl⟩ := hq
          exact ⟨z, c1.trans ((mrgR_ok hπ hz _).2 hc), h⟩
      · refine ⟨fun hc => Tree.Leads.mono (fun β' q hq => ?_) (ka hc), fun hc => Tree.Leads.mono (fun β' q hq => ?_) (kb hc)⟩
        · obtain ⟨q', c1, rfl, rfl⟩ := hq
          exact ⟨q', c1, h.1 hc⟩
        · obtain ⟨q', c1, rfl, rfl⟩ := hq
          exact ⟨q', c1, h.2 hc⟩
    · exact ⟨fun hc => collapse_leads (facts_cons hπ hc) (h.1 hc), fun hc => collapse_leads (facts_cons hπ hc) (h.2 hc)⟩
theorem callBy_ok {P : Program} [Fast P] [Ab P] [AbOk P] {Γ : Ctr} (hΓ : CtrOk P Γ) {mf : Nat → Bool} {ev : Bool → Code → Frm → St → Tree Ex} (hev : ∀ mg, CodeOk P (ev mg)) : CallerOk P (callBy P Γ mf ev) := by
  intro f args s L β hl hwf htop w R hw Q hk
  unfold callBy at hl
  split at hl
  · rename_i t ht
    exact hΓ f args s t ht L β hl hwf htop w R hw Q hk
  · rw [Bool.cond_eq_ite] at hl
    split at hl
    · refine callIn_ok (hev true) f args s _ β (collapse_leads hw.pi hl) hwf htop w R hw Q fun β' v s' w' h1 h2 h3 h4 => ?_
      obtain ⟨⟨v', s''⟩, c, hL⟩ := h1
      have := hk β' v' s'' w' hL (by rw [show s''.n = s'.n from c.n]; exact c.vw _ h2) (c.t h3) ⟨h4.ag, by rw [show s''.n = s'.n from c.n]; exact h4.n, ⟨c.pi h4.at_.pi, by rw [show s''.n = s'.n from c.n]; exact c.Hw _ h4.at_.wf, by rw [show hden β' s''.H = hden β' s'.H from c.H]; exact h4.at_.hold⟩, h4.st⟩
      rw [show v'.den β' = v.den β' from c.v] at this
      exact this
    · exact callIn_ok (hev false) f args s L β hl hwf htop w R hw Q hk
theorem loopE_ok {P : Program} {c : Code} {body : Frm → St → Tree Ex}
    (hb : ∀ (fr : Frm) (s : St) (L : Bl → Ex → Prop) (β : Bl) (a : Act) (w : World) (R : HProp) (Q : Exit → Act → World → Prop), (body fr s).Leads L β → FrIs s.n β fr a.tmps → a.defers = [] → At β s w R →
      (∀ β' e fr' s' a' w', L β' (e, fr', s') → FrIs s'.n β' fr' a'.tmps → a'.defers = [] → Out β s w R β' s' w' → Q e a' w') → c.wp P Q a w) :
    ∀ (m : Nat) (fr : Frm) (s : St) (L : Bl → Ex → Prop) (β : Bl) (a : Act) (w : World) (R : HProp) (Q : Exit → Act → World → Prop), (loopE body m fr s).Leads L β → FrIs s.n β fr a.tmps → a.defers = [] → At β s w R →
      (∀ β' e fr' s' a' w', L β' (e, fr', s') → FrIs s'.n β' fr' a'.tmps → a'.defers = [] → Out β s w R β' s' w' → Q e a' w') → Code.rounds P c Q m a w
  | 0, fr, s, L, β, a, w, R, Q, hl, hf, hd, hw, hk => hl.elim
  | m + 1, fr, s, L, β, a, w, R, Q, hl, hf, hd, hw, hk => by
    rw [rounds_succ]
    refine hb fr s _ β a w R _ (bind_leads hl) hf hd hw fun β' e fr' s' a' w' h1 h2 h3 h4 => ?_
    cases e with
    | normal => exact loopE_ok hb m fr' s' L β' a' w' R Q h1 h2 h3 h4.at_ fun β'' e fr'' s'' a'' w'' k1 k2 k3 k4 => hk β'' e fr'' s'' a'' w'' k1 k2 k3 (h4.trans k4)
    | exit id => exact hk β' _ fr' s' a' w' h1 h2 h3 h4
    | goto l => exact hk β' _ fr' s' a' w' h1 h2 h3 h4
    | ret => exact hk β' _ fr' s' a' w' h1 h2 h3 h4
    | panic ch => exact hk β' _ fr' s' a' w' h1 h2 h3 h4
    | outgrown => exact hk β' _ fr' s' a' w' h1 h2 h3 h4
theorem merge_leads {π : Pi} (hπ : facts π) {c : Tm} {ta tb : Tree Ex} {L : Bl → Ex → Prop} {β : Bl} (h : (merge π c ta tb).Leads L β) :
    (bif c.tv then ta else tb).Leads (fun β' q => L β' q ∨ ∃ (fa fb : Frm) (sa sb : St) (z : Fr) (H : SH), q = (bif c.tv then (.normal, fa, sa) else (.normal, fb, sb)) ∧ mrgF c fa.t fb.t = some z ∧ fb.sz = fa.sz ∧ mrgH c sa.H sb.H = some H ∧ sa.n = sb.n ∧ L β' (.normal, ⟨fa.sz, z⟩, ⟨π, H, sa.n⟩)) β := by
  have plain : ∀ {ta tb : Tree Ex}, (Tree.ite c ta tb).Leads L β → (bif c.tv then ta else tb).Leads (fun β' q => L β' q ∨ ∃ (fa fb : Frm) (sa sb : St) (z : Fr) (H : SH), q = (bif c.tv then (.normal, fa, sa) else (.normal, fb, sb)) ∧ mrgF c fa.t fb.t = some z ∧ fb.sz = fa.sz ∧ mrgH c sa.H sb.H = some H ∧ sa.n = sb.n ∧ L β' (.normal, ⟨fa.sz, z⟩, ⟨π, H, sa.n⟩)) β := by
    intro ta tb h
    cases hc : c.tv with
    | true => exact Tree.Leads.mono (fun _ _ h => .inl h) (h.1 hc)
    | false => exact Tree.Leads.mono (fun _ _ h => .inl h) (h.2 hc)
  unfold merge at h
  split at h
  · rename_i fa sa fb sb
    rw [Bool.cond_eq_ite] at h
    split at h
    · rename_i hb
      rw [Bool.and_eq_true] at hb
      split at h
      · rename_i z H hz hH
        have := h
        cases hc : c.tv with
        | true => exact .inr ⟨fa, fb, sa, sb, z, H, rfl, hz, Nat.eq_of_beq_eq_true hb.1, hH, Nat.eq_of_beq_eq_true hb.2, h⟩
        | false => exact .inr ⟨fa, fb, sa, sb, z, H, rfl, hz, Nat.eq_of_beq_eq_true hb.1, hH, Nat.eq_of_beq_eq_true hb.2, h⟩
      · exact plain h
    · exact plain h
  · exact plain h
theorem wp_scope_goto {P : Program} {c : Code} {Q : Exit → Act → World → Prop} {a : Act} {w : World}
    (h : c.wp P (fun e a w => match e with | .goto l => ∃ rest, findLabel c l = some rest ∧ rest.wp P (Exit.noGoto Q) a w | e => Q e a w) a w) : (Code.scope c).wp P Q a w := by
  intro b k cs
  obtain ⟨e, a₁, w₁, hq, harr⟩ := h b (.inScope c :: k) cs
  cases e with
  | normal => exact ⟨.normal, a₁, w₁, hq, .head step_scope (Steps.trans harr (.one step_inScope))⟩
  | exit id => exact ⟨.exit id, a₁, w₁, hq, fun k' hk => .head step_scope (harr k' (by simp [exitTo, hk]))⟩
  | goto l =>
    obtain ⟨rest, hf, hr⟩ := hq
    have hg : gotoIn l (.inScope c :: k) = some (.code rest :: .inScope c :: k) := by simp [gotoIn, hf]
    have hs := harr _ hg
    obtain ⟨e, a₂, w₂, hq₂, harr₂⟩ := hr b (.inScope c :: k) cs
    cases e with
    | normal => exact ⟨.normal, a₂, w₂, hq₂, .head step_scope (Steps.trans hs (Steps.trans harr₂ (.one step_inScope)))⟩
    | exit id => exact ⟨.exit id, a₂, w₂, hq₂, .of_steps (.head step_scope hs) (fun k' hk => harr₂ k' (by simp [exitTo, hk]) : Arrives P _ b k cs (.exit id) a₂ w₂)⟩
    | goto l => exact hq₂.elim
    | ret => exact ⟨_, a₂, w₂, hq₂, .of_steps (.head step_scope hs) harr₂⟩
    | panic ch => exact ⟨_, a₂, w₂, hq₂, .of_steps (.head step_scope hs) harr₂⟩
    | outgrown => exact ⟨_, a₂, w₂, hq₂, .of_steps (.head step_scope hs) harr₂⟩
  | ret => exact ⟨_, a₁, w₁, hq, .of_steps (.one step_scope) harr⟩
  | panic ch => exact ⟨_, a₁, w₁, hq, .of_steps (.one step_scope) harr⟩
  | outgrown => exact ⟨_, a₁, w₁, hq, .of_steps (.one step_scope) harr⟩
theorem evReg_ok {P : Program} [Fast P] [Ab P] [AbOk P] (hn : NoGos P) (hm : P.follows .mixedOrders = true) {call : Caller} (hcall : CallerOk P call) {id : Nat} {ops : Array Oper} {draw : Bool} {fr : Frm} {s : St} {L : Bl → Frm × St → Prop} {β : Bl} {a : Act} {w : World} {R : HProp} {Q : Exit → Act → World → Prop}
    (hl : (evReg P call ops.toList draw fr s).Leads L β) (hf : FrIs s.n β fr a.tmps) (hd : a.defers = []) (hw : At β s w R)
    (hk : ∀ β' fr' s' a' w', L β' (fr', s') → FrIs s'.n β' fr' a'.tmps → a'.defers = [] → Out β s w R β' s' w' → Q .normal a' w') : (Code.region id ops draw).wp P Q a w := by
  unfold evReg at hl
  cases draw with
  | true =>
    simp only [cond_true] at hl
    rw [Bool.cond_eq_ite] at hl
    split at hl
    · rename_i hns
      rw [frcHeld_eq] at hl
      have hwd : At β s { w with drawn := w.drawn + 1 } R := ⟨hw.pi, hw.wf, hw.hold⟩
      refine wp_region_noPanic ?_
      rw [Bool.cond_eq_ite] at hl
      split at hl
      · rename_i hB
        refine wp_region_any hm ?_
        rw [frcRw_eq] at hl
        have := evAny_ok hn hcall (ops := ops.toList) (S := gathered P s.pi ops.toList fr s.H) (n0 := s.n) (gathered_wf hw.wf) (β0 := β) hns (Q := NoPanic Q) (R := R) (fun c a a' w h => h) (w00 := w) _ _ _ _ fr s β a [] hl (LM.start _) hf hd hw.pi hw.wf hB (Nat.le_refl _) (Ag.refl _ _)
          (fun d hd => by cases hd) (fun d hd => by cases hd) (fun d hd => by cases hd)
          (fun β' fr' s' a' w' k1 k2 k3 k4 k5 k6 k7 => hk β' fr' s' a' w' k1 k2 k3 ⟨k4, k5, k6, k7⟩)
        have h2 := anyA_any _ this ⟨hwd.hold, gathered_held hwd.hold, ⟨rfl, rfl, rfl, Nat.le_refl _⟩⟩
        simpa using h2
      · exact hl.elim
    · exact hl.elim
  | false =>
    simp only [cond_false] at hl
    refine wp_region_list ?_
    have := evList_ok hn hcall (ops := ops.toList) ops.toList fr s β a w hl hf hd hw (Q := Q) (fun β' fr' s' a' w' k1 k2 k3 k4 => hk β' fr' s' a' w' k1 k2 k3 k4)
    simpa using this
theorem evCode_ok {P : Program} [Fast P] [Ab P] [AbOk P] (hn : NoGos P) (hm : P.follows .mixedOrders = true) {Γ : Ctr} (hΓ : CtrOk P Γ) (mf : Nat → Bool) : ∀ g mg, CodeOk P (evCode P Γ mf g mg)
  | 0, mg => fun c fr s L β a w R Q hl hf hd hw hk => hl.elim
  | g + 1, mg => fun c fr s L β a w R Q hl hf hd hw hk => by
    have ih := evCode_ok hn hm hΓ mf g mg
    have hcall := callBy_ok (mf := mf) hΓ (evCode_ok hn hm hΓ mf g)
    unfold evCode at hl
    cases c with
    | skip => exact wp_skip (hk β _ fr s a w hl hf hd (Out.refl hw))
    | label l => exact wp_label (hk β _ fr s a w hl hf hd (Out.refl hw))
    | ret => exact wp_ret (hk β _ fr s a w hl hf hd (Out.refl hw))
    | exit id => exact wp_exit (hk β _ fr s a w hl hf hd (Out.refl hw))
    | goto l => exact wp_goto (hk β _ fr s a w hl hf hd (Out.refl hw))
    | seq x y =>
      refine wp_seq (ih x fr s _ β a w R _ (bind_leads hl) hf hd hw fun β' e fr' s' a' w' h1 h2 h3 h4 => ?_)
      cases e with
      | normal => exact ih y fr' s' L β' a' w' R Q h1 h2 h3 h4.at_ fun β'' e fr'' s'' a'' w'' k1 k2 k3 k4 => hk β'' e fr'' s'' a'' w'' k1 k2 k3 (h4.trans k4)
      | exit id => exact hk β' _ fr' s' a' w' h1 h2 h3 h4
      | goto l => exact hk β' _ fr' s' a' w' h1 h2 h3 h4
      | ret => exact hk β' _ fr' s' a' w' h1 h2 h3 h4
      | panic ch => exact hk β' _ fr' s' a' w' h1 h2 h3 h4
      | outgrown => exact hk β' _ fr' s' a' w' h1 h2 h3 h4
    | block id c =>
      refine wp_block (ih c fr s _ β a w R _ (bind_leads hl) hf hd hw fun β' e fr' s' a' w' h1 h2 h3 h4 => ?_)
      cases e with
      | exit id' =>
        simp only at h1
        simp only [Exit.inBlock]
        cases hid : Nat.beq id' id with
        | true =>
          rw [hid] at h1
          rw [if_pos (Nat.eq_of_beq_eq_true hid)]
          exact hk β' _ fr' s' a' w' h1 h2 h3 h4
        | false =>
          rw [hid] at h1
          rw [if_neg (fun h => by rw [h, Nat.beq_refl] at hid; cases hid)]
          exact hk β' _ fr' s' a' w' h1 h2 h3 h4
      | normal => exact hk β' _ fr' s' a' w' h1 h2 h3 h4
      | goto l => exact hk β' _ fr' s' a' w' h1 h2 h3 h4
      | ret => exact hk β' _ fr' s' a' w' h1 h2 h3 h4
      | panic ch => exact hk β' _ fr' s' a' w' h1 h2 h3 h4
      | outgrown => exact hk β' _ fr' s' a' w' h1 h2 h3 h4
    | scope c =>
      refine wp_scope_goto (ih c fr s _ β a w R _ (bind_leads hl) hf hd hw fun β' e fr' s' a' w' h1 h2 h3 h4 => ?_)
      cases e with
      | goto l =>
        simp only at h1
        split at h1
        · rename_i rest hrest
          refine ⟨rest, hrest, ih rest fr' s' _ β' a' w' R _ (bind_leads h1) h2 h3 h4.at_ fun β'' e fr'' s'' a'' w'' k1 k2 k3 k4 => ?_⟩
          cases e with
          | goto l => exact k1.elim
          | exit id => exact hk β'' _ fr'' s'' a'' w'' k1 k2 k3 (h4.trans k4)
          | normal => exact hk β'' _ fr'' s'' a'' w'' k1 k2 k3 (h4.trans k4)
          | ret => exact hk β'' _ fr'' s'' a'' w'' k1 k2 k3 (h4.trans k4)
          | panic ch => exact hk β'' _ fr'' s'' a'' w'' k1 k2 k3 (h4.trans k4)
          | outgrown => exact hk β'' _ fr'' s'' a'' w'' k1 k2 k3 (h4.trans k4)
        · exact h1.elim
      | exit id => exact hk β' _ fr' s' a' w' h1 h2 h3 h4
      | normal => exact hk β' _ fr' s' a' w' h1 h2 h3 h4
      | ret => exact hk β' _ fr' s' a' w' h1 h2 h3 h4
      | panic ch => exact hk β' _ fr' s' a' w' h1 h2 h3 h4
      | outgrown => exact hk β' _ fr' s' a' w' h1 h2 h3 h4
    | cond x c1 c2 =>
      simp only at hl
      split at hl
      · rename_i c hx
        have ec : a.eval x = .bool c.tv := (opnd_is hf hx rfl).1
        rw [Bool.cond_eq_ite] at hl
        split at hl
        · split at hl
          · rename_i t hd'
            have := dec_ok hw.pi hd'
            rw [this] at ec
            cases t with
            | true => exact wp_cond_true ec (ih c1 fr s L β a w R Q hl hf hd hw hk)
            | false => exact wp_cond_false ec (ih c2 fr s L β a w R Q hl hf hd hw hk)
          · have hm2 := merge_leads hw.pi hl
            have fin : ∀ (s1 : St), Out β s w R β s1 w → ∀ cc : Code, (evCode P Γ mf g mg cc fr s1).Leads (fun β' q => L β' q ∨ ∃ (fa fb : Frm) (sa sb : St) (z : Fr) (H : SH), q = (bif c.tv then (.normal, fa, sa) else (.normal, fb, sb)) ∧ mrgF c fa.t fb.t = some z ∧ fb.sz = fa.sz ∧ mrgH c sa.H sb.H = some H ∧ sa.n = sb.n ∧ L β' (.normal, ⟨fa.sz, z⟩, ⟨s.pi, H, sa.n⟩)) β → cc.wp P Q a w := by
              intro s1 h1 cc hcc
              refine ih cc fr s1 _ β a w R Q hcc (hf.mono h1.n h1.ag) hd h1.at_ fun β' e fr' s' a' w' k1 k2 k3 k4 => ?_
              rcases k1 with k1 | ⟨fa, fb, sa, sb, z, H, hq, hz, hsz, hH, hnn, hL⟩
              · exact hk β' e fr' s' a' w' k1 k2 k3 (h1.trans k4)
              · have k5 := h1.trans k4
                cases hc : c.tv with
                | true =>
                  rw [hc] at hq
                  simp only [cond_true, Prod.mk.injEq] at hq
                  obtain ⟨rfl, rfl, rfl⟩ := hq
                  have e1 : hden β' H = hden β' s'.H := by rw [mrgH_den β' hH, hc]; rfl
                  exact hk β' _ _ _ a' w' hL (mrgF_is hz hsz (by rw [hc]; exact k2)) k3 ⟨k5.ag, k5.n, ⟨hw.pi, mrgH_wf hH (.inl k5.at_.wf), by show Holds w' (hden β' H * R); rw [e1]; exact k5.at_.hold⟩, k5.st⟩
                | false =>
                  rw [hc] at hq
                  simp only [cond_false, Prod.mk.injEq] at hq
                  obtain ⟨rfl, rfl, rfl⟩ := hq
                  have e1 : hden β' H = hden β' s'.H := by rw [mrgH_den β' hH, hc]; rfl
                  refine hk β' _ _ _ a' w' hL (mrgF_is hz hsz (by rw [hc]; show FrIs sa.n β' fr' a'.tmps; rw [hnn]; exact k2)) k3 ⟨k5.ag, by show s.n ≤ sa.n; rw [hnn]; exact k5.n, ⟨hw.pi, by show hwf sa.n H; rw [hnn]; exact mrgH_wf hH (.inr k5.at_.wf), by show Holds w' (hden β' H * R); rw [e1]; exact k5.at_.hold⟩, k5.st⟩
            cases hc : c.tv with
            | true =>
              rw [hc] at ec hm2
              rw [hc] at fin
              exact wp_cond_true ec (fin _ (Out.pi hw (facts_cons hw.pi hc)) c1 hm2)
            | false =>
              rw [hc] at ec hm2
              rw [hc] at fin
              exact wp_cond_false ec (fin _ (Out.pi hw (facts_cons hw.pi hc)) c2 hm2)
        · obtain ⟨π', h1, h2⟩ := br_leads hl hw.pi
          cases ht : c.tv with
          | true =>
            rw [ht] at h2 ec
            exact wp_cond_true ec (ih c1 fr _ L β a w R Q h2 hf hd ⟨h1, hw.wf, hw.hold⟩ fun β'' e fr'' s'' a'' w'' k1 k2 k3 k4 => hk β'' e fr'' s'' a'' w'' k1 k2 k3 ((Out.pi hw h1).trans k4))
          | false =>
            rw [ht] at h2 ec
            exact wp_cond_false ec (ih c2 fr _ L β a w R Q h2 hf hd ⟨h1, hw.wf, hw.hold⟩ fun β'' e fr'' s'' a'' w'' k1 k2 k3 k4 => hk β'' e fr'' s'' a'' w'' k1 k2 k3 ((Out.pi hw h1).trans k4))
      · exact hl.elim
    | loop c => exact wp_loop_rounds g (loopE_ok (fun fr s L β a w R Q => ih c fr s L β a w R Q) g fr s L β a w R Q hl hf hd hw hk)
    | region id ops draw =>
      exact evReg_ok hn hm hcall (bind_leads hl) hf hd hw fun β' fr' s' a' w' k1 k2 k3 k4 => hk β' _ fr' s' a' w' k1 k2 k3 k4
    | rangeFunc f p x y => exact hl.elim
    | refuse why => exact hl.elim
/-- **What the evaluator finds of a function holds of its calls.** -/
theorem evF_ok {P : Program} [Fast P] [Ab P] [AbOk P] (hn : NoGos P) (hm : P.follows .mixedOrders = true) {Γ : Ctr} (hΓ : CtrOk P Γ) {mf : Nat → Bool} {mg : Bool} {g : Nat} : CallerOk P (evF P Γ mf mg g) := callIn_ok (evCode_ok hn hm hΓ mf g mg)
end
end Go.Proofs.Ytmmpnjcmaodkcaa.Ef
/- What is proved: the operations that neither read nor make memory, as the evaluator has them. Conditions: stated with each lemma. -/
namespace Go.Proofs.Ytmmpnjcmaodkcaa.Ev
open Go Go.Proofs.Ytmmpnjcmaodkcaa.Sep
set_option linter.unusedVariables false
set_option linter.unusedSimpArgs false

/-! ### equality -/
def eqSI (x y : SI) : SB :=
  match x, y with
  | .lit a, .lit b => .lit (a == b)
  | x, y => .sym (x.v == y.v)
theorem eqSI_v (x y : SI) : (eqSI x y).v = (x.v == y.v) := by unfold eqSI; split <;> rfl
def eqSB (x y : SB) : SB :=
  match x, y with
  | .lit a, .lit b => .lit (a == b)
  | x, y => .sym (x.v == y.v)
theorem eqSB_v (x y : SB) : (eqSB x y).v = (x.v == y.v) := by unfold eqSB; split <;> rfl
def andSB (x y : SB) : SB :=
  match x, y with
  | .lit true, y => y
  | .lit false, _ => .lit false
  | x, .lit true => x
  | x, y => .sym (x.v && y.v)
theorem andSB_v (x y : SB) : (andSB x y).v = (x.v && y.v) := by
  unfold andSB; split
  · simp [SB.v]
  · simp [SB.v]
  · simp [SB.v]
  · rfl
def notSB : SB → SB
  | .lit b => .lit (!b)
  | .sym x => .sym (!x)
theorem notSB_v (x : SB) : (notSB x).v = !x.v := by cases x <;> rfl
def eqV (P : Program) [Fast P] : Nat → TypeId → SA → SA → Option SB
  | 0, _, _, _ => none
  | d + 1, t, x, y =>
    match Fast.und P t, x, y with
    | some (.int _), .one (.int k a), .one (.int k' b) => bif sameK k k' then some (eqSI a b) else none
    | some .bool, .one (.bool a), .one (.bool b) => some (eqSB a b)
    | some (.pointer _), .one .nil, .one .nil => some (.lit true)
    | some (.pointer _), .one .nil, .one (.ptr _ _ _) => some (.lit false)
    | some (.pointer _), .one (.ptr _ _ _), .one .nil => some (.lit false)
    | some (.slice _), .one .snil, .one .snil => some (.lit true)
    | some (.slice _), .one (.slice _ _ _ _ _), .one .snil => some (.lit false)
    | some (.slice _), .one .snil, .one (.slice _ _ _ _ _) => some (.lit false)
    | some (.func _ _ _), .one .nilF, .one .nilF => some (.lit true)
    | some (.func _ _ _), .one (.func _ _ _), .one .nilF => some (.lit false)
    | some (.func _ _ _), .one .nilF, .one (.func _ _ _) => some (.lit false)
    | some (.struct fs), .agg xs, .agg ys =>
      bif !(Fast.plain P t) then none else
      fs.toList.foldr (fun f acc =>
        match tyPart P f.type xs f.offset, tyPart P f.type ys f.offset with
        | some a, some b =>
          match eqV P d f.type a b, acc with
          | some r, some s => bif f.name == "_" then none else some (andSB r s)
          | _, _ => none
        | _, _ => none) (some (.lit true))
    | _, _, _ => none
theorem run_eqV {P : Program} [Fast P] : ∀ (d : Nat) (t : TypeId) (x y : SA) (b : SB), eqV P d t x y = some b → ∀ (e : Nat) (w : World), (Op.equalIn (d + e) t x.den y.den).run P w = .ok b.v w
  | 0, _, _, _, _, h, _, _ => by simp [eqV] at h
  | d + 1, t, x, y, b, h, e, w => by
    rw [show d + 1 + e = (d + e) + 1 by omega]
    unfold eqV at h
    split at h
    · rename_i k0 k a k' b' hu
      cases hk : sameK k k' with
      | false => rw [hk] at h; simp at h
      | true =>
        rw [hk] at h
        simp at h
        have := sameK_spec hk
        subst this
        subst h
        simp [SA.den, SC.den, Op.equalIn, run_underlying' hu, eqSI_v]
    · rename_i hu
      simp at h; subst h
      simp [SA.den, SC.den, Op.equalIn, run_underlying' hu, eqSB_v]
    · rename_i hu; simp at h; subst h; simp [SA.den, SC.den, Op.equalIn, run_underlying' hu, SB.v]
    · rename_i hu; simp at h; subst h; simp [SA.den, SC.den, Op.equalIn, run_underlying' hu, SB.v]
    · rename_i hu; simp at h; subst h; simp [SA.den, SC.den, Op.equalIn, run_underlying' hu, SB.v]
    · rename_i hu; simp at h; subst h; simp [SA.den, SC.den, Op.equalIn, run_underlying' hu, SB.v]
    · rename_i hu; simp at h; subst h; simp [SA.den, SC.den, Op.equalIn, run_underlying' hu, SB.v]
    · rename_i hu; simp at h; subst h; simp [SA.den, SC.den, Op.equalIn, run_underlying' hu, SB.v]
    · rename_i hu; simp at h; subst h; simp [SA.den, SC.den, Op.equalIn, run_underlying' hu, SB.v]
    · rename_i hu; simp at h; subst h; simp [SA.den, SC.den, Op.equalIn, run_underlying' hu, SB.v]
    · rename_i hu; simp at h; subst h; simp [SA.den, SC.den, Op.equalIn, run_underlying' hu, SB.v]
    · rename_i fs xs ys hu
      cases hs : Fast.plain P t with
      | false => rw [hs] at h; simp at h
      | true =>
        rw [hs] at h
        simp only [Bool.not_true, cond_false] at h
        have hf : P.fieldsOf t = fs := by simp [Program.fieldsOf, Fast.und_ok hu]
        show (Op.equalIn (d + e + 1) t (.agg (dens xs)) (.agg (dens ys))).run P w = _
        rw [run_equalIn_struct (P := P) w (d + e) t _ _ (by rw [hf]; exact Fast.und_ok hu) (Fast.plain_ok hs), hf]
        revert b h
        induction fs.toList with
        | nil => intro b h; simp at h; subst h; simp [Op.eqFields, SB.v]
        | cons f l ih =>
          intro b h
          simp only [List.foldr_cons] at h
          split at h
          · rename_i a1 b1 ha hb
            split at h
            · rename_i r s hr hs'
              cases hn : (f.name == "_") with
              | true => rw [hn] at h; simp at h
              | false =>
                rw [hn] at h
                simp at h
                subst h
                have hn' : f.name ≠ "_" := by simpa using hn
                have ih' := ih s hs'
                simp only [Op.eqFields, if_pos hn', Sem.run_bind, run_part' ha, run_part' hb, Result.andThen_ok, run_eqV d f.type a1 b1 r hr e w, andSB_v]
                cases hrv : r.v with
                | false => simp
                | true => simp [ih']
            · simp at h
          · simp at h
    · simp at h

/-! ### parts of an aggregate -/
def SA.cells : SA → List SC
  | .one c => [c]
  | .agg l => l
theorem den_notAgg (c : SC) (h : ∀ v, c ≠ .raw v) : c.den.cells = #[c.den] := by
  cases c <;> first | rfl | exact absurd rfl (h _)
def SA.plain : SA → Bool
  | .one (.raw _) => false
  | _ => true
theorem SA.cells_den (x : SA) (h : x.plain = true) : x.den.cells = dens x.cells := by
  cases x with
  | one c =>
    show c.den.cells = _
    rw [den_notAgg c (fun v hv => by subst hv; cases h)]
    rfl
  | agg l => rfl
/-- The cells c over the ones from off on. -/
def over (cells : List SC) (off : Nat) (c : List SC) : List SC := cells.take off ++ c ++ cells.drop (off + c.length)
theorem over_den (cells : List SC) (off : Nat) (c : List SC) (h : off + c.length ≤ cells.length) :
    (dens c).zipIdx.foldl (fun cs p => cs.setIfInBounds (off + p.2) p.1) (dens cells) = dens (over cells off c) := by
  have key : ∀ (c : List SC) (o : Nat) (cells : List SC), o + c.length ≤ cells.length →
      ((c.map SC.den).zipIdx.foldl (fun (cs : Array Value) p => cs.setIfInBounds (o + p.2) p.1) (dens cells)) = dens (over cells o c) := by
    intro c
    induction c with
    | nil => intro o cells h; simp [over]
    | cons x c ih =>
      intro o cells h
      simp only [List.length_cons] at h
      simp only [List.map_cons, List.zipIdx_cons, List.foldl_cons, Nat.add_zero, Nat.zero_add]
      have e1 : (dens cells).setIfInBounds o x.den = dens (cells.set o x) := by simp [dens, List.map_set]
      rw [e1]
      have e2 := ih (o + 1) (cells.set o x) (by simp; omega)
      have e3 : (List.map SC.den c).zipIdx 1 = ((List.map SC.den c).zipIdx).map (fun p => (p.1, p.2 + 1)) := by
        rw [List.zipIdx_succ]
      rw [e3, List.foldl_map]
      have e4 : (fun (cs : Array Value) (p : Value × Nat) => cs.setIfInBounds (o + (p.2 + 1)) p.1) = (fun cs p => cs.setIfInBounds (o + 1 + p.2) p.1) := by
        funext cs p; rw [show o + (p.2 + 1) = o + 1 + p.2 by omega]
      show List.foldl (fun (cs : Array Value) (p : Value × Nat) => cs.setIfInBounds (o + (p.2 + 1)) p.1) _ _ = _
      rw [e4, e2]
      congr 1
      unfold over
      have ho : o < cells.length := by omega
      have e5 : (cells.set o x).take (o + 1) = cells.take o ++ [x] := by
        rw [List.take_succ_eq_append_getElem (by simpa using ho)]
        simp only [List.getElem_set_self]
        congr 1
        apply List.ext_getElem?
        intro i
        rw [List.getElem?_take, List.getElem?_take]
        split
        · rw [List.getElem?_set_ne (by omega)]
        · rfl
      rw [e5, List.length_cons]
      rw [show o + 1 + c.length = o + (c.length + 1) by omega]
      rw [List.drop_set_of_lt (by omega)]
      simp
  have := key c off cells h
  rw [← this]
  unfold dens
  rw [← Array.foldl_toList]
  congr 1
  simp
def fillC (place : Nat → Option (Nat × Nat)) (cells : List SC) : List (Nat × SA) → Option (List SC)
  | [] => some cells
  | (i, x) :: rest =>
    match place i with
    | none => none
    | some (off, size) =>
      bif x.plain && (x.cells.length == size && Nat.ble (off + x.cells.length) cells.length) then fillC place (over cells off x.cells) rest else none
theorem fillC_den (place : Nat → Option (Nat × Nat)) : ∀ (parts : List (Nat × SA)) (cells r : List SC), fillC place cells parts = some r →
    Instr.fill place (dens cells) (parts.map fun p => (p.1, p.2.den)) = some (dens r)
  | [], cells, r, h => by simp [fillC] at h; subst h; rfl
  | (i, x) :: rest, cells, r, h => by
    unfold fillC at h
    simp only [List.map_cons, Instr.fill]
    cases hp : place i with
    | none => rw [hp] at h; simp at h
    | some q =>
      obtain ⟨off, size⟩ := q
      rw [hp] at h
      simp only at h ⊢
      cases hc : (x.plain && (x.cells.length == size && Nat.ble (off + x.cells.length) cells.length)) with
      | false => rw [hc] at h; simp at h
      | true =>
        rw [hc] at h
        simp only [cond_true] at h
        simp at hc
        obtain ⟨h1, h2, h3⟩ := hc
        rw [SA.cells_den x h1]
        have l1 : (dens x.cells).size = x.cells.length := by simp [dens]
        have l2 : (dens cells).size = cells.length := by simp [dens]
        rw [if_neg (by simp [l1, l2, h2]; omega), over_den _ _ _ h3]
        exact fillC_den place rest _ r h
def zeroC (P : Program) [Fast P] (t : TypeId) : Option (List SC) :=
  match Fast.zero P t with
  | some v => some (v.cells.toList.map SC.of)
  | none => none
def placesC (P : Program) [Fast P] : List Field → Option (List (Nat × Nat))
  | [] => some []
  | f :: r =>
    match Fast.size P f.type, placesC P r with
    | some n, some l => some ((f.offset, n) :: l)
    | _, _ => none
theorem placesC_ok {P : Program} [Fast P] : ∀ (fs : List Field) (l : List (Nat × Nat)), placesC P fs = some l → fs.mapM (fun f => (P.info? f.type).map fun i => (f.offset, i.size)) = some l
  | [], l, h => by simp [placesC] at h; subst h; rfl
  | f :: r, l, h => by
    unfold placesC at h
    split at h
    · rename_i n l' hn hl
      simp only [Option.some.injEq] at h
      subst h
      obtain ⟨i, hi, hs⟩ := Fast.size_ok (P := P) hn
      simp [List.mapM_cons, hi, hs, placesC_ok r l' hl]
    · cases h
def builtC (P : Program) [Fast P] (t : TypeId) (parts : List (Nat × SA)) : Option (List SC) :=
  match Fast.zero P t, Fast.und P t with
  | some z, some (.array _ e) =>
    match Fast.size P e with
    | some n => fillC (fun i => some (i * n, n)) (z.cells.toList.map SC.of) parts
    | none => none
  | some z, some (.struct fields) =>
    match placesC P fields.toList with
    | some places => fillC (places.toArray[·]?) (z.cells.toList.map SC.of) parts
    | none => none
  | _, _ => none
theorem builtC_den {P : Program} [Fast P] {t : TypeId} {parts : List (Nat × SA)} {r : List SC} (h : builtC P t parts = some r) : P.built t (parts.map fun p => (p.1, p.2.den)) = some (dens r) := by
  unfold builtC at h
  unfold Program.built
  split at h
  · rename_i z n e hz hu
    obtain ⟨it, hi, hzz⟩ := Fast.zero_ok hz
    simp only [hi, Fast.und_ok hu, hzz]
    split at h
    · rename_i k hk
      obtain ⟨ie, hie, hs⟩ := Fast.size_ok hk
      simp only [hie]
      have := fillC_den _ _ _ _ h
      rw [dens_of] at this
      rw [hs]
      exact this
    · cases h
  · rename_i z fields hz hu
    obtain ⟨it, hi, hzz⟩ := Fast.zero_ok hz
    simp only [hi, Fast.und_ok hu, hzz]
    split at h
    · rename_i places hpl
      simp only [placesC_ok _ _ hpl]
      have := fillC_den _ _ _ _ h
      rw [dens_of] at this
      exact this
    · cases h
  · cases h
/-- Operands as parts. -/
def partsA (fr : List SV) : List (Nat × Operand) → Option (List (Nat × SA))
  | [] => some []
  | (i, x) :: l =>
    match opnd fr x, partsA fr l with
    | .a y, some r => some ((i, y) :: r)
    | _, _ => none
theorem partsA_den (fr : List SV) (ds : List Deferred) : ∀ (l : List (Nat × Operand)) (r : List (Nat × SA)), partsA fr l = some r →
    l.map (fun p => (p.1, (⟨fden fr, ds⟩ : Act).eval p.2)) = r.map fun p => (p.1, p.2.den)
  | [], r, h => by simp [partsA] at h; subst h; rfl
  | (i, x) :: l, r, h => by
    unfold partsA at h
    split at h
    · rename_i y r' hy hr
      simp at h; subst h
      rw [List.map_cons, List.map_cons, ← partsA_den fr ds l r' hr, opnd_den, hy]
      rfl
    · simp at h
def ptrsA (fr : List SV) : List Operand → Option (List (Nat × Nat × Nat))
  | [] => some []
  | x :: l =>
    match opnd fr x, ptrsA fr l with
    | .a (.one (.ptr nm b o)), some r => some ((nm, b, o) :: r)
    | _, _ => none
theorem ptrsA_den (fr : List SV) (ds : List Deferred) : ∀ (l : List Operand) (r : List (Nat × Nat × Nat)), ptrsA fr l = some r → l.map (⟨fden fr, ds⟩ : Act).eval = r.map pden
  | [], r, h => by simp [ptrsA] at h; subst h; rfl
  | x :: l, r, h => by
    unfold ptrsA at h
    split at h
    · rename_i nm b o r' hy hr
      simp at h; subst h
      rw [List.map_cons, List.map_cons, ← ptrsA_den fr ds l r' hr, opnd_den, hy]
      rfl
    · simp at h
end Go.Proofs.Ytmmpnjcmaodkcaa.Ev
/- What is proved: an operation that neither reads nor makes memory yields what the evaluator says, in whatever world. Conditions: the evaluator's own premises. -/
namespace Go.Proofs.Ytmmpnjcmaodkcaa.Ev
open Go Go.Proofs.Ytmmpnjcmaodkcaa.Sep
set_option linter.unusedVariables false
set_option linter.unusedSimpArgs false

def binV (P : Program) [Fast P] (op : BinOp) (t : TypeId) (x y : SV) : Option (List Prop × SV) :=
  match x, y with
  | .a (.one (.int k a)), .a (.one (.int k' b)) => (binInt op k a k' b).map fun r => (r.1, .c r.2)
  | .a x, .a y =>
    match op with
    | .eql => bif !(Fast.guard P t) then none else (eqV P 8 t x y).map fun b => ([], .c (.bool b))
    | .neq => bif !(Fast.guard P t) then none else (eqV P 8 t x y).map fun b => ([], .c (.bool (notSB b)))
    | _ => none
  | _, _ => none
theorem run_eqGuard {P : Program} [Fast P] {op : BinOp} {t : TypeId} {x y : Operand} {a b : SA} (hg0 : Fast.guard P t = true) (h : (eqV P 8 t a b).isSome = true) (w : World) :
    (eqGuard op t x y a.den b.den).run P w = .ok () w := by
  have hg := Fast.guard_ok hg0
  cases op <;> first
    | (simp [eqGuard]; done)
    | (cases a with
      | agg xs =>
        cases b with
        | agg ys => simp [eqGuard, SA.den, hg]
        | one c => simp [eqV] at h
      | one c =>
        cases c <;> first
          | (simp [eqGuard, SA.den, SC.den]; done)
          | (unfold eqV at h; split at h <;> simp_all; done))
theorem run_binV {P : Program} [Fast P] {op : BinOp} {t : TypeId} {x y : SV} {ps : List Prop} {v : SV} (h : binV P op t x y = some (ps, v)) (hp : ∀ p ∈ ps, p) (ox oy : Operand) (w : World) :
    (do eqGuard op t ox oy x.den y.den; binOp op t x.den y.den : Sem Value).run P w = .ok v.den w := by
  unfold binV at h
  split at h
  · rename_i k a k' b
    cases hb : binInt op k a k' b with
    | none => rw [hb] at h; simp at h
    | some r =>
      rw [hb] at h
      simp at h
      obtain ⟨rfl, rfl⟩ := h
      have hr := run_binInt (P := P) (x := a) (y := b) (ps := r.1) (c := r.2) t hb hp w
      have hq : (eqGuard op t ox oy (SV.a (.one (.int k a))).den (SV.a (.one (.int k' b))).den).run P w = .ok () w := by
        cases op <;> simp [eqGuard, SV.den, SA.den, SC.den]
      simp only [Sem.run_bind, hq, Result.andThen_ok]
      exact hr
  · rename_i x y hne
    split at h
    · cases hg : Fast.guard P t with
      | false => rw [hg] at h; simp at h
      | true =>
        rw [hg] at h
        simp only [Bool.not_true, cond_false] at h
        cases he : eqV P 8 t x y with
        | none => rw [he] at h; simp at h
        | some b =>
          rw [he] at h
          simp at h
          obtain ⟨rfl, rfl⟩ := h
          have hq := run_eqGuard (op := .eql) (x := ox) (y := oy) hg (by rw [he]; rfl) w
          have hr := run_eqV 8 t x y b he 9992 w
          have hb : binOp .eql t x.den y.den = (do pure (.bool (← Op.equal t x.den y.den))) := by
            unfold eqV at he
            split at he <;> first | rfl | (simp at he; done) | (exfalso; exact hne _ _ _ _ rfl rfl)
          simp only [SV.den, Sem.run_bind, hq, Result.andThen_ok, hb]
          unfold Op.equal Op.maxDepth
          rw [hr]
          rfl
    · cases hg : Fast.guard P t with
      | false => rw [hg] at h; simp at h
      | true =>
        rw [hg] at h
        simp only [Bool.not_true, cond_false] at h
        cases he : eqV P 8 t x y with
        | none => rw [he] at h; simp at h
        | some b =>
          rw [he] at h
          simp at h
          obtain ⟨rfl, rfl⟩ := h
          have hq := run_eqGuard (op := .neq) (x := ox) (y := oy) hg (by rw [he]; rfl) w
          have hr := run_eqV 8 t x y b he 9992 w
          have hb : binOp .neq t x.den y.den = (do pure (.bool (!(← Op.equal t x.den y.den)))) := by
            unfold eqV at he
            split at he <;> first | rfl | (simp at he; done) | (exfalso; exact hne _ _ _ _ rfl rfl)
          simp only [SV.den, Sem.run_bind, hq, Result.andThen_ok, hb]
          unfold Op.equal Op.maxDepth
          rw [hr]
          simp [SA.den, SC.den, notSB_v]
    · simp at h
  · simp at h
/-- An index within n. -/
def within (i : SI) (n : SN) : List Prop :=
  match i, n with
  | .lit i, .lit n => bif decide (0 ≤ i) && decide (i < (n : Int)) then [] else [False]
  | i, n => [0 ≤ i.v ∧ i.v < (n.v : Int)]
theorem within_spec {i : SI} {n : SN} (h : ∀ p ∈ within i n, p) : 0 ≤ i.v ∧ i.v < (n.v : Int) := by
  unfold within at h
  split at h
  · rename_i i n
    cases hc : (decide (0 ≤ i) && decide (i < (n : Int))) with
    | true => simpa [SI.v, SN.v] using hc
    | false => rw [hc] at h; exact (h False (List.mem_singleton.2 rfl)).elim
  · exact h _ (List.mem_singleton.2 rfl)
def indexAddrV (P : Program) [Fast P] (t : TypeId) (x ix : SV) : Option (List Prop × SV) :=
  match Fast.und P t, x, ix with
  | some (.slice e), .a (.one (.slice nm b off len cap)), .a (.one (.int k i)) =>
    (tySize P e).map fun n => (within i len, .c (.ptr nm b (off + i.v.toNat * n)))
  | some (.array m e), .a (.one (.ptr nm b off)), .a (.one (.int k i)) =>
    (tySize P e).map fun n => (within i (.lit m), .c (.ptr nm b (off + i.v.toNat * n)))
  | _, _, _ => none
theorem addr_add (b off n : Nat) : (⟨b, off, none⟩ : Addr).add n = ⟨b, off + n, none⟩ := by
  unfold Addr.add
  split
  · rename_i h; subst h; rfl
  · rfl
theorem run_indexAddrV {P : Program} [Fast P] {t : TypeId} {x ix : SV} {ps : List Prop} {v : SV} (h : indexAddrV P t x ix = some (ps, v)) (hp : ∀ p ∈ ps, p) (w : World) :
    (Instr.indexAt t x.den ix.den).run P w = .ok v.den w := by
  unfold indexAddrV at h
  split at h
  · rename_i e nm b off len cap k i hu
    cases hs : tySize P e with
    | none => rw [hs] at h; simp at h
    | some n =>
      rw [hs] at h
      simp at h
      obtain ⟨rfl, rfl⟩ := h
      have hw := within_spec hp
      unfold Instr.indexAt
      simp [SV.den, SA.den, SC.den, asIntOf, run_underlying' hu, hw, run_sizeOf' hs, addr_add]
  · rename_i m e nm b off k i hu
    cases hs : tySize P e with
    | none => rw [hs] at h; simp at h
    | some n =>
      rw [hs] at h
      simp at h
      obtain ⟨rfl, rfl⟩ := h
      have hw := within_spec hp
      simp [SN.v] at hw
      unfold Instr.indexAt
      simp [SV.den, SA.den, SC.den, asIntOf, run_underlying' hu, hw, run_sizeOf' hs, addr_add, Instr.sureAddr]
  · simp at h
def indexV (P : Program) [Fast P] (t : TypeId) (x ix : SV) : Option (List Prop × SV) :=
  match Fast.und P t, x, ix with
  | some (.array m e), .a (.agg l), .a (.one (.int k (.lit i))) =>
    match tySize P e with
    | some n => (tyPart P e l (i.toNat * n)).map fun r => (within (.lit i) (.lit m), .a r)
    | none => none
  | _, _, _ => none
theorem run_indexV {P : Program} [Fast P] {t : TypeId} {x ix : SV} {ps : List Prop} {v : SV} (h : indexV P t x ix = some (ps, v)) (hp : ∀ p ∈ ps, p) (w : World) :
    (Instr.index t x.den ix.den).run P w = .ok v.den w := by
  unfold indexV at h
  split at h
  · rename_i m e l k i hu
    split at h
    · rename_i n hs
      cases hr : tyPart P e l (i.toNat * n) with
      | none => rw [hr] at h; simp at h
      | some r =>
        rw [hr] at h
        simp at h
        obtain ⟨rfl, rfl⟩ := h
        have hw := within_spec hp
        simp [SI.v, SN.v] at hw
        unfold Instr.index
        simp [SV.den, SA.den, SC.den, SI.v, asIntOf, run_underlying' hu, hw, run_sizeOf' hs, run_part' hr]
    · simp at h
  · simp at h
def fieldAddrV (P : Program) [Fast P] (s : TypeId) (x : SV) (f : Nat) : Option (List Prop × SV) :=
  match Fast.und P s, x with
  | some (.struct fs), .a (.one (.ptr nm b off)) =>
    match fs[f]? with
    | some f => match tySize P f.type with
      | some (n + 1) => some ([], .c (.ptr nm b (off + f.offset)))
      | _ => none
    | none => none
  | _, _ => none
theorem run_fieldAddrV {P : Program} [Fast P] {s : TypeId} {x : SV} {f : Nat} {ps : List Prop} {v : SV} (h : fieldAddrV P s x f = some (ps, v)) (w : World) :
    (Instr.fieldAt s x.den f).run P w = .ok v.den w := by
  unfold fieldAddrV at h
  split at h
  · rename_i fs nm b off hu
    split at h
    · rename_i g hg
      split at h
      · rename_i n hs
        simp at h
        obtain ⟨rfl, rfl⟩ := h
        unfold Instr.fieldAt
        simp [SV.den, SA.den, SC.den, run_underlying' hu, hg, Instr.sureAddr, fieldPlace, run_sizeOf' hs, addr_add]
      · simp at h
    · simp at h
  · simp at h
def fieldV (P : Program) [Fast P] (t : TypeId) (x : SV) (f : Nat) : Option (List Prop × SV) :=
  match Fast.und P t, x with
  | some (.struct fs), .a (.agg l) =>
    match fs[f]? with
    | some f => (tyPart P f.type l f.offset).map fun r => ([], .a r)
    | none => none
  | _, _ => none
theorem run_fieldV {P : Program} [Fast P] {t : TypeId} {x : SV} {f : Nat} {ps : List Prop} {v : SV} (h : fieldV P t x f = some (ps, v)) (w : World) :
    (Instr.field t x.den f).run P w = .ok v.den w := by
  unfold fieldV at h
  split at h
  · rename_i fs l hu
    split at h
    · rename_i g hg
      cases hr : tyPart P g.type l g.offset with
      | none => rw [hr] at h; simp at h
      | some r =>
        rw [hr] at h
        simp at h
        obtain ⟨rfl, rfl⟩ := h
        unfold Instr.field
        simp [SV.den, SA.den, run_underlying' hu, hg, asAgg, run_part' hr]
    · simp at h
  · simp at h
def unV (op : UnOp) (x : SV) : Option (List Prop × SV) :=
  match op, x with
  | .not, .a (.one (.bool b)) => some ([], .c (.bool (notSB b)))
  | .neg, .a (.one (.int k n)) => let r := arith k (· - ·) (.lit 0) n; some (r.1, .c r.2)
  | _, _ => none
theorem run_unV {P : Program} [Fast P] {op : UnOp} {x : SV} {ps : List Prop} {v : SV} (h : unV op x = some (ps, v)) (hp : ∀ p ∈ ps, p) (w : World) : (Op.unary op x.den).run P w = .ok v.den w := by
  unfold unV at h
  split at h
  · simp at h
    obtain ⟨rfl, rfl⟩ := h
    simp [SV.den, SA.den, SC.den, Op.unary, notSB_v]
  · rename_i k n
    simp at h
    obtain ⟨rfl, rfl⟩ := h
    have := arith_den k (· - ·) (.lit 0) n hp
    show (Op.unary .neg (.int k n.v)).run P w = .ok (arith k (· - ·) (.lit 0) n).2.den w
    rw [this]
    simp [Op.unary, Op.intArith, SI.v]
  · simp at h
def convV (P : Program) [Fast P] (src dst : TypeId) (x : SV) : Option (List Prop × SV) :=
  match Fast.und P src, Fast.und P dst, x with
  | some (.int _), some (.int k), .a (.one (.int _ n)) => some ([], .c (.int k (match n with | .lit n => .lit (k.wrap n) | .sym n => .sym (k.wrap n))))
  | _, _, _ => none
theorem run_convV {P : Program} [Fast P] {src dst : TypeId} {x : SV} {ps : List Prop} {v : SV} (h : convV P src dst x = some (ps, v)) (w : World) : (convert src dst x.den).run P w = .ok v.den w := by
  unfold convV at h
  split at h
  · rename_i k0 k k1 n hs hd
    simp at h
    obtain ⟨rfl, rfl⟩ := h
    unfold convert
    simp [SV.den, SA.den, SC.den, run_underlying' hs, run_underlying' hd, Conv.intToInt]
    cases n <;> rfl
  · simp at h
def extractV (x : SV) (i : Nat) : Option (List Prop × SV) :=
  match x with
  | .tup l => (l[i]?).map fun r => ([], .a r)
  | _ => none
theorem run_extractV {P : Program} [Fast P] {x : SV} {i : Nat} {ps : List Prop} {v : SV} (h : extractV x i = some (ps, v)) (w : World) : (Instr.extract x.den i).run P w = .ok v.den w := by
  unfold extractV at h
  split at h
  · rename_i l
    cases hl : l[i]? with
    | none => rw [hl] at h; simp at h
    | some r =>
      rw [hl] at h
      simp at h
      obtain ⟨rfl, rfl⟩ := h
      simp [SV.den, Instr.extract, hl]
  · simp at h
/-- A bound of a slice expression: none, or one that is known. -/
def bound (fr : List SV) : Option Operand → Option (Option Nat)
  | none => some none
  | some x => match opnd fr x with
    | .a (.one (.int .i64 (.lit n))) => bif decide (0 ≤ n) then some (some n.toNat) else none
    | _ => none
def sliceV (P : Program) [Fast P] (fr : List SV) (t : TypeId) (x : SV) (lo hi mx : Option Operand) : Option (List Prop × SV) :=
  match Fast.und P t, x, bound fr lo, bound fr hi, mx with
  | some (.slice e), .a (.one (.slice nm b off (.lit len) (.lit cap))), some l, some h, none =>
    match tySize P e with
    | some n =>
      let h := h.getD len
      let l := l.getD 0
      bif Nat.ble l h && Nat.ble h cap && !(Nat.beq cap l) then some ([], .c (.slice nm b (off + l * n) (.lit (h - l)) (.lit (cap - l)))) else
      bif Nat.ble l h && Nat.ble h cap then some ([], .c (.slice nm b off (.lit (h - l)) (.lit (cap - l)))) else none
    | none => none
  | some (.array m e), .a (.one (.ptr nm b off)), some l, some h, none =>
    match tySize P e with
    | some n =>
      let h := h.getD m
      let l := l.getD 0
      bif Nat.ble l h && Nat.ble h m && !(Nat.beq m l) then some ([], .c (.slice nm b (off + l * n) (.lit (h - l)) (.lit (m - l)))) else none
    | none => none
  | _, _, _, _, _ => none
theorem bound_den {fr : List SV} {x : Option Operand} {r : Option Nat} (h : bound fr x = some r) (ds : List Deferred) :
    x.map (⟨fden fr, ds⟩ : Act).eval = r.map fun (n : Nat) => Value.int .i64 (n : Int) := by
  cases x with
  | none => simp [bound] at h; subst h; rfl
  | some x =>
    simp only [bound] at h
    split at h
    · rename_i n hx
      cases hn : decide (0 ≤ n) with
      | false => rw [hn] at h; simp at h
      | true =>
        rw [hn] at h
        simp at h hn
        subst h
        simp only [Option.map_some, opnd_den, hx, SV.den, SA.den, SC.den, SI.v]
        congr 2
        omega
    · simp at h
theorem run_sliceBound {P : Program} [Fast P] (n y : Nat) (c : BoundsCode) (h : n ≤ y) (w : World) : (Instr.sliceBound (.int .i64 (n : Int)) y c).run P w = .ok n w := by
  unfold Instr.sliceBound
  simp [asIntOf, h]
theorem run_sliceBounds {P : Program} [Fast P] (s : Bool) (len cap : Nat) (lo hi : Option Nat) (h1 : lo.getD 0 ≤ hi.getD len) (h2 : hi.getD len ≤ cap) (w : World) :
    (Instr.sliceBounds s len cap (lo.map fun (n : Nat) => Value.int .i64 (n : Int)) (hi.map fun (n : Nat) => Value.int .i64 (n : Int)) none).run P w = .ok (lo.getD 0, hi.getD len, cap) w := by
  unfold Instr.sliceBounds
  cases lo with
  | none =>
    cases hi with
    | none => simp
    | some h => simp at h2; simp [run_sliceBound _ _ _ h2]
  | some l =>
    cases hi with
    | none => simp at h1; simp [run_sliceBound _ _ _ h1]
    | some h => simp at h1 h2; simp [run_sliceBound _ _ _ h1, run_sliceBound _ _ _ h2]
theorem run_sliceV {P : Program} [Fast P] {fr : List SV} {t : TypeId} {x : SV} {lo hi mx : Option Operand} {ps : List Prop} {v : SV} (h : sliceV P fr t x lo hi mx = some (ps, v)) (ds : List Deferred) (w : World) :
    (Instr.sliceAt t x.den (lo.map (⟨fden fr, ds⟩ : Act).eval) (hi.map (⟨fden fr, ds⟩ : Act).eval) (mx.map (⟨fden fr, ds⟩ : Act).eval)).run P w = .ok v.den w := by
  unfold sliceV at h
  split at h
  · rename_i e nm b off len cap l hh hu hl hhi
    rw [bound_den hl, bound_den hhi]
    split at h
    · rename_i n hs
      simp only at h
      cases hc : (Nat.ble (l.getD 0) (hh.getD len) && Nat.ble (hh.getD len) cap && !(Nat.beq cap (l.getD 0))) with
      | true =>
        rw [hc] at h
        simp at h hc
        obtain ⟨rfl, rfl⟩ := h
        obtain ⟨⟨c1, c2⟩, c3⟩ := hc
        have hb := run_sliceBounds (P := P) true len cap l hh c1 c2 w
        have c3' : ¬ (cap = l.getD 0) := fun h => by rw [h, Nat.beq_refl] at c3; cases c3
        unfold Instr.sliceAt Instr.slice
        simp only [SV.den, SA.den, SC.den, SN.v, Sem.run_bind, run_underlying' hu, Result.andThen_ok, Option.map_none, hb, run_sizeOf' hs, if_neg c3', Sem.run_pure, Option.map_some, addr_add]
      | false =>
        rw [hc] at h
        cases hd : (Nat.ble (l.getD 0) (hh.getD len) && Nat.ble (hh.getD len) cap) with
        | false => rw [hd] at h; simp at h
        | true =>
          rw [hd] at h hc
          simp at h hc hd
          obtain ⟨rfl, rfl⟩ := h
          obtain ⟨c1, c2⟩ := hd
          have hb := run_sliceBounds (P := P) true len cap l hh c1 c2 w
          unfold Instr.sliceAt Instr.slice
          simp only [SV.den, SA.den, SC.den, SN.v, Sem.run_bind, run_underlying' hu, Result.andThen_ok, Option.map_none, hb, run_sizeOf' hs, if_pos hc, Sem.run_pure, Option.map_some, addr_add]
    · simp at h
  · rename_i m e nm b off l hh hu hl hhi
    rw [bound_den hl, bound_den hhi]
    split at h
    · rename_i n hs
      simp only at h
      cases hc : (Nat.ble (l.getD 0) (hh.getD m) && Nat.ble (hh.getD m) m && !(Nat.beq m (l.getD 0))) with
      | true =>
        rw [hc] at h
        simp at h hc
        obtain ⟨rfl, rfl⟩ := h
        obtain ⟨⟨c1, c2⟩, c3⟩ := hc
        have hb := run_sliceBounds (P := P) false m m l hh c1 c2 w
        have c3' : ¬ (m = l.getD 0) := fun h => by rw [h, Nat.beq_refl] at c3; cases c3
        unfold Instr.sliceAt
        simp only [SV.den, SA.den, SC.den, SN.v, Sem.run_bind, run_underlying' hu, Result.andThen_ok, Option.map_none, hb, run_sizeOf' hs, if_neg c3', Sem.run_pure, Option.map_some, addr_add, Instr.sureAddr]
      | false => rw [hc] at h; simp at h
    · simp at h
  · simp at h
end Go.Proofs.Ytmmpnjcmaodkcaa.Ev
/- What is proved: loads and stores of a heap that is described block by block. Conditions: the evaluator's own premises. -/
namespace Go.Proofs.Ytmmpnjcmaodkcaa.Ev
open Go Go.Proofs.Ytmmpnjcmaodkcaa.Sep
set_option linter.unusedVariables false
set_option linter.unusedSimpArgs false

/-- What else a block may hold: words that the statements' own proofs give. -/
class Abs (A : Type) where
  den : A → Nat → HProp
  load : (P : Program) → [Fast P] → TypeId → Nat → Nat → Nat → A → Option (List Prop × SV)
  load_ok : ∀ {P : Program} [Fast P] {t : TypeId} {b off b' : Nat} {x : A} {ps : List Prop} {v : SV}, load P t b off b' x = some (ps, v) → (∀ p ∈ ps, p) → ∀ {w : World} {R : HProp}, Holds w (den x b' * R) →
    (loadVar t ⟨b, off, none⟩).run P w = .ok v.den w
inductive SO (A : Type) where
  | cells (l : List SC) (T : TypeId)
  | row (ws : List Int) (T : TypeId)
  | abs (x : A)
abbrev SH (A : Type) := List (Nat × Nat × SO A)
def rowV (ws : List Int) : Array Value := (ws.map (Value.int .u64)).toArray
section
variable {A : Type} [Abs A]
def SO.den (b : Nat) : SO A → HProp
  | .cells l T => pt b (.cells (dens l) T (0, 0))
  | .row ws T => pt b (.cells (rowV ws) T (0, 0))
  | .abs x => Abs.den x b
def hden : SH A → HProp
  | [] => emp
  | (_, b, o) :: r => o.den b * hden r
def find : SH A → Nat → Option (Nat × SO A)
  | [], _ => none
  | (m, b, o) :: r, n => bif Nat.beq m n then some (b, o) else find r n
def del : SH A → Nat → SH A
  | [], _ => []
  | (m, b, o) :: r, n => bif Nat.beq m n then r else (m, b, o) :: del r n
def put : SH A → Nat → SO A → SH A
  | [], _, _ => []
  | (m, b, o) :: r, n, o' => bif Nat.beq m n then (m, b, o') :: r else (m, b, o) :: put r n o'
theorem find_den {n b : Nat} {o : SO A} : ∀ (H : SH A), find H n = some (b, o) → hden H = (o.den b * hden (del H n))
  | [], h => by simp [find] at h
  | (m, b', o') :: r, h => by
    unfold find at h
    unfold del
    cases hm : Nat.beq m n with
    | true => rw [hm] at h; simp at h; obtain ⟨rfl, rfl⟩ := h; rfl
    | false =>
      rw [hm] at h
      simp only [cond_false] at h ⊢
      unfold hden
      rw [find_den r h]
      ac_rfl
theorem put_den {n b : Nat} {o o1 : SO A} : ∀ (H : SH A), find H n = some (b, o) → hden (put H n o1) = (o1.den b * hden (del H n))
  | [], h => by simp [find] at h
  | (m, b', o') :: r, h => by
    unfold find at h
    unfold del put
    cases hm : Nat.beq m n with
    | true => rw [hm] at h; simp at h; obtain ⟨rfl, rfl⟩ := h; rfl
    | false =>
      rw [hm] at h
      simp only [cond_false] at h ⊢
      unfold hden
      rw [put_den r h]
      ac_rfl
variable {w : World} {R : HProp}
theorem focus {H : SH A} {n b : Nat} {o : SO A} (h : find H n = some (b, o)) (hw : Holds w (hden H * R)) : Holds w (o.den b * (hden (del H n) * R)) :=
  hw.cast (by rw [find_den H h]; ac_rfl)
theorem unfocus {H : SH A} {n b : Nat} {o o1 : SO A} (h : find H n = some (b, o)) (hw : Holds w (o1.den b * (hden (del H n) * R))) : Holds w (hden (put H n o1) * R) :=
  hw.cast (by rw [put_den H h]; ac_rfl)

/-! ### loads -/
def loadO (P : Program) [Fast P] (t : TypeId) (b off : Nat) (b' : Nat) : SO A → Option (List Prop × SV)
  | .cells l T =>
    match tyAgg P t, tySize P t with
    | some true, some n => bif Nat.ble (off + n) l.length then some ([b = b'], .a (.agg ((l.drop off).take n))) else none
    | some false, _ => (l[off]?).map fun c => ([b = b'], .c c)
    | _, _ => none
  | .row ws T =>
    match tyAgg P t with
    | some false => some ([b = b', off < ws.length], .c (.int .u64 (.sym (ws.getD off 0))))
    | _ => none
  | .abs x => Abs.load P t b off b' x
def loadV (P : Program) [Fast P] (t : TypeId) (H : SH A) (x : SV) : Option (List Prop × SV) :=
  match x with
  | .a (.one (.ptr nm b off)) =>
    match find H nm with
    | some (b', o) => loadO P t b off b' o
    | none => none
  | _ => none
theorem run_loadVar_one {P : Program} [Fast P] {t : TypeId} (ha : tyAgg P t = some false) {a : Addr} {v : Value} (hc : w.cell? a = some v) : (loadVar t a).run P w = .ok v w := by
  unfold loadVar
  simp [run_isAgg' ha, hc]
theorem run_loadVar_agg {P : Program} [Fast P] {t : TypeId} {n : Nat} (ha : tyAgg P t = some true) (hs : tySize P t = some n) {b off : Nat} {l : List SC} (hl : l.length = n)
    (hc : ∀ j c, l[j]? = some c → w.cell? ⟨b, off + j, none⟩ = some c.den) : (loadVar t ⟨b, off, none⟩).run P w = .ok (.agg (dens l)) w := by
  unfold loadVar
  have h1 := run_loadCells_list (P := P) w ⟨b, off, none⟩ (l.map SC.den) (fun j v hj => by
    rw [addr_add]
    rw [List.getElem?_map] at hj
    cases hlj : l[j]? with
    | none => rw [hlj] at hj; simp at hj
    | some c => rw [hlj] at hj; simp at hj; subst hj; exact hc j c hlj)
  rw [List.length_map, hl] at h1
  simp only [Sem.run_bind, run_isAgg' ha, Result.andThen_ok, if_true, run_sizeOf' hs, h1, Sem.run_pure]
  rfl
theorem run_loadO {P : Program} [Fast P] {t : TypeId} {b off b' : Nat} {o : SO A} {ps : List Prop} {v : SV} (h : loadO P t b off b' o = some (ps, v)) (hp : ∀ p ∈ ps, p) (hw : Holds w (o.den b' * R)) :
    (loadVar t ⟨b, off, none⟩).run P w = .ok v.den w := by
  unfold loadO at h
  split at h
  · rename_i l T
    have hcell := Holds.cells (by exact hw : Holds w (pt b' (.cells (dens l) T (0, 0)) * R))
    split at h
    · rename_i n ha hs
      cases hb : Nat.ble (off + n) l.length with
      | false => rw [hb] at h; simp at h
      | true =>
        rw [hb] at h
        simp at h hb
        obtain ⟨rfl, rfl⟩ := h
        have he : b = b' := hp _ (List.mem_singleton.2 rfl)
        subst he
        refine run_loadVar_agg ha hs (by simp; omega) ?_
        intro j c hj
        rw [hcell]
        have : l[off + j]? = some c := by
          rw [List.getElem?_take] at hj
          split at hj
          · rw [List.getElem?_drop] at hj; exact hj
          · simp at hj
        simp [dens, this]
    · rename_i ha
      cases hl : l[off]? with
      | none => rw [hl] at h; simp at h
      | some c =>
        rw [hl] at h
        simp at h
        obtain ⟨rfl, rfl⟩ := h
        have he : b = b' := hp _ (List.mem_singleton.2 rfl)
        subst he
        exact run_loadVar_one ha (by rw [hcell]; simp [dens, hl]; rfl)
    · simp at h
  · rename_i ws T
    have hcell := Holds.cells (by exact hw : Holds w (pt b' (.cells (rowV ws) T (0, 0)) * R))
    split at h
    · rename_i ha
      simp at h
      obtain ⟨rfl, rfl⟩ := h
      have he : b = b' := hp _ (by simp)
      have hlt : off < ws.length := hp _ (by simp)
      subst he
      exact run_loadVar_one ha (by rw [hcell]; simp [rowV, hlt, SV.den, SA.den, SC.den, SI.v])
    · simp at h
  · rename_i x
    exact Abs.load_ok h hp hw
theorem run_loadV {P : Program} [Fast P] {t : TypeId} {H : SH A} {x : SV} {ps : List Prop} {v : SV} (h : loadV P t H x = some (ps, v)) (hp : ∀ p ∈ ps, p) (hw : Holds w (hden H * R)) :
    (Instr.loadAt t x.den).run P w = .ok v.den w := by
  unfold loadV at h
  split at h
  · rename_i nm b off
    split at h
    · rename_i b' o hf
      have := run_loadO h hp (focus hf hw)
      unfold Instr.loadAt
      simp [SV.den, SA.den, SC.den, Instr.sureAddr]
      exact this
    · simp at h
  · simp at h

/-! ### stores -/
def SC.okc : SC → Bool
  | .raw _ => false
  | _ => true
theorem SC.okc_one {c : SC} (h : c.okc = true) : c.den.oneCell' = true := by
  cases c <;> first | rfl | cases h
theorem run_storeCells {P : Program} {b T : Nat} : ∀ (cs : List SC) (l : List SC) (off : Nat) (w : World) (i : Nat), Holds w (pt b (.cells (dens l) T (0, 0)) * R) → off + i + cs.length ≤ l.length → (∀ c ∈ cs, c.okc = true) →
    ∃ w', (storeCells ⟨b, off, none⟩ (cs.map SC.den) i).run P w = .ok () w' ∧ Holds w' (pt b (.cells (dens (over l (off + i) cs)) T (0, 0)) * R) ∧ Strm w w'
  | [], l, off, w, i, hw, hl, hc => by
    refine ⟨w, by simp [storeCells], ?_, Strm.refl w⟩
    simpa [over] using hw
  | c :: cs, l, off, w, i, hw, hl, hc => by
    simp only [List.length_cons] at hl
    have hlt : off + i < l.length := by omega
    have hcell : w.cell? ⟨b, off + i, none⟩ = some (l[off + i]).den := by rw [hw.cells]; simp [dens, hlt]
    have hfr := hw.frees (off + i)
    have h1 := hw.set (off + i) c.den
    have e1 : (dens l).setIfInBounds (off + i) c.den = dens (l.set (off + i) c) := by simp [dens, List.map_set]
    rw [e1] at h1
    obtain ⟨w', h2, h3, h4⟩ := run_storeCells (P := P) cs (l.set (off + i) c) off _ (i + 1) h1 (by simp; omega) (fun x hx => hc x (List.mem_cons_of_mem _ hx))
    refine ⟨w', ?_, ?_, ((Strm.refl w).set _ _).trans h4⟩
    · rw [List.map_cons, storeCells]
      simp only [Sem.run_bind, addr_add, run_store P w _ _ _ (SC.okc_one (hc c (List.mem_cons_self ..))), hcell, hfr, Bool.false_eq_true, if_false, Result.andThen_ok]
      exact h2
    · have e2 : over (l.set (off + i) c) (off + (i + 1)) cs = over l (off + i) (c :: cs) := by
        unfold over
        have e5 : (l.set (off + i) c).take (off + (i + 1)) = l.take (off + i) ++ [c] := by
          rw [show off + (i + 1) = off + i + 1 by omega, List.take_succ_eq_append_getElem (by simpa using hlt)]
          simp only [List.getElem_set_self]
          congr 1
          apply List.ext_getElem?
          intro k
          rw [List.getElem?_take, List.getElem?_take]
          split
          · rw [List.getElem?_set_ne (by omega)]
          · rfl
        rw [e5, List.length_cons, show off + (i + 1) + cs.length = off + i + (cs.length + 1) by omega, List.drop_set_of_lt (by omega)]
        simp
      rw [e2] at h3
      exact h3
def storeV (P : Program) [Fast P] (t : TypeId) (H : SH A) (x y : SV) : Option (List Prop × SH A) :=
  match x, y with
  | .a (.one (.ptr nm b off)), .a y =>
    match find H nm, tySize P t with
    | some (b', .cells l T), some n =>
      bif y.cells.all SC.okc && (Nat.beq y.cells.length n && Nat.ble (off + n) l.length) then some ([b = b'], put H nm (.cells (over l off y.cells) T)) else none
    | some (b', .row ws T), some 1 =>
      match y with
      | .one (.int .u64 v) => some ([b = b', off < ws.length], put H nm (.row (ws.set off v.v) T))
      | _ => none
    | _, _ => none
  | _, _ => none
theorem all_okc_plain {y : SA} (h : y.cells.all SC.okc = true) : y.plain = true := by
  cases y with
  | agg l => rfl
  | one c => cases c <;> first | rfl | (simp [SA.cells, SC.okc] at h)
theorem run_storeV {P : Program} [Fast P] {t : TypeId} {H H' : SH A} {x y : SV} {ps : List Prop} (h : storeV P t H x y = some (ps, H')) (hp : ∀ p ∈ ps, p) (hw : Holds w (hden H * R)) :
    ∃ w', (Instr.storeAt t x.den y.den).run P w = .ok () w' ∧ Holds w' (hden H' * R) ∧ Strm w w' := by
  unfold storeV at h
  split at h
  · rename_i nm b off y
    split at h
    · rename_i b' l T n hf hs
      cases hb : (y.cells.all SC.okc && (Nat.beq y.cells.length n && Nat.ble (off + n) l.length)) with
      | false => rw [hb] at h; simp at h
      | true =>
        rw [hb] at h
        rw [Bool.and_eq_true, Bool.and_eq_true] at hb
        obtain ⟨h1, h2, h3⟩ := hb
        simp at h
        obtain ⟨rfl, rfl⟩ := h
        have he : b = b' := hp _ (List.mem_singleton.2 rfl)
        subst he
        have h2' : y.cells.length = n := Nat.eq_of_beq_eq_true h2
        have h3' : off + n ≤ l.length := Nat.le_of_ble_eq_true h3
        obtain ⟨w', r1, r2, r3⟩ := run_storeCells (P := P) y.cells l off w 0 (focus hf hw) (by omega) (fun c hc => List.all_eq_true.1 h1 c hc)
        refine ⟨w', ?_, unfocus hf r2, r3⟩
        have hy : y.den.cells = dens y.cells := SA.cells_den y (all_okc_plain h1)
        have hsz : (dens y.cells).size = n := by simp [dens, h2']
        show (Instr.storeAt t (.pointer (some ⟨b, off, none⟩)) y.den).run P w = _
        generalize y.den = yv at hy
        unfold Instr.storeAt storeVar
        simp only [Sem.run_bind, Instr.sureAddr, Sem.run_pure, Result.andThen_ok, run_sizeOf' hs]
        rw [hy, if_neg (by rw [hsz]; simp)]
        simpa [dens] using r1
    · rename_i b' ws T hf hs
      split at h
      · rename_i v
        simp at h
        obtain ⟨rfl, rfl⟩ := h
        have he : b = b' := hp _ (by simp)
        have hlt : off < ws.length := hp _ (by simp)
        subst he
        have hw1 : Holds w (pt b (.cells (rowV ws) T (0, 0)) * (hden (del H nm) * R)) := focus hf hw
        have hcell : w.cell? ⟨b, off, none⟩ = some (.int .u64 ws[off]) := by rw [hw1.cells]; simp [rowV, hlt]
        have hfr := hw1.frees off
        have h1 := hw1.set off (.int .u64 v.v)
        have e1 : (rowV ws).setIfInBounds off (.int .u64 v.v) = rowV (ws.set off v.v) := by simp [rowV, List.map_set]
        rw [e1] at h1
        refine ⟨_, ?_, unfocus hf h1, (Strm.refl w).set _ _⟩
        show (Instr.storeAt t (.pointer (some ⟨b, off, none⟩)) (.int .u64 v.v)).run P w = _
        unfold Instr.storeAt storeVar
        have hz : ¬ ((Value.int .u64 v.v).cells.size ≠ 1) := by simp [Value.cells]
        simp only [Sem.run_bind, Instr.sureAddr, Sem.run_pure, Result.andThen_ok, run_sizeOf' hs, if_neg hz]
        simp [Value.cells, storeCells, addr_add, run_store P w _ (.int .u64 v.v) _ rfl, hcell, hfr]
      · simp at h
    · simp at h
  · simp at h

/-! ### new blocks -/
theorem alloc_holds {H : SH A} (hw : Holds w (hden H * R)) (l : List SC) (T n : Nat) : Holds (w.alloc (.cells (dens l) T)) (hden ((n, w.heap.size, SO.cells l T) :: H) * R) :=
  (hw.alloc (.cells (dens l) T)).cast (by
    show _ = (pt w.heap.size (.cells (dens l) T (0, 0)) * hden H) * R
    ac_rfl)
theorem run_alloc' {P : Program} [Fast P] {t : TypeId} {l : List SC} (h : zeroC P t = some l) : (Instr.alloc t true (.tuple #[])).run P w = .ok (.pointer (some ⟨w.heap.size, 0, none⟩)) (w.alloc (.cells (dens l) t)) := by
  unfold zeroC at h
  split at h
  · rename_i v hv
    simp only [Option.some.injEq] at h
    subst h
    unfold Instr.alloc newVar newRow
    simp [run_zeroValue' hv, dens_of]
  · cases h
theorem run_box' {P : Program} {t : TypeId} {x : SA} (h : x.plain = true) : (Instr.box t x.den).run P w = .ok (.pointer (some ⟨w.heap.size, 0, none⟩)) (w.alloc (.cells (dens x.cells) t)) := by
  unfold Instr.box newVar newRow
  simp [SA.cells_den x h]
def rowOf (z : List SC) (k : Nat) : List SC := (List.range (k * z.length)).map fun i => (z[i % z.length]?).getD .nil
def sliceC (P : Program) [Fast P] (t : TypeId) (len : Nat) (parts : List (Nat × SA)) : Option (TypeId × List SC) :=
  match Fast.und P t with
  | some (.slice e) =>
    match tySize P e, zeroC P e with
    | some n, some z =>
      bif Nat.beq z.length n && (Nat.blt 0 (len * n) && Nat.ble (len * n) 4096) then (fillC (fun i => some (i * n, n)) (rowOf z len) parts).map fun l => (e, l) else none
    | _, _ => none
  | _ => none
theorem run_sliceC {P : Program} [Fast P] {t : TypeId} {len : Nat} {parts : List (Nat × SA)} {e : TypeId} {l : List SC} (h : sliceC P t len parts = some (e, l)) :
    (Instr.buildSlice t len (parts.map fun p => (p.1, p.2.den)).toArray).run P w = .ok (.slice (some ⟨w.heap.size, 0, none⟩) len len) (w.alloc (.cells (dens l) e)) := by
  unfold sliceC at h
  split at h
  · rename_i e' hu
    split at h
    · rename_i n z hs hz
      cases hc : (Nat.beq z.length n && (Nat.blt 0 (len * n) && Nat.ble (len * n) 4096)) with
      | false => rw [hc] at h; cases h
      | true =>
        rw [hc] at h
        simp only [cond_true] at h
        rw [Bool.and_eq_true, Bool.and_eq_true] at hc
        have c1 := Nat.eq_of_beq_eq_true hc.1
        have c2 : 0 < len * n := Nat.le_of_ble_eq_true hc.2.1
        have c3 := Nat.le_of_ble_eq_true hc.2.2
        cases hf : fillC (fun i => some (i * n, n)) (rowOf z len) parts with
        | none => rw [hf] at h; cases h
        | some l' =>
          rw [hf] at h
          simp only [Option.map_some, Option.some.injEq, Prod.mk.injEq] at h
          obtain ⟨rfl, rfl⟩ := h
          have hfd := fillC_den _ _ _ _ hf
          unfold zeroC at hz
          split at hz
          · rename_i v hv
            · simp only [Option.some.injEq] at hz
              have hzv : dens z = v.cells := by rw [← hz]; exact dens_of _
              have hz0 : z.length = v.cells.size := by rw [← hz]; simp
              have hrow : dens (rowOf z len) = (Array.range (len * n)).map (v.cells[· % v.cells.size]!) := by
                unfold dens rowOf
                rw [← hzv, List.map_map, c1]
                apply Array.ext'
                simp only [Array.toList_map, Array.toList_range]
                apply List.map_congr_left
                intro i hi'
                have hpos : 0 < z.length := by
                  rcases Nat.eq_zero_or_pos z.length with h | h
                  · rw [c1] at h; rw [h] at c2; simp at c2
                  · exact h
                have hlt : i % n < z.length := by rw [← c1]; exact Nat.mod_lt _ hpos
                have hsz : (dens z).size = n := by simp [dens, c1]
                simp only [Function.comp]
                rw [hsz]
                have e1 : (dens z)[i % n]! = z[i % n].den := by
                  rw [getElem!_pos (dens z) (i % n) (by simpa [dens] using hlt)]
                  simp [dens]
                rw [e1, List.getElem?_eq_getElem hlt]
                rfl
              have hn0 : ¬ (len * n > 2 ^ 24) := by omega
              have hn1 : ¬ (len * n = 0) := by omega
              unfold Instr.buildSlice
              have hzr : (zeroValue e').run P w = .ok v w := run_zeroValue' hv w
              simp only [Sem.run_bind, run_underlying' hu, Result.andThen_ok, run_sizeOf' hs, if_neg hn0, if_neg hn1, hzr, Sem.run_pure]
              rw [← hrow]
              simp only [hfd]
              unfold newRow
              simp
          · cases hz
    · cases h
  · cases h
end
end Go.Proofs.Ytmmpnjcmaodkcaa.Ev
/- What is proved: the evaluator of code over a heap that is described block by block: what it finds holds of the call, in every order that a region may draw. Conditions: the evaluator's own premises. -/
namespace Go.Proofs.Ytmmpnjcmaodkcaa.Ev
open Go Go.Proofs.Ytmmpnjcmaodkcaa.Sep
set_option linter.unusedVariables false
set_option linter.unusedSimpArgs false
section
variable {A : Type} [Abs A]
/-- What the evaluator finds: an end; two ways; something that has to hold; a new block; two orders. -/
inductive Leaf (A : Type) where
  | val (v : SV) (H : SH A) (n : Nat)
  | stop (e : Exit) (fr : List SV) (H : SH A) (n : Nat)
inductive Tree (A : Type) where
  | done (x : Leaf A)
  | loop (c : Code) (fr : List SV) (H : SH A) (n : Nat) (K : Exit → List SV → SH A → Nat → Tree A)
  | ite (c : Bool) (a b : Tree A)
  | need (p : Prop) (t : Tree A)
  | new (f : Nat → Tree A)
  | both (a b : Tree A)
  | fail
/-- A loop, from a frame and a heap on: what it comes to by an exit. -/
def LoopSays [Abs A] (P : Program) (c : Code) (fr : List SV) (H : SH A) (Z : Exit → List SV → SH A → Nat → Prop) : Prop :=
  ∀ (w : World) (R : HProp) (Q : Exit → Act → World → Prop), Holds w (hden H * R) → (∀ e fr' H' n' w', Z e fr' H' n' → Holds w' (hden H' * R) → Strm w w' → Q e ⟨fden fr', []⟩ w') → (Code.loop c).wp P Q ⟨fden fr, []⟩ w
def Tree.Leads [Abs A] (P : Program) : Tree A → (Leaf A → Prop) → Prop
  | .done x, L => L x
  | .loop c fr H n K, L => LoopSays P c fr H fun e fr' H' n' => (K e fr' H' n').Leads P L
  | .ite c a b, L => (c = true → a.Leads P L) ∧ (c = false → b.Leads P L)
  | .need p t, L => p ∧ t.Leads P L
  | .new f, L => ∀ b, (f b).Leads P L
  | .both a b, L => a.Leads P L ∧ b.Leads P L
  | .fail, _ => False
def needs : List Prop → Tree A → Tree A
  | [], t => t
  | p :: ps, t => .need p (needs ps t)
theorem needs_leads {P : Program} {L : Leaf A → Prop} : ∀ {ps : List Prop} {t : Tree A}, (needs ps t).Leads P L → (∀ p ∈ ps, p) ∧ t.Leads P L
  | [], t, h => ⟨fun p hp => (by cases hp), h⟩
  | p :: ps, t, h => by
    obtain ⟨h1, h2⟩ := h
    obtain ⟨h3, h4⟩ := needs_leads h2
    exact ⟨fun q hq => by
      rcases List.mem_cons.1 hq with rfl | hq
      · exact h1
      · exact h3 q hq, h4⟩
/-- What holds of itself: for short. -/
def same : List Nat → Tree A → Tree A
  | [], t => t
  | b :: r, t => .need (b = b) (same r t)
def sameC : List SC → Tree A → Tree A
  | [], t => t
  | c :: r, t => .need (c.den = c.den) (sameC r t)
theorem same_leads {P : Program} {L : Leaf A → Prop} : ∀ (l : List Nat) (t : Tree A), (same l t).Leads P L = t.Leads P L
  | [], t => rfl
  | b :: r, t => by show (_ ∧ (same r t).Leads P L) = _; rw [same_leads r t]; simp
theorem sameC_leads {P : Program} {L : Leaf A → Prop} : ∀ (l : List SC) (t : Tree A), (sameC l t).Leads P L = t.Leads P L
  | [], t => rfl
  | b :: r, t => by show (_ ∧ (sameC r t).Leads P L) = _; rw [sameC_leads r t]; simp
abbrev Kont (A : Type) := SV → SH A → Nat → Tree A
abbrev Caller (A : Type) := Nat → List SV → SH A → Nat → Kont A → Tree A
/-- A call by the evaluator holds of the program. -/
def CallerOk (P : Program) (call : Caller A) : Prop :=
  ∀ f args H n k (L : Leaf A → Prop), (call f args H n k).Leads P L → ∀ (w : World) (R : HProp), Holds w (hden H * R) → ∀ Q : Ending → World → Prop,
    (∀ v H' n' w', (k v H' n').Leads P L → Holds w' (hden H' * R) → Strm w w' → Q (.returned v.den) w') → Calls P f (args.map SV.den).toArray w Q
def isBody (P : Program) [Fast P] (f : Nat) : Bool :=
  match Fast.func P f with
  | some fn => fn.body.isSome
  | none => false
def argsV (fr : List SV) : List Operand → List SV
  | [] => []
  | x :: l => opnd fr x :: argsV fr l
theorem argsV_den (fr : List SV) (ds : List Deferred) : ∀ l, l.map (⟨fden fr, ds⟩ : Act).eval = (argsV fr l).map SV.den
  | [] => rfl
  | x :: l => by simp only [List.map_cons, argsV, ← argsV_den fr ds l]; rw [opnd_den]
def ptrV (p : Nat × Nat × Nat) : SV := .c (.ptr p.1 p.2.1 p.2.2)
theorem ptrV_den (l : List (Nat × Nat × Nat)) : (l.map ptrV).map SV.den = l.map pden := by
  rw [List.map_map]; rfl
/-! ### operations without memory, together -/
def pureOp (P : Program) [Fast P] (fr : List SV) (o : Oper) : Option (List Prop × SV) :=
  match o.op with
  | .move x => some ([], opnd fr x)
  | .assign x => some ([], opnd fr x)
  | .pick c a b =>
    match opnd fr c with
    | .a (.one (.bool (.lit c))) => some ([], bif c then opnd fr a else opnd fr b)
    | _ => none
  | .nilCheck x =>
    match opnd fr x with
    | .a (.one (.ptr nm b o)) => some ([], .c (.ptr nm b o))
    | .a (.one (.func f a c)) => some ([], .c (.func f a c))
    | _ => none
  | .build t parts =>
    match partsA fr parts.toList with
    | some r => (builtC P t r).map fun l => ([], .a (.agg l))
    | none => none
  | .binOp op t x y _ => binV P op t (opnd fr x) (opnd fr y)
  | .unOp op _ x => unV op (opnd fr x)
  | .convert s d x => convV P s d (opnd fr x)
  | .makeFunc (.func f) first cap =>
    match ptrsA fr first.toList, ptrsA fr cap.toList with
    | some a, some c => some ([], .c (.func f a c))
    | _, _ => none
  | .slice t x lo hi mx => sliceV P fr t (opnd fr x) lo hi mx
  | .fieldAddr s x f => fieldAddrV P s (opnd fr x) f
  | .field t x f => fieldV P t (opnd fr x) f
  | .indexAddr t x i => indexAddrV P t (opnd fr x) (opnd fr i)
  | .index t x i => indexV P t (opnd fr x) (opnd fr i)
  | .extract x i => extractV (opnd fr x) i
  | .call c =>
    match c.callee, c.args.toList, c.argTypes.toList with
    | .builtin .len, [x], [t] =>
      match Fast.und P t, opnd fr x with
      | some (.slice _), .a (.one (.slice _ _ _ (.lit n) _)) => some ([], .c (.int .i64 (.lit (n : Int))))
      | some (.slice _), .a (.one (.slice _ _ _ (.sym n) _)) => some ([], .c (.int .i64 (.sym (n : Int))))
      | some (.slice _), .a (.one .snil) => some ([], .c (.int .i64 (.lit 0)))
      | some (.array n _), _ => some ([], .c (.int .i64 (.lit (n : Int))))
      | _, _ => none
    | _, _, _ => none
  | _ => none
theorem run_pureOp {P : Program} [Fast P] {fr : List SV} {o : Oper} {ps : List Prop} {v : SV} (h : pureOp P fr o = some (ps, v)) (hp : ∀ p ∈ ps, p) (ds : List Deferred) (w : World) :
    (execOp (⟨fden fr, ds⟩ : Act).eval o).run P w = .ok (.value v.den) w := by
  unfold pureOp at h
  unfold execOp
  split at h
  · rename_i x ho
    simp at h; obtain ⟨rfl, rfl⟩ := h
    simp [ho, opnd_den]
  · rename_i x ho
    simp at h; obtain ⟨rfl, rfl⟩ := h
    simp [ho, opnd_den]
  · rename_i c a b ho
    split at h
    · rename_i c' hc
      simp at h; obtain ⟨rfl, rfl⟩ := h
      simp only [ho, opnd_den, hc, SV.den, SA.den, SC.den, SB.v, asBool]
      cases c' <;> simp <;> rfl
    · simp at h
  · rename_i x ho
    split at h
    · rename_i nm b off hx
      simp at h; obtain ⟨rfl, rfl⟩ := h
      simp only [ho, opnd_den, hx]
      rfl
    · rename_i f a c hx
      simp at h; obtain ⟨rfl, rfl⟩ := h
      simp only [ho, opnd_den, hx]
      rfl
    · simp at h
  · rename_i t parts ho
    split at h
    · rename_i r hr
      cases hb : builtC P t r with
      | none => rw [hb] at h; simp at h
      | some l =>
        rw [hb] at h
        simp at h; obtain ⟨rfl, rfl⟩ := h
        simp only [ho]
        have h1 := partsA_den fr ds parts.toList r hr
        have h2 := builtC_den hb
        rw [← h1] at h2
        have h3 : (Instr.build t (parts.map fun (i, x) => (i, (⟨fden fr, ds⟩ : Act).eval x))).run P w = .ok (.agg (dens l)) w := run_build w t _ _ (by simpa using h2)
        simp only [Sem.run_bind, h3, Result.andThen_ok, Sem.run_pure]
        rfl
    · simp at h
  · rename_i op t x y ty ho
    have := run_binV h hp x y w
    simp only [ho, opnd_den]
    rw [Sem.run_bind, this]
    rfl
  · rename_i op t x ho
    have := run_unV (P := P) h hp w
    simp only [ho, opnd_den]
    rw [Sem.run_bind, this]
    rfl
  · rename_i s d x ho
    have := run_convV h w
    simp only [ho, opnd_den]
    rw [Sem.run_bind, this]
    rfl
  · rename_i f first cap ho
    split at h
    · rename_i a c ha hc
      simp at h; obtain ⟨rfl, rfl⟩ := h
      have h1 := ptrsA_den fr ds _ _ ha
      have h2 := ptrsA_den fr ds _ _ hc
      simp only [ho, Instr.makeFunc]
      have e1 : first.map (⟨fden fr, ds⟩ : Act).eval = (a.map pden).toArray := by rw [← h1, ← Array.toList_inj, Array.toList_map]
      have e2 : cap.map (⟨fden fr, ds⟩ : Act).eval = (c.map pden).toArray := by rw [← h2, ← Array.toList_inj, Array.toList_map]
      rw [e1, e2]
      rfl
    · simp at h
  · rename_i t x lo hi mx ho
    have := run_sliceV h ds w
    simp only [ho, opnd_den]
    rw [Sem.run_bind, this]
    rfl
  · rename_i s x f ho
    have := run_fieldAddrV h w
    simp only [ho, opnd_den]
    rw [Sem.run_bind, this]
    rfl
  · rename_i t x f ho
    have := run_fieldV h w
    simp only [ho, opnd_den]
    rw [Sem.run_bind, this]
    rfl
  · rename_i t x i ho
    have := run_indexAddrV h hp w
    simp only [ho, opnd_den]
    rw [Sem.run_bind, this]
    rfl
  · rename_i t x i ho
    have := run_indexV h hp w
    simp only [ho, opnd_den]
    rw [Sem.run_bind, this]
    rfl
  · rename_i x i ho
    have := run_extractV (P := P) h w
    simp only [ho, opnd_den]
    rw [Sem.run_bind, this]
    rfl
  · rename_i c ho
    split at h
    · rename_i x t hcal hargs htys
      have ha : c.args = #[x] := by rw [← Array.toList_inj]; simpa using hargs
      have ht : c.argTypes = #[t] := by rw [← Array.toList_inj]; simpa using htys
      have key : ∀ {n : Int}, (Builtin.len_ #[t] o.type #[(opnd fr x).den]).run P w = .ok (.int .i64 n) w → (execOp (⟨fden fr, ds⟩ : Act).eval o).run P w = .ok (.value (.int .i64 n)) w := by
        intro n hn
        unfold execOp
        simp only [ho, resolve, hcal, ha, ht, Sem.run_bind, Sem.run_pure, Result.andThen_ok, invoke, builtin]
        simp only [List.map_toArray, List.map_cons, List.map_nil, opnd_den, hn, Result.andThen_ok]
      split at h
      · rename_i e nm b off n cap hu hx
        simp at h; obtain ⟨rfl, rfl⟩ := h
        exact key (by simp [hx, Builtin.len_, run_underlying' hu, SV.den, SA.den, SC.den, SN.v, SI.v, goInt])
      · rename_i e nm b off n cap hu hx
        simp at h; obtain ⟨rfl, rfl⟩ := h
        exact key (by simp [hx, Builtin.len_, run_underlying' hu, SV.den, SA.den, SC.den, SN.v, SI.v, goInt])
      · rename_i e hu hx
        simp at h; obtain ⟨rfl, rfl⟩ := h
        exact key (by simp [hx, Builtin.len_, run_underlying' hu, SV.den, SA.den, SC.den, SN.v, SI.v, goInt])
      · rename_i n e hu
        simp at h; obtain ⟨rfl, rfl⟩ := h
        exact key (by simp [Builtin.len_, run_underlying' hu, SI.v, goInt])
      · simp at h
    · simp at h
  · simp at h
end
end Go.Proofs.Ytmmpnjcmaodkcaa.Ev
/- What is proved: the evaluator of code over a heap that is described block by block: what it finds holds of the call, in every order that a region may draw. Conditions: the evaluator's own premises. -/
namespace Go.Proofs.Ytmmpnjcmaodkcaa.Ev
open Go Go.Proofs.Ytmmpnjcmaodkcaa.Sep
set_option linter.unusedVariables false
set_option linter.unusedSimpArgs false
section
variable {A : Type} [Abs A]
/-! ### one operation -/
def evOp (P : Program) [Fast P] (call : Caller A) (o : Oper) (fr : List SV) (H : SH A) (n : Nat) (k : Kont A) : Tree A :=
  match pureOp P fr o with
  | some (ps, v) => needs ps (k v H n)
  | none =>
    match o.op with
    | .load t x =>
      match loadV P t H (opnd fr x) with
      | some (ps, v) => needs ps (k v H n)
      | none => .fail
    | .store t x y =>
      match storeV P t H (opnd fr x) (opnd fr y) with
      | some (ps, H') => needs ps (k .un H' n)
      | none => .fail
    | .alloc t =>
      match zeroC P t with
      | some l => .new fun b => k (.c (.ptr n b 0)) ((n, b, .cells l t) :: H) (n + 1)
      | none => .fail
    | .box t x =>
      match opnd fr x with
      | .a x => bif x.plain then .new fun b => k (.c (.ptr n b 0)) ((n, b, .cells x.cells t) :: H) (n + 1) else .fail
      | _ => .fail
    | .buildSlice t len parts =>
      match partsA fr parts.toList with
      | some r =>
        match sliceC P t len r with
        | some (e, l) => .new fun b => k (.c (.slice n b 0 (.lit len) (.lit len))) ((n, b, .cells l e) :: H) (n + 1)
        | none => .fail
      | none => .fail
    | .pick c a b =>
      match opnd fr c with
      | .a (.one (.bool (.sym c))) => .ite c (k (opnd fr a) H n) (k (opnd fr b) H n)
      | _ => .fail
    | .call c =>
      match c.callee with
      | .value f =>
        match opnd fr f with
        | .a (.one (.func f first cap)) => bif isBody P f then call f (first.map ptrV ++ (argsV fr c.args.toList ++ cap.map ptrV)) H n k else .fail
        | _ => .fail
      | _ => .fail
    | _ => .fail
def NoGos (P : Program) : Prop := ∀ (f : Nat) (fn : Func), P.funcs[f]? = some fn → (fn.name == "runtime.NumGoroutine") = false
theorem run_callFunc {P : Program} [Fast P] (hn : NoGos P) {f : Nat} (hb : isBody P f = true) (args : Array Value) (w : World) : (callFunc f args).run P w = .ok (.enter f args) w := by
  unfold isBody at hb
  cases hf0 : Fast.func P f with
  | none => rw [hf0] at hb; cases hb
  | some fn =>
    rw [hf0] at hb
    have hf := Fast.func_ok hf0
    have h1 := hn f fn hf
    unfold callFunc
    have h1' : ¬ fn.name = "runtime.NumGoroutine" := by simpa using h1
    have h2 : ¬ fn.body = none := by intro h; simp only [h] at hb; cases hb
    simp [hf, h1', h2]
theorem evOp_ok {P : Program} [Fast P] (hn : NoGos P) {call : Caller A} (hcall : CallerOk P call) {o : Oper} {fr : List SV} {H : SH A} {n : Nat} {k : Kont A} {L : Leaf A → Prop}
    (hl : (evOp P call o fr H n k).Leads P L) {w : World} {R : HProp} (hw : Holds w (hden H * R)) {next : Act → World → Prop} {Q : Exit → Act → World → Prop}
    (hk : ∀ v H' n' w', (k v H' n').Leads P L → Holds w' (hden H' * R) → Strm w w' → next ⟨fden (fput fr o.dst v), []⟩ w') : o.wp P ⟨fden fr, []⟩ w next Q := by
  unfold evOp at hl
  split at hl
  · rename_i ps v hp
    obtain ⟨h1, h2⟩ := needs_leads hl
    unfold Oper.wp
    rw [run_pureOp hp h1 [] w]
    simp only [Oper.upon, fput_den]
    exact hk v H n w h2 hw (Strm.refl w)
  · split at hl
    · rename_i t x ho
      split at hl
      · rename_i ps v hld
        obtain ⟨h1, h2⟩ := needs_leads hl
        have h3 := run_loadV hld h1 hw
        unfold Oper.wp execOp
        simp only [ho, opnd_den, Sem.run_bind, h3, Result.andThen_ok, Sem.run_pure, Oper.upon, fput_den]
        exact hk v H n w h2 hw (Strm.refl w)
      · exact hl.elim
    · rename_i t x y ho
      split at hl
      · rename_i ps H' hst
        obtain ⟨h1, h2⟩ := needs_leads hl
        obtain ⟨w', h3, h4, h5⟩ := run_storeV hst h1 hw
        unfold Oper.wp execOp
        simp only [ho, opnd_den, Sem.run_bind, h3, Result.andThen_ok, Sem.run_pure, Oper.upon]
        rw [← un_den, fput_den]
        exact hk .un H' n w' h2 h4 h5
      · exact hl.elim
    · rename_i t ho
      split at hl
      · rename_i l hz
        unfold Oper.wp execOp
        simp only [ho, Sem.run_bind, run_alloc' hz, Result.andThen_ok, Sem.run_pure, Oper.upon]
        rw [show Value.pointer (some ⟨w.heap.size, 0, none⟩) = (SV.c (.ptr n w.heap.size 0)).den from rfl, fput_den]
        exact hk _ _ _ _ (hl w.heap.size) (alloc_holds hw l t n) ((Strm.refl w).alloc _)
      · exact hl.elim
    · rename_i t x ho
      split at hl
      · rename_i y hx
        cases hp : y.plain with
        | false => rw [hp] at hl; exact hl.elim
        | true =>
          rw [hp] at hl
          unfold Oper.wp execOp
          have e : (opnd fr x).den = y.den := by rw [hx]; rfl
          simp only [ho, opnd_den, e, Sem.run_bind, run_box' hp, Result.andThen_ok, Sem.run_pure, Oper.upon]
          rw [show Value.pointer (some ⟨w.heap.size, 0, none⟩) = (SV.c (.ptr n w.heap.size 0)).den from rfl, fput_den]
          exact hk _ _ _ _ (hl w.heap.size) (alloc_holds hw y.cells t n) ((Strm.refl w).alloc _)
      · exact hl.elim
    · rename_i t len parts ho
      split at hl
      · rename_i r hr
        split at hl
        · rename_i e l hs
          have h1 := partsA_den fr [] parts.toList r hr
          have h2 : (parts.map fun (i, x) => (i, (⟨fden fr, []⟩ : Act).eval x)) = (r.map fun p => (p.1, p.2.den)).toArray := by rw [← h1, ← Array.toList_inj, Array.toList_map]
          unfold Oper.wp execOp
          simp only [ho, h2, Sem.run_bind, run_sliceC hs, Result.andThen_ok, Sem.run_pure, Oper.upon]
          rw [show Value.slice (some ⟨w.heap.size, 0, none⟩) len len = (SV.c (.slice n w.heap.size 0 (.lit len) (.lit len))).den from rfl, fput_den]
          exact hk _ _ _ _ (hl w.heap.size) (alloc_holds hw l e n) ((Strm.refl w).alloc _)
        · exact hl.elim
      · exact hl.elim
    · rename_i c a b ho
      split at hl
      · rename_i c' hc
        obtain ⟨h1, h2⟩ := hl
        unfold Oper.wp execOp
        have e : (opnd fr c).den = .bool c' := by rw [hc]; rfl
        simp only [ho, opnd_den, e, asBool]
        cases hc' : c' with
        | true =>
          simp only [Sem.run_bind, Sem.run_pure, Result.andThen_ok, if_true, Oper.upon, fput_den]
          exact hk _ _ _ _ (h1 hc') hw (Strm.refl w)
        | false =>
          simp only [Sem.run_bind, Sem.run_pure, Result.andThen_ok, Bool.false_eq_true, if_false, Oper.upon, fput_den]
          exact hk _ _ _ _ (h2 hc') hw (Strm.refl w)
      · exact hl.elim
    · rename_i c ho
      split at hl
      · rename_i f hcal
        split at hl
        · rename_i f' first cap hf
          cases hb : isBody P f' with
          | false => rw [hb] at hl; exact hl.elim
          | true =>
            rw [hb] at hl
            have e : (opnd fr f).den = .func (.func f') (first.map pden).toArray (cap.map pden).toArray := by rw [hf]; rfl
            have ea : c.args.map (⟨fden fr, []⟩ : Act).eval = ((argsV fr c.args.toList).map SV.den).toArray := by
              rw [← argsV_den fr [] c.args.toList, ← Array.toList_inj, Array.toList_map]
            unfold Oper.wp execOp
            simp only [ho, resolve, hcal, opnd_den, e, Deferred.ofValue, Sem.run_bind, Sem.run_pure, Result.andThen_ok, invoke, ea, run_callFunc hn hb, Oper.upon]
            have hc := hcall f' _ H n k L hl w R hw (fun e w' => ∃ v, e = .returned v.den ∧ next ⟨fden (fput fr o.dst v), []⟩ w')
              (fun v H' n' w' h1 h2 h3 => ⟨v, rfl, hk v H' n' w' h1 h2 h3⟩)
            have eargs : (first.map pden).toArray ++ ((argsV fr c.args.toList).map SV.den).toArray ++ (cap.map pden).toArray = ((first.map ptrV ++ (argsV fr c.args.toList ++ cap.map ptrV)).map SV.den).toArray := by
              simp only [List.map_append, ptrV_den]
              simp
            rw [eargs]
            refine hc.mono ?_
            rintro e' w' ⟨v, rfl, h⟩
            simp only [fput_den]
            exact h
        · exact hl.elim
      · exact hl.elim
    · exact hl.elim
/-! ### a region in the text's order -/
inductive Gd where
  | yes | no | bad
  | fork (d : Nat) (c want : Bool)
def gd (ops : List Oper) (fr : List SV) : Option (Nat × Bool) → Gd
  | none => .yes
  | some (j, want) =>
    match ops[j]? with
    | some o =>
      match o.dst with
      | some d =>
        match fr[d]? with
        | some (.a (.one (.bool (.lit b)))) => bif b == want then .yes else .no
        | some (.a (.one (.bool (.sym c)))) => .fork d c want
        | some (.a (.one (.raw _))) => .bad
        | _ => .no
      | none => .no
    | none => .no
theorem set_same {fr : List SV} {d : Nat} {v u : SV} (h : fr[d]? = some u) (e : u.den = v.den) : fden (fr.set d v) = fden fr := by
  unfold fden
  rw [List.map_set, ← e]
  congr 1
  apply List.ext_getElem?
  intro i
  rw [List.getElem?_set]
  split
  · rename_i hi; subst hi
    split
    · simp [h]
    · rename_i hlt; simp at hlt; simp [hlt]
  · rfl
theorem yielded_fden (ops : List Oper) (fr : List SV) (j : Nat) {o : Oper} {d : Nat} (ho : ops[j]? = some o) (hd : o.dst = some d) {v : SV} (hv : fr[d]? = some v) :
    yielded ops.toArray (fden fr) j = match v.den with | .bool b => some b | _ => none := by
  unfold yielded
  have : (fden fr)[d]? = some v.den := by simp [fden, hv]
  simp only [List.getElem?_toArray, ho, Option.bind_some, hd, this]
  cases v.den <;> rfl
theorem wanted_den {ops : List Oper} {fr : List SV} {o : Oper} : (gd ops fr o.guard = .yes → Region.wanted o (yielded ops.toArray (fden fr)) = true) ∧ (gd ops fr o.guard = .no → Region.wanted o (yielded ops.toArray (fden fr)) = false) := by
  unfold Region.wanted gd
  cases hg : o.guard with
  | none => simp
  | some q =>
    obtain ⟨j, want⟩ := q
    simp only
    cases ho : ops[j]? with
    | none => simp [yielded, ho]
    | some oj =>
      simp only
      cases hd : oj.dst with
      | none => simp [yielded, ho, hd]
      | some d =>
        simp only
        cases hv : fr[d]? with
        | none => simp [yielded, ho, hd, fden, hv]
        | some v =>
          rw [yielded_fden ops fr j ho hd hv]
          cases v with
          | tup l => simp [SV.den]
          | a x =>
            cases x with
            | agg l => simp [SV.den, SA.den]
            | one c =>
              cases c <;> simp [SV.den, SA.den, SC.den]
              case bool b =>
                cases b with
                | lit b => cases b <;> cases want <;> simp [SB.v]
                | sym c => simp
end
end Go.Proofs.Ytmmpnjcmaodkcaa.Ev
/- What is proved: the evaluator of code over a heap that is described block by block: regions in the text's order and in any order, loops, calls. Conditions: the evaluator's own premises. -/
namespace Go.Proofs.Ytmmpnjcmaodkcaa.Ev
open Go Go.Proofs.Ytmmpnjcmaodkcaa.Sep
set_option linter.unusedVariables false
set_option linter.unusedSimpArgs false
section
variable {A : Type}
/-! ### what is handed on is laid open first: else the kernel reckons it anew each time -/
def frcC (c : SC) (k : SC → Tree A) : Tree A :=
  match c with
  | .int j (.lit n) => k (.int j (.lit n))
  | .int j (.sym n) => k (.int j (.sym n))
  | .bool (.lit b) => k (.bool (.lit b))
  | .bool (.sym b) => k (.bool (.sym b))
  | c => k c
def frcCs : List SC → (List SC → Tree A) → Tree A
  | [], k => k []
  | c :: r, k => frcC c fun c => frcCs r fun r => k (c :: r)
def frcA (x : SA) (k : SA → Tree A) : Tree A :=
  match x with
  | .one c => frcC c fun c => k (.one c)
  | .agg l => frcCs l fun l => k (.agg l)
def frcAs : List SA → (List SA → Tree A) → Tree A
  | [], k => k []
  | c :: r, k => frcA c fun c => frcAs r fun r => k (c :: r)
def frcV (v : SV) (k : SV → Tree A) : Tree A :=
  match v with
  | .a x => frcA x fun x => k (.a x)
  | .tup l => frcAs l fun l => k (.tup l)
def frcL : List SV → (List SV → Tree A) → Tree A
  | [], k => k []
  | v :: r, k => frcL r fun r => k (v :: r)
def frcH : SH A → (SH A → Tree A) → Tree A
  | [], k => k []
  | (n, b, .cells l T) :: r, k => frcCs l fun l => frcH r fun r => k ((n, b, .cells l T) :: r)
  | (n, b, o) :: r, k => frcH r fun r => k ((n, b, o) :: r)
theorem frcC_eq (c : SC) (k : SC → Tree A) : frcC c k = k c := by unfold frcC; split <;> rfl
theorem frcCs_eq : ∀ (l : List SC) (k : List SC → Tree A), frcCs l k = k l
  | [], k => rfl
  | c :: r, k => by unfold frcCs; rw [frcC_eq, frcCs_eq r]
theorem frcA_eq (x : SA) (k : SA → Tree A) : frcA x k = k x := by
  cases x with
  | one c => exact frcC_eq c fun c => k (.one c)
  | agg l => exact frcCs_eq l fun l => k (.agg l)
theorem frcAs_eq : ∀ (l : List SA) (k : List SA → Tree A), frcAs l k = k l
  | [], k => rfl
  | c :: r, k => by unfold frcAs; rw [frcA_eq, frcAs_eq r]
theorem frcV_eq (v : SV) (k : SV → Tree A) : frcV v k = k v := by
  cases v with
  | a x => exact frcA_eq x fun x => k (.a x)
  | tup l => exact frcAs_eq l fun l => k (.tup l)
theorem frcL_eq : ∀ (l : List SV) (k : List SV → Tree A), frcL l k = k l
  | [], k => rfl
  | c :: r, k => by unfold frcL; rw [frcL_eq r]
theorem frcH_eq : ∀ (H : SH A) (k : SH A → Tree A), frcH H k = k H
  | [], k => rfl
  | (n, b, o) :: r, k => by
    cases o with
    | cells l T => unfold frcH; rw [frcCs_eq, frcH_eq r]
    | row ws T => unfold frcH; rw [frcH_eq r]
    | abs x => unfold frcH; rw [frcH_eq r]
/-- On with the frame that has v in its place, and the heap. -/
def goOn (v : SV) (fr : List SV) (d : Option Tmp) (H : SH A) (k : List SV → SH A → Tree A) : Tree A :=
  frcV v fun v => frcL (fput fr d v) fun fr => frcH H fun H => k fr H
theorem goOn_eq (v : SV) (fr : List SV) (d : Option Tmp) (H : SH A) (k : List SV → SH A → Tree A) : goOn v fr d H k = k (fput fr d v) H := by
  unfold goOn; rw [frcV_eq, frcL_eq, frcH_eq]
end
section
variable {A : Type} [Abs A]
abbrev KontF (A : Type) := List SV → SH A → Nat → Tree A
def allT : List Nat → (Nat → Tree A) → Tree A
  | [], _ => .fail
  | [i], t => t i
  | i :: r, t => .both (t i) (allT r t)
theorem allT_leads {P : Program} {t : Nat → Tree A} {L : Leaf A → Prop} : ∀ {l : List Nat}, (allT l t).Leads P L → ∀ i ∈ l, (t i).Leads P L
  | [], h, i, hi => by cases hi
  | [j], h, i, hi => by
    rcases List.mem_singleton.1 hi with rfl
    exact h
  | j :: k :: r, h, i, hi => by
    obtain ⟨h1, h2⟩ := h
    rcases List.mem_cons.1 hi with rfl | hi
    · exact h1
    · exact allT_leads h2 i hi
/-- The operations of a region, one behind the other. -/
def evList (P : Program) [Fast P] (call : Caller A) (ops : List Oper) : List Oper → List SV → SH A → Nat → KontF A → Tree A
  | [], fr, H, n, K => K fr H n
  | o :: rest, fr, H, n, K =>
    match gd ops fr o.guard with
    | .yes => evOp P call o fr H n fun v H n => goOn v fr o.dst H fun fr H => evList P call ops rest fr H n K
    | .no => evList P call ops rest (fput fr o.dst .un) H n K
    | .fork d c want =>
      .ite c
        (bif want then evOp P call o (fr.set d (.c (.bool (.lit true)))) H n fun v H n => goOn v (fr.set d (.c (.bool (.lit true)))) o.dst H fun fr H => evList P call ops rest fr H n K
          else evList P call ops rest (fput (fr.set d (.c (.bool (.lit true)))) o.dst .un) H n K)
        (bif want then evList P call ops rest (fput (fr.set d (.c (.bool (.lit false)))) o.dst .un) H n K
          else evOp P call o (fr.set d (.c (.bool (.lit false)))) H n fun v H n => goOn v (fr.set d (.c (.bool (.lit false)))) o.dst H fun fr H => evList P call ops rest fr H n K)
    | .bad => .fail
theorem gd_fork {ops : List Oper} {fr : List SV} {g : Option (Nat × Bool)} {d : Nat} {c want : Bool} (h : gd ops fr g = .fork d c want) :
    ∃ j o, g = some (j, want) ∧ ops[j]? = some o ∧ o.dst = some d ∧ fr[d]? = some (.c (.bool (.sym c))) := by
  unfold gd at h
  cases hg : g with
  | none => rw [hg] at h; simp at h
  | some q =>
    obtain ⟨j, w⟩ := q
    rw [hg] at h
    simp only at h
    cases ho : ops[j]? with
    | none => rw [ho] at h; simp at h
    | some o =>
      rw [ho] at h
      simp only at h
      cases hd : o.dst with
      | none => rw [hd] at h; simp at h
      | some d' =>
        rw [hd] at h
        simp only at h
        split at h
        · rename_i b hv
          cases hb : (b == w) <;> rw [hb] at h <;> simp at h
        · rename_i c' hv
          simp at h
          obtain ⟨rfl, rfl, rfl⟩ := h
          exact ⟨j, o, rfl, ho, hd, hv⟩
        · simp at h
        · simp at h
theorem gd_set {ops : List Oper} {fr : List SV} {d : Nat} {c want b : Bool} {o : Oper} (h : gd ops fr o.guard = .fork d c want) :
    gd ops (fr.set d (.c (.bool (.lit b)))) o.guard = (bif b == want then .yes else .no) := by
  obtain ⟨j, oj, hg, ho, hd, hv⟩ := gd_fork h
  have hlt : d < fr.length := by
    rcases Nat.lt_or_ge d fr.length with h | h
    · exact h
    · rw [List.getElem?_eq_none h] at hv; cases hv
  unfold gd
  rw [hg]
  simp only [ho, hd, List.getElem?_set_self hlt]
theorem evList_ok {P : Program} [Fast P] (hn : NoGos P) {call : Caller A} (hcall : CallerOk P call) {ops : List Oper} {L : Leaf A → Prop} {R : HProp} {Q : Exit → Act → World → Prop} {K : KontF A} :
    ∀ (l : List Oper) (fr : List SV) (H : SH A) (n : Nat) (w : World), (evList P call ops l fr H n K).Leads P L → Holds w (hden H * R) →
      (∀ fr' H' n' w', (K fr' H' n').Leads P L → Holds w' (hden H' * R) → Strm w w' → Q .normal ⟨fden fr', []⟩ w') → wpList P ops.toArray Q l ⟨fden fr, []⟩ w
  | [], fr, H, n, w, hl, hw, hk => hk fr H n w hl hw (Strm.refl w)
  | o :: rest, fr, H, n, w, hl, hw, hk => by
    have yes : ∀ (fr1 : List SV), gd ops fr1 o.guard = .yes → (evOp P call o fr1 H n fun v H n => goOn v fr1 o.dst H fun fr H => evList P call ops rest fr H n K).Leads P L → wpList P ops.toArray Q (o :: rest) ⟨fden fr1, []⟩ w := by
      intro fr1 hg hl
      have hwant := wanted_den.1 hg
      unfold wpList
      rw [if_pos hwant]
      left
      refine evOp_ok hn hcall hl hw fun v H' n' w' h1 h2 h3 => ?_
      rw [goOn_eq] at h1
      exact evList_ok hn hcall rest _ H' n' w' h1 h2 fun fr' H' n' w'' k1 k2 k3 => hk fr' H' n' w'' k1 k2 (h3.trans k3)
    have no : ∀ (fr1 : List SV), gd ops fr1 o.guard = .no → (evList P call ops rest (fput fr1 o.dst .un) H n K).Leads P L → wpList P ops.toArray Q (o :: rest) ⟨fden fr1, []⟩ w := by
      intro fr1 hg hl
      have hwant := wanted_den.2 hg
      unfold wpList
      rw [if_neg (by rw [hwant]; simp)]
      show wpList P ops.toArray Q rest ((⟨fden fr1, []⟩ : Act).put o.dst undef) w
      rw [← un_den, fput_den]
      exact evList_ok hn hcall rest _ H n w hl hw hk
    unfold evList at hl
    cases hg : gd ops fr o.guard with
    | yes => rw [hg] at hl; exact yes fr hg hl
    | no => rw [hg] at hl; exact no fr hg hl
    | bad => rw [hg] at hl; exact hl.elim
    | fork d c want =>
      rw [hg] at hl
      obtain ⟨h1, h2⟩ := hl
      obtain ⟨j, oj, _, _, _, hv⟩ := gd_fork hg
      cases hc : c with
      | true =>
        have e : fden (fr.set d (.c (.bool (.lit true)))) = fden fr := set_same hv (by rw [hc]; rfl)
        have hs := gd_set (b := true) hg
        have h1' := h1 hc
        rw [← e]
        cases want with
        | true => exact yes _ hs h1'
        | false => exact no _ hs h1'
      | false =>
        have e : fden (fr.set d (.c (.bool (.lit false)))) = fden fr := set_same hv (by rw [hc]; rfl)
        have hs := gd_set (b := false) hg
        have h2' := h2 hc
        rw [← e]
        cases want with
        | true => exact no _ hs h2'
        | false => exact yes _ hs h2'

/-! ### a region in any order: cells that nobody of it writes are held -/
abbrev Held := List (Nat × Nat × Nat × SC)
def heldS (S : Held) (w : World) : Prop := ∀ x ∈ S, w.cell? ⟨x.2.1, x.2.2.1, none⟩ = some x.2.2.2.den
def heldP (H : SH A) : Held → Option (List Prop)
  | [] => some []
  | (nm, b, off, c) :: r =>
    match find H nm, heldP H r with
    | some (b', .cells l _), some ps =>
      match l[off]? with
      | some c' => some ((b' = b) :: (c'.den = c.den) :: ps)
      | none => none
    | _, _ => none
theorem heldP_ok {H : SH A} {w : World} {R : HProp} (hw : Holds w (hden H * R)) : ∀ (S : Held) (ps : List Prop), heldP H S = some ps → (∀ p ∈ ps, p) → heldS S w
  | [], ps, h, hp => fun x hx => (by cases hx)
  | (nm, b, off, c) :: r, ps, h, hp => by
    unfold heldP at h
    split at h
    · rename_i b' l T ps' hf hr
      cases hl : l[off]? with
      | none => rw [hl] at h; simp at h
      | some c' =>
        rw [hl] at h
        simp at h
        subst h
        have h1 : b' = b := hp _ (by simp)
        have h2 : c'.den = c.den := hp _ (by simp)
        have h3 := heldP_ok hw r ps' hr (fun p hp' => hp p (by simp [hp']))
        have hw1 : Holds w (pt b' (.cells (dens l) T (0, 0)) * (hden (del H nm) * R)) := focus hf hw
        intro x hx
        rcases List.mem_cons.1 hx with rfl | hx
        · show w.cell? ⟨b, off, none⟩ = some c.den
          rw [← h1, hw1.cells, ← h2]
          simp [dens, hl]
        · exact h3 x hx
    · simp at h
def lookS : Held → Nat → Nat → Option (Nat × SC)
  | [], _, _ => none
  | (nm, b, off, c) :: r, m, o => bif Nat.beq nm m && Nat.beq off o then some (b, c) else lookS r m o
theorem lookS_mem : ∀ {S : Held} {m o b : Nat} {c : SC}, lookS S m o = some (b, c) → (m, b, o, c) ∈ S
  | [], _, _, _, _, h => by simp [lookS] at h
  | (nm, b', off, c') :: r, m, o, b, c, h => by
    unfold lookS at h
    cases hc : (Nat.beq nm m && Nat.beq off o) with
    | true =>
      rw [hc] at h
      simp at h
      obtain ⟨rfl, rfl⟩ := h
      rw [Bool.and_eq_true] at hc
      rw [Nat.eq_of_beq_eq_true hc.1, Nat.eq_of_beq_eq_true hc.2]
      exact List.mem_cons_self ..
    | false => rw [hc] at h; exact List.mem_cons_of_mem _ (lookS_mem h)
def looksS (S : Held) (m b : Nat) : Nat → Nat → Option (List Prop × List SC)
  | _, 0 => some ([], [])
  | o, n + 1 =>
    match lookS S m o, looksS S m b (o + 1) n with
    | some (b', c), some (ps, l) => some ((b' = b) :: ps, c :: l)
    | _, _ => none
theorem looksS_ok {S : Held} {m b : Nat} {w : World} (hS : heldS S w) : ∀ (n o : Nat) (ps : List Prop) (l : List SC), looksS S m b o n = some (ps, l) → (∀ p ∈ ps, p) →
    l.length = n ∧ ∀ j c, l[j]? = some c → w.cell? ⟨b, o + j, none⟩ = some c.den
  | 0, o, ps, l, h, hp => by
    simp [looksS] at h
    obtain ⟨rfl, rfl⟩ := h
    exact ⟨rfl, fun j c hj => by simp at hj⟩
  | n + 1, o, ps, l, h, hp => by
    unfold looksS at h
    split at h
    · rename_i b' c ps' l' h1 h2
      simp at h
      obtain ⟨rfl, rfl⟩ := h
      have e : b' = b := hp _ (by simp)
      subst e
      obtain ⟨g1, g2⟩ := looksS_ok hS n (o + 1) ps' l' h2 (fun p hp' => hp p (by simp [hp']))
      refine ⟨by simp [g1], fun j c' hj => ?_⟩
      cases j with
      | zero => simp at hj; subst hj; exact hS _ (lookS_mem h1)
      | succ j =>
        simp at hj
        have := g2 j c' hj
        rw [show o + (j + 1) = o + 1 + j by omega]; exact this
    · simp at h
def loadH (P : Program) [Fast P] (S : Held) (t : TypeId) (x : SV) : Option (List Prop × SV) :=
  match x with
  | .a (.one (.ptr nm b off)) =>
    match tyAgg P t, tySize P t with
    | some true, some n => (looksS S nm b off n).map fun r => (r.1, .a (.agg r.2))
    | some false, _ => (lookS S nm off).map fun r => ([r.1 = b], .c r.2)
    | _, _ => none
  | _ => none
theorem run_loadH {P : Program} [Fast P] {S : Held} {t : TypeId} {x : SV} {ps : List Prop} {v : SV} (h : loadH P S t x = some (ps, v)) (hp : ∀ p ∈ ps, p) {w : World} (hS : heldS S w) :
    (Instr.loadAt t x.den).run P w = .ok v.den w := by
  unfold loadH at h
  split at h
  · rename_i nm b off
    unfold Instr.loadAt
    simp only [SV.den, SA.den, SC.den, Instr.sureAddr, Sem.run_bind, Sem.run_pure, Result.andThen_ok]
    split at h
    · rename_i n ha hs
      cases hl : looksS S nm b off n with
      | none => rw [hl] at h; simp at h
      | some r =>
        rw [hl] at h
        simp at h
        obtain ⟨rfl, rfl⟩ := h
        obtain ⟨g1, g2⟩ := looksS_ok hS n off r.1 r.2 hl hp
        exact run_loadVar_agg ha hs g1 g2
    · rename_i ha
      cases hl : lookS S nm off with
      | none => rw [hl] at h; simp at h
      | some r =>
        rw [hl] at h
        simp at h
        obtain ⟨rfl, rfl⟩ := h
        have e : r.1 = b := hp _ (List.mem_singleton.2 rfl)
        have := hS _ (lookS_mem hl)
        rw [e] at this
        exact run_loadVar_one ha this
    · simp at h
  · simp at h
/-- An operation that may be taken first. -/
def quiet (P : Program) [Fast P] (ops : List Oper) (S : Held) (fr : List SV) (o : Oper) : Option (List Prop × SV) :=
  match gd ops fr o.guard with
  | .no => some ([], .un)
  | .yes =>
    match pureOp P fr o with
    | some r => some r
    | none =>
      match o.op with
      | .load t x => loadH P S t (opnd fr x)
      | _ => none
  | _ => none
theorem quiet_ok {P : Program} [Fast P] {ops : List Oper} {S : Held} {fr : List SV} {o : Oper} {ps : List Prop} {v : SV} (h : quiet P ops S fr o = some (ps, v)) (hp : ∀ p ∈ ps, p) :
    YieldsIf P ops.toArray (heldS S) o v.den ⟨fden fr, []⟩ := by
  unfold quiet at h
  unfold YieldsIf
  split at h
  · rename_i hg
    simp at h
    obtain ⟨rfl, rfl⟩ := h
    exact .inr ⟨wanted_den.2 hg, rfl⟩
  · rename_i hg
    left
    refine ⟨wanted_den.1 hg, fun w hS => ?_⟩
    split at h
    · rename_i r hr
      simp only [Option.some.injEq] at h
      subst h
      exact run_pureOp hr hp [] w
    · split at h
      · rename_i t x ho
        have := run_loadH h hp hS
        unfold execOp
        simp only [ho, opnd_den, Sem.run_bind, this, Result.andThen_ok, Sem.run_pure]
      · simp at h
  · simp at h
def pickQ (P : Program) [Fast P] (ops : List Oper) (S : Held) (listed : Array Bool) (fr : List SV) : List Nat → Option (Nat × Oper × List Prop × SV)
  | [] => none
  | i :: r =>
    match ops[i]? with
    | some o =>
      match quiet P ops S fr o with
      | some (ps, v) => bif Region.free .any ops.toArray listed i then some (i, o, ps, v) else pickQ P ops S listed fr r
      | none => pickQ P ops S listed fr r
    | none => pickQ P ops S listed fr r
theorem pickQ_ok {P : Program} [Fast P] {ops : List Oper} {S : Held} {listed : Array Bool} {fr : List SV} : ∀ {l : List Nat} {i : Nat} {o : Oper} {ps : List Prop} {v : SV}, pickQ P ops S listed fr l = some (i, o, ps, v) →
    i ∈ l ∧ ops[i]? = some o ∧ quiet P ops S fr o = some (ps, v) ∧ Region.free .any ops.toArray listed i = true
  | [], _, _, _, _, h => by simp [pickQ] at h
  | j :: r, i, o, ps, v, h => by
    unfold pickQ at h
    split at h
    · rename_i o' ho
      split at h
      · rename_i ps' v' hq
        cases hf : Region.free .any ops.toArray listed j with
        | true =>
          rw [hf] at h
          simp at h
          obtain ⟨rfl, rfl, rfl, rfl⟩ := h
          exact ⟨List.mem_cons_self .., ho, hq, hf⟩
        | false =>
          rw [hf] at h
          obtain ⟨h1, h2⟩ := pickQ_ok h
          exact ⟨List.mem_cons_of_mem _ h1, h2⟩
      · obtain ⟨h1, h2⟩ := pickQ_ok h
        exact ⟨List.mem_cons_of_mem _ h1, h2⟩
    · obtain ⟨h1, h2⟩ := pickQ_ok h
      exact ⟨List.mem_cons_of_mem _ h1, h2⟩
def pickF (ops : List Oper) (fr : List SV) : List Nat → Option (Nat × Bool)
  | [] => none
  | i :: r =>
    match ops[i]? with
    | some o =>
      match gd ops fr o.guard with
      | .fork d c _ => some (d, c)
      | _ => pickF ops fr r
    | none => pickF ops fr r
theorem pickF_ok {ops : List Oper} {fr : List SV} : ∀ {l : List Nat} {d : Nat} {c : Bool}, pickF ops fr l = some (d, c) → fr[d]? = some (.c (.bool (.sym c)))
  | [], _, _, h => by simp [pickF] at h
  | i :: r, d, c, h => by
    unfold pickF at h
    split at h
    · split at h
      · rename_i d' c' want hg
        simp at h
        obtain ⟨rfl, rfl⟩ := h
        obtain ⟨j, oj, _, _, _, hv⟩ := gd_fork hg
        exact hv
      · exact pickF_ok h
    · exact pickF_ok h
def evAny (P : Program) [Fast P] (call : Caller A) (ops : List Oper) (S : Held) : Nat → Nat → Array Bool → List SV → SH A → Nat → KontF A → Tree A
  | 0, _, _, _, _, _, _ => .fail
  | g + 1, F, listed, fr, H, n, K =>
    match Region.ready .any ops.toArray listed with
    | [] => K fr H n
    | r :: rs =>
      match F with
      | 0 => .fail
      | F + 1 =>
        match pickQ P ops S listed fr (r :: rs) with
        | some (i, o, ps, v) => needs ps (goOn v fr o.dst H fun fr H => evAny P call ops S g F (listed.setIfInBounds i true) fr H n K)
        | none =>
          match pickF ops fr (r :: rs) with
          | some (d, c) => .ite c (evAny P call ops S g (F + 1) listed (fr.set d (.c (.bool (.lit true)))) H n K) (evAny P call ops S g (F + 1) listed (fr.set d (.c (.bool (.lit false)))) H n K)
          | none => allT (r :: rs) fun i =>
            match ops[i]? with
            | some o =>
              match gd ops fr o.guard with
              | .yes => evOp P call o fr H n fun v H' n' =>
                match heldP H' S with
                | some ps => needs ps (goOn v fr o.dst H' fun fr H' => evAny P call ops S g F (listed.setIfInBounds i true) fr H' n' K)
                | none => .fail
              | _ => .fail
            | none => .fail
theorem evAny_ok {P : Program} [Fast P] (hn : NoGos P) {call : Caller A} (hcall : CallerOk P call) {ops : List Oper} {S : Held} (hns : Region.noSelect ops.toArray = true) {L : Leaf A → Prop} {R : HProp}
    {Q : Exit → Act → World → Prop} (hQ : ∀ c a a' w, Q (.panic c) a w → Q (.panic c) a' w) {K : KontF A} :
    ∀ (g F : Nat) (listed : Array Bool) (fr : List SV) (H : SH A) (n : Nat) (w : World), (evAny P call ops S g F listed fr H n K).Leads P L → Holds w (hden H * R) → heldS S w →
      (∀ fr' H' n' w', (K fr' H' n').Leads P L → Holds w' (hden H' * R) → Strm w w' → Q .normal ⟨fden fr', []⟩ w') → wpAnyH P .any ops.toArray Q (heldS S) F listed ⟨fden fr, []⟩ w
  | 0, F, listed, fr, H, n, w, hl, hw, hS, hk => hl.elim
  | g + 1, F, listed, fr, H, n, w, hl, hw, hS, hk => by
    unfold evAny at hl
    split at hl
    · rename_i hr
      exact wpAnyH_done hr (hk fr H n w hl hw (Strm.refl w)) F
    · rename_i r rs hr
      cases F with
      | zero => exact hl.elim
      | succ F =>
        simp only at hl
        split at hl
        · rename_i i o ps v hq
          obtain ⟨h1, h2⟩ := needs_leads hl
          rw [goOn_eq] at h2
          obtain ⟨p1, p2, p3, p4⟩ := pickQ_ok hq
          refine wpAnyH_take (i := i) (oi := o) (v := v.den) (by simpa using p2) hns p4 (by rw [hr]; simpa using p1) (fun c a w h => hQ c _ _ w h) (quiet_ok p3 h1) hS ?_
          rw [fput_den]
          exact evAny_ok hn hcall hns hQ g F _ _ H n w h2 hw hS hk
        · split at hl
          · rename_i d c hf
            obtain ⟨h1, h2⟩ := hl
            have hv := pickF_ok hf
            cases hc : c with
            | true =>
              have e : fden (fr.set d (.c (.bool (.lit true)))) = fden fr := set_same hv (by rw [hc]; rfl)
              rw [← e]
              exact evAny_ok hn hcall hns hQ g (F + 1) _ _ H n w (h1 hc) hw hS hk
            | false =>
              have e : fden (fr.set d (.c (.bool (.lit false)))) = fden fr := set_same hv (by rw [hc]; rfl)
              rw [← e]
              exact evAny_ok hn hcall hns hQ g (F + 1) _ _ H n w (h2 hc) hw hS hk
          · refine wpAnyH_all hr (by simp) fun i hi => ?_
            have hl' := allT_leads hl i hi
            split at hl'
            · rename_i o ho
              split at hl'
              · rename_i hg
                have ho' : ops.toArray[i]? = some o := by simpa using ho
                unfold wpOp
                simp only [ho']
                rw [if_pos (wanted_den.1 hg)]
                left
                refine evOp_ok hn hcall hl' hw fun v H' n' w' k1 k2 k3 => ?_
                split at k1
                · rename_i ps hps
                  obtain ⟨h1, h2⟩ := needs_leads k1
                  rw [goOn_eq] at h2
                  have hS' := heldP_ok k2 S ps hps h1
                  exact ⟨hS', evAny_ok hn hcall hns hQ g F _ _ H' n' w' h2 k2 hS' fun fr' H' n' w'' j1 j2 j3 => hk fr' H' n' w'' j1 j2 (k3.trans j3)⟩
                · exact k1.elim
              · exact hl'.elim
            · exact hl'.elim
end
section
variable {A : Type}
/-- The cells that a region's loads read and that none of its stores writes. -/
def gather (P : Program) [Fast P] (ops : List Oper) (H : SH A) : List Oper → List SV → Held → List (Nat × Nat × Nat) → Held × List (Nat × Nat × Nat)
  | [], _, S, W => (S, W)
  | o :: rest, fr, S, W =>
    match gd ops fr o.guard with
    | .yes =>
      match pureOp P fr o with
      | some (_, v) => gather P ops H rest (fput fr o.dst v) S W
      | none =>
        match o.op with
        | .load t x =>
          match opnd fr x with
          | .a (.one (.ptr nm b off)) =>
            match find H nm with
            | some (b, .cells l _) =>
              match tyAgg P t, tySize P t with
              | some true, some n => gather P ops H rest (fput fr o.dst (.a (.agg ((l.drop off).take n)))) (((l.drop off).take n).zipIdx.map (fun p => (nm, b, off + p.2, p.1)) ++ S) W
              | some false, _ =>
                match l[off]? with
                | some c => gather P ops H rest (fput fr o.dst (.c c)) ((nm, b, off, c) :: S) W
                | none => gather P ops H rest (fput fr o.dst .un) S W
              | _, _ => gather P ops H rest (fput fr o.dst .un) S W
            | _ => gather P ops H rest (fput fr o.dst .un) S W
          | _ => gather P ops H rest (fput fr o.dst .un) S W
        | .store t x _ =>
          match opnd fr x, tySize P t with
          | .a (.one (.ptr nm b off)), some n => gather P ops H rest fr S ((nm, off, n) :: W)
          | _, _ => gather P ops H rest fr S W
        | _ => gather P ops H rest (fput fr o.dst .un) S W
    | _ => gather P ops H rest (fput fr o.dst .un) S W
def struck (W : List (Nat × Nat × Nat)) (nm off : Nat) : Bool := W.any fun q => Nat.beq q.1 nm && (Nat.ble q.2.1 off && Nat.blt off (q.2.1 + q.2.2))
def gathered (P : Program) [Fast P] (ops : List Oper) (fr : List SV) (H : SH A) : Held :=
  let r := gather P ops H ops fr [] []
  r.1.filter fun x => !struck r.2 x.1 x.2.2.1
/-- A cell that the heap has. -/
def HasCell (H : SH A) (x : Nat × Nat × Nat × SC) : Prop := ∃ l T, find H x.1 = some (x.2.1, .cells l T) ∧ l[x.2.2.1]? = some x.2.2.2
theorem gather_has (P : Program) [Fast P] (ops : List Oper) (H : SH A) : ∀ (l : List Oper) (fr : List SV) (S : Held) (W : List (Nat × Nat × Nat)), (∀ x ∈ S, HasCell H x) → ∀ x ∈ (gather P ops H l fr S W).1, HasCell H x
  | [], fr, S, W, h => h
  | o :: rest, fr, S, W, h => by
    unfold gather
    split
    · split
      · exact gather_has P ops H rest _ S W h
      · split
        · split
          · rename_i nm b0 off hx
            split
            · rename_i b l T hf
              split
              · rename_i n _ _
                refine gather_has P ops H rest _ _ W fun x hx => ?_
                rcases List.mem_append.1 hx with hx | hx
                · obtain ⟨p, hp, rfl⟩ := List.mem_map.1 hx
                  refine ⟨l, T, hf, ?_⟩
                  obtain ⟨c, j⟩ := p
                  have hj := List.mem_zipIdx hp
                  simp only [Nat.zero_add] at hj
                  obtain ⟨_, h2, h3⟩ := hj
                  show l[off + j]? = some c
                  simp only [Nat.sub_zero] at h3
                  rw [h3, List.getElem_take, List.getElem_drop]
                  exact List.getElem?_eq_getElem _
                · exact h x hx
              · split
                · rename_i c hc
                  refine gather_has P ops H rest _ _ W fun x hx => ?_
                  rcases List.mem_cons.1 hx with rfl | hx
                  · exact ⟨l, T, hf, hc⟩
                  · exact h x hx
                · exact gather_has P ops H rest _ S W h
              · exact gather_has P ops H rest _ S W h
            · exact gather_has P ops H rest _ S W h
          · exact gather_has P ops H rest _ S W h
        · split
          · exact gather_has P ops H rest _ S _ h
          · exact gather_has P ops H rest _ S W h
        · exact gather_has P ops H rest _ S W h
    · exact gather_has P ops H rest _ S W h
end
section
variable {A : Type} [Abs A]
theorem gathered_held {P : Program} [Fast P] {ops : List Oper} {fr : List SV} {H : SH A} {w : World} {R : HProp} (hw : Holds w (hden H * R)) : heldS (gathered P ops fr H) w := by
  intro x hx
  have hx' : x ∈ (gather P ops H ops fr [] []).1 := (List.mem_filter.1 hx).1
  obtain ⟨l, T, hf, hl⟩ := gather_has P ops H ops fr [] [] (fun x hx => by cases hx) x hx'
  have hw1 : Holds w (pt x.2.1 (.cells (dens l) T (0, 0)) * (hden (del H x.1) * R)) := focus hf hw
  rw [hw1.cells]
  simp [dens, hl]
end
end Go.Proofs.Ytmmpnjcmaodkcaa.Ev
/- What is proved: the evaluator of functions over a heap that is described block by block. Conditions: the evaluator's own premises. -/
namespace Go.Proofs.Ytmmpnjcmaodkcaa.Ev
open Go Go.Proofs.Ytmmpnjcmaodkcaa.Sep
set_option linter.unusedVariables false
set_option linter.unusedSimpArgs false
section
variable {A : Type} [Abs A]
abbrev KontE (A : Type) := Exit → List SV → SH A → Nat → Tree A
abbrev Ctr (A : Type) := Nat → List SV → SH A → Nat → Kont A → Option (Tree A)
def loopE (body : List SV → SH A → Nat → KontE A → Tree A) : Nat → List SV → SH A → Nat → KontE A → Tree A
  | 0, _, _, _, _ => .fail
  | m + 1, fr, H, n, K => body fr H n fun e fr H n =>
    match e with
    | .normal => loopE body m fr H n K
    | e => K e fr H n
def resV (P : Program) [Fast P] (fr : List SV) (H : SH A) : List ResultVar → Option (List Prop × List SV)
  | [] => some ([], [])
  | .tmp t :: r =>
    match resV P fr H r with
    | some (ps, l) => some (ps, fr.getD t .un :: l)
    | none => none
  | .cell a t :: r =>
    match loadV P t H (fr.getD a .un), resV P fr H r with
    | some (qs, v), some (ps, l) => some (qs ++ ps, v :: l)
    | _, _ => none
def toSA : List SV → Option (List SA)
  | [] => some []
  | .a x :: r => (toSA r).map (x :: ·)
  | _ => none
def resOf : List SV → Option SV
  | [v] => some v
  | l => (toSA l).map .tup
def ends (P : Program) [Fast P] (fn : Func) (k : Kont A) : KontE A := fun e fr H n =>
  match e with
  | .normal | .ret =>
    match resV P fr H fn.results.toList with
    | some (ps, l) =>
      match resOf l with
      | some v => needs ps (k v H n)
      | none => .fail
    | none => .fail
  | _ => .fail
def callBy (P : Program) [Fast P] (Γ : Ctr A) (ev : Code → List SV → SH A → Nat → KontE A → Tree A) : Caller A := fun f args H n k =>
  match Γ f args H n k with
  | some t => t
  | none =>
    match Fast.func P f with
    | some fn =>
      match fn.body with
      | some c => ev c (args ++ List.replicate (fn.ntmps - args.length) .un) H n (ends P fn k)
      | none => .fail
    | none => .fail
def evCode (P : Program) [Fast P] (Γ : Ctr A) : Nat → Bool → Code → List SV → SH A → Nat → KontE A → Tree A
  | 0, _, _, _, _, _, _ => .fail
  | g + 1, s, c, fr, H, n, K =>
    match c with
    | .skip => K .normal fr H n
    | .label _ => K .normal fr H n
    | .ret => K .ret fr H n
    | .exit id => K (.exit id) fr H n
    | .goto l => K (.goto l) fr H n
    | .seq a b => evCode P Γ g s a fr H n fun e fr H n =>
      match e with
      | .normal => evCode P Γ g s b fr H n K
      | e => K e fr H n
    | .block id c => evCode P Γ g s c fr H n fun e fr H n =>
      match e with
      | .exit id' => bif Nat.beq id' id then K .normal fr H n else K (.exit id') fr H n
      | e => K e fr H n
    | .scope c => evCode P Γ g s c fr H n fun e fr H n =>
      match e with
      | .goto _ => .fail
      | e => K e fr H n
    | .cond x a b =>
      match opnd fr x with
      | .a (.one (.bool (.lit true))) => evCode P Γ g s a fr H n K
      | .a (.one (.bool (.lit false))) => evCode P Γ g s b fr H n K
      | .a (.one (.bool (.sym c))) => .ite c (evCode P Γ g s a fr H n K) (evCode P Γ g s b fr H n K)
      | _ => .fail
    | .loop c => bif s then .loop c fr H n K else loopE (evCode P Γ g s c) g fr H n K
    | .region _ ops draw =>
      bif draw then
        (bif Region.noSelect ops then
          evAny P (callBy P Γ (evCode P Γ g false)) ops.toList (gathered P ops.toList fr H) (4 * ops.toList.length + 8) ops.toList.length (Array.replicate ops.toList.length false) fr H n (K .normal)
        else .fail)
      else evList P (callBy P Γ (evCode P Γ g false)) ops.toList ops.toList fr H n (K .normal)
    | _ => .fail
/-- What a table of contracts says holds of the program. -/
def CtrOk (P : Program) (Γ : Ctr A) : Prop :=
  ∀ f args H n k t, Γ f args H n k = some t → ∀ (L : Leaf A → Prop), t.Leads P L → ∀ (w : World) (R : HProp), Holds w (hden H * R) → ∀ Q : Ending → World → Prop,
    (∀ v H' n' w', (k v H' n').Leads P L → Holds w' (hden H' * R) → Strm w w' → Q (.returned v.den) w') → Calls P f (args.map SV.den).toArray w Q
theorem resV_ok {P : Program} [Fast P] {fr : List SV} {H : SH A} {w : World} {R : HProp} (hw : Holds w (hden H * R)) : ∀ (l : List ResultVar) (ps : List Prop) (vs : List SV), resV P fr H l = some (ps, vs) → (∀ p ∈ ps, p) →
    (l.mapM fun
      | .tmp t => pure ((fden fr).getD t undef)
      | .cell a t => do loadVar t (← asAddr ((fden fr).getD a undef)) : Sem (List Value)).run P w = .ok (vs.map SV.den) w
  | [], ps, vs, h, hp => by simp [resV] at h; obtain ⟨rfl, rfl⟩ := h; rfl
  | .tmp t :: r, ps, vs, h, hp => by
    unfold resV at h
    split at h
    · rename_i ps' l hr
      simp only [Option.some.injEq, Prod.mk.injEq] at h
      obtain ⟨rfl, rfl⟩ := h
      have ih := resV_ok hw r ps' l hr hp
      have e : (fden fr).getD t undef = (fr.getD t .un).den := opnd_den fr [] (.tmp t)
      rw [List.mapM_cons]
      simp only [Sem.run_bind, Sem.run_pure, Result.andThen_ok, ih, e, List.map_cons]
    · simp at h
  | .cell a t :: r, ps, vs, h, hp => by
    unfold resV at h
    split at h
    · rename_i qs v ps' l hl hr
      simp at h
      obtain ⟨rfl, rfl⟩ := h
      have ih := resV_ok hw r ps' l hr (fun p hp' => hp p (by simp [hp']))
      have e : (fden fr).getD a undef = (fr.getD a .un).den := opnd_den fr [] (.tmp a)
      have hv := run_loadV (P := P) hl (fun p hp' => hp p (by simp [hp'])) hw
      have hv' : (do loadVar t (← asAddr ((fden fr).getD a undef)) : Sem Value).run P w = .ok v.den w := by
        unfold loadV at hl
        split at hl
        · rename_i nm b off hx
          rw [e, hx]
          rw [hx] at hv
          exact hv
        · simp at hl
      rw [List.mapM_cons]
      simp only [Sem.run_bind] at hv' ⊢
      simp only [hv', Sem.run_pure, Result.andThen_ok, ih, List.map_cons]
    · simp at h
theorem toSA_den : ∀ (l : List SV) (r : List SA), toSA l = some r → l.map SV.den = r.map SA.den
  | [], r, h => by simp [toSA] at h; subst h; rfl
  | .a x :: l, r, h => by
    simp only [toSA] at h
    cases hl : toSA l with
    | none => rw [hl] at h; simp at h
    | some r' =>
      rw [hl] at h
      simp at h
      subst h
      simp only [List.map_cons, toSA_den l r' hl]
      rfl
  | .tup _ :: l, r, h => by simp [toSA] at h
theorem results_ok {P : Program} [Fast P] {fn : Func} {fr : List SV} {H : SH A} {w : World} {R : HProp} (hw : Holds w (hden H * R)) {ps : List Prop} {l : List SV} {v : SV} (h : resV P fr H fn.results.toList = some (ps, l)) (hp : ∀ p ∈ ps, p) (hv : resOf l = some v) :
    (results fn (fden fr)).run P w = .ok v.den w := by
  have h1 := resV_ok hw _ ps l h hp
  suffices key : ∀ r, r = Result.ok (l.map SV.den) w → ((r.andThen fun a w' => Result.ok a.toArray w').andThen fun vs w' => (pure (if h : vs.size = 1 then vs[0] else .tuple vs) : Sem Value).run P w') = .ok v.den w by
    unfold results
    rw [Array.mapM_eq_mapM_toList, Sem.run_bind, Sem.run_map]
    exact key _ h1
  intro r hr
  subst hr
  simp only [Result.andThen_ok]
  unfold resOf at hv
  split at hv
  · rename_i v'
    simp at hv
    subst hv
    simp
  · rename_i hne
    cases ht : toSA l with
    | none => rw [ht] at hv; simp at hv
    | some r =>
      rw [ht] at hv
      simp at hv
      subst hv
      have e := toSA_den l r ht
      have hs : ¬ (l.map SV.den).toArray.size = 1 := by
        intro hh
        have hh' : l.length = 1 := by simpa using hh
        match l, hh' with
        | [v], _ => exact hne v rfl
      rw [dif_neg hs, Sem.run_pure, e]
      rfl
theorem loopE_ok {P : Program} {c : Code} {body : List SV → SH A → Nat → KontE A → Tree A} {L : Leaf A → Prop} {R : HProp} {Q : Exit → Act → World → Prop} {K : KontE A}
    (hb : ∀ fr H n K' w Q', (body fr H n K').Leads P L → Holds w (hden H * R) → (∀ e fr' H' n' w', (K' e fr' H' n').Leads P L → Holds w' (hden H' * R) → Strm w w' → Q' e ⟨fden fr', []⟩ w') → c.wp P Q' ⟨fden fr, []⟩ w) :
    ∀ (m : Nat) (fr : List SV) (H : SH A) (n : Nat) (w : World), (loopE body m fr H n K).Leads P L → Holds w (hden H * R) →
      (∀ e fr' H' n' w', (K e fr' H' n').Leads P L → Holds w' (hden H' * R) → Strm w w' → Q e ⟨fden fr', []⟩ w') → Code.rounds P c Q m ⟨fden fr, []⟩ w
  | 0, fr, H, n, w, hl, hw, hk => hl.elim
  | m + 1, fr, H, n, w, hl, hw, hk => by
    rw [rounds_succ]
    refine hb fr H n _ w _ hl hw fun e fr' H' n' w' h1 h2 h3 => ?_
    cases e with
    | normal => exact loopE_ok hb m fr' H' n' w' h1 h2 fun e fr'' H'' n'' w'' k1 k2 k3 => hk e fr'' H'' n'' w'' k1 k2 (h3.trans k3)
    | exit id => exact hk _ fr' H' n' w' h1 h2 h3
    | goto l => exact hk _ fr' H' n' w' h1 h2 h3
    | ret => exact hk _ fr' H' n' w' h1 h2 h3
    | panic ch => exact hk _ fr' H' n' w' h1 h2 h3
    | outgrown => exact hk _ fr' H' n' w' h1 h2 h3
def CodeOk (P : Program) (ev : Code → List SV → SH A → Nat → KontE A → Tree A) : Prop :=
  ∀ (c : Code) (fr : List SV) (H : SH A) (n : Nat) (K : KontE A) (L : Leaf A → Prop) (w : World) (R : HProp) (Q : Exit → Act → World → Prop), (ev c fr H n K).Leads P L → Holds w (hden H * R) →
    (∀ e fr' H' n' w', (K e fr' H' n').Leads P L → Holds w' (hden H' * R) → Strm w w' → Q e ⟨fden fr', []⟩ w') → c.wp P Q ⟨fden fr, []⟩ w
theorem callBy_ok {P : Program} [Fast P] {Γ : Ctr A} (hΓ : CtrOk P Γ) {ev : Code → List SV → SH A → Nat → KontE A → Tree A} (hev : CodeOk P ev) : CallerOk P (callBy P Γ ev) := by
  intro f args H n k L hl w R hw Q hk
  unfold callBy at hl
  split at hl
  · rename_i t ht
    exact hΓ f args H n k t ht L hl w R hw Q hk
  · split at hl
    · rename_i fn hf
      split at hl
      · rename_i c hc
        refine calls_of_wp (Fast.func_ok hf) hc ?_
        have e : (args.map SV.den).toArray ++ Array.replicate (fn.ntmps - (args.map SV.den).toArray.size) undef = fden (args ++ List.replicate (fn.ntmps - args.length) .un) := by
          unfold fden
          simp [un_den]
        rw [e]
        refine hev c _ H n _ L w R _ hl hw fun e fr' H' n' w' h1 h2 h3 => ?_
        unfold ends at h1
        cases e with
        | normal =>
          simp only at h1
          split at h1
          · rename_i ps l hr
            split at h1
            · rename_i v hv
              obtain ⟨g1, g2⟩ := needs_leads h1
              exact ⟨rfl, v.den, results_ok h2 hr g1 hv, hk v H' n' w' g2 h2 h3⟩
            · exact h1.elim
          · exact h1.elim
        | ret =>
          simp only at h1
          split at h1
          · rename_i ps l hr
            split at h1
            · rename_i v hv
              obtain ⟨g1, g2⟩ := needs_leads h1
              exact ⟨rfl, v.den, results_ok h2 hr g1 hv, hk v H' n' w' g2 h2 h3⟩
            · exact h1.elim
          · exact h1.elim
        | exit id => exact h1.elim
        | goto l => exact h1.elim
        | panic ch => exact h1.elim
        | outgrown => exact h1.elim
      · exact hl.elim
    · exact hl.elim
theorem evCode_ok {P : Program} [Fast P] (hn : NoGos P) (hm : P.follows .mixedOrders = true) {Γ : Ctr A} (hΓ : CtrOk P Γ) : ∀ g s, CodeOk P (evCode P Γ g s)
  | 0, s => fun c fr H n K L w R Q hl hw hk => hl.elim
  | g + 1, s => fun c fr H n K L w R Q hl hw hk => by
    have ih := evCode_ok hn hm hΓ g s
    have hcall := callBy_ok hΓ (evCode_ok hn hm hΓ g false)
    unfold evCode at hl
    cases c with
    | skip => exact wp_skip (hk _ fr H n w hl hw (Strm.refl w))
    | label l => exact wp_label (hk _ fr H n w hl hw (Strm.refl w))
    | ret => exact wp_ret (hk _ fr H n w hl hw (Strm.refl w))
    | exit id => exact wp_exit (hk _ fr H n w hl hw (Strm.refl w))
    | goto l => exact wp_goto (hk _ fr H n w hl hw (Strm.refl w))
    | seq a b =>
      refine wp_seq (ih a fr H n _ L w R _ hl hw fun e fr' H' n' w' h1 h2 h3 => ?_)
      cases e with
      | normal => exact ih b fr' H' n' K L w' R Q h1 h2 fun e fr'' H'' n'' w'' k1 k2 k3 => hk e fr'' H'' n'' w'' k1 k2 (h3.trans k3)
      | exit id => exact hk _ fr' H' n' w' h1 h2 h3
      | goto l => exact hk _ fr' H' n' w' h1 h2 h3
      | ret => exact hk _ fr' H' n' w' h1 h2 h3
      | panic ch => exact hk _ fr' H' n' w' h1 h2 h3
      | outgrown => exact hk _ fr' H' n' w' h1 h2 h3
    | block id c =>
      refine wp_block (ih c fr H n _ L w R _ hl hw fun e fr' H' n' w' h1 h2 h3 => ?_)
      cases e with
      | exit id' =>
        simp only at h1
        simp only [Exit.inBlock]
        cases hid : Nat.beq id' id with
        | true =>
          rw [hid] at h1
          rw [if_pos (Nat.eq_of_beq_eq_true hid)]
          exact hk _ fr' H' n' w' h1 h2 h3
        | false =>
          rw [hid] at h1
          rw [if_neg (fun h => by rw [h, Nat.beq_refl] at hid; cases hid)]
          exact hk _ fr' H' n' w' h1 h2 h3
      | normal => exact hk _ fr' H' n' w' h1 h2 h3
      | goto l => exact hk _ fr' H' n' w' h1 h2 h3
      | ret => exact hk _ fr' H' n' w' h1 h2 h3
      | panic ch => exact hk _ fr' H' n' w' h1 h2 h3
      | outgrown => exact hk _ fr' H' n' w' h1 h2 h3
    | scope c =>
      refine wp_scope_straight (ih c fr H n _ L w R _ hl hw fun e fr' H' n' w' h1 h2 h3 => ?_)
      cases e with
      | goto l => exact h1.elim
      | exit id => exact hk _ fr' H' n' w' h1 h2 h3
      | normal => exact hk _ fr' H' n' w' h1 h2 h3
      | ret => exact hk _ fr' H' n' w' h1 h2 h3
      | panic ch => exact hk _ fr' H' n' w' h1 h2 h3
      | outgrown => exact hk _ fr' H' n' w' h1 h2 h3
    | cond x a b =>
      simp only at hl
      split at hl
      · rename_i hx
        exact wp_cond_true (by rw [opnd_den, hx]; rfl) (ih a fr H n K L w R Q hl hw hk)
      · rename_i hx
        exact wp_cond_false (by rw [opnd_den, hx]; rfl) (ih b fr H n K L w R Q hl hw hk)
      · rename_i c hx
        obtain ⟨h1, h2⟩ := hl
        refine wp_cond_split (t := c) (by rw [opnd_den, hx]; rfl) (fun hc => ih a fr H n K L w R Q (h1 hc) hw hk) (fun hc => ih b fr H n K L w R Q (h2 hc) hw hk)
      · exact hl.elim
    | loop c =>
      cases s with
      | true => exact hl w R Q hw hk
      | false => exact wp_loop_rounds g (loopE_ok (fun fr H n K' w Q' h1 h2 h3 => ih c fr H n K' L w R Q' h1 h2 h3) g fr H n w hl hw hk)
    | region id ops draw =>
      cases draw with
      | true =>
        simp only [cond_true] at hl
        cases hns : Region.noSelect ops with
        | false => rw [hns] at hl; exact hl.elim
        | true =>
          rw [hns] at hl
          simp only [cond_true] at hl
          have hwd : Holds { w with drawn := w.drawn + 1 } (hden H * R) := hw
          refine wp_region_noPanic ?_
          refine wp_region_held (S := heldS (gathered P ops.toList fr H)) hm ?_
          have := evAny_ok hn hcall (ops := ops.toList) (S := gathered P ops.toList fr H) (by simpa using hns) (Q := NoPanic Q) (fun c a a' w h => h) _ _ _ fr H n _ hl hwd (gathered_held hwd)
            (fun fr' H' n' w' k1 k2 k3 => hk .normal fr' H' n' w' k1 k2 ⟨k3.os, k3.tape, k3.output, k3.size⟩)
          simpa using this
      | false =>
        simp only [cond_false] at hl
        refine wp_region_list ?_
        have := evList_ok hn hcall (ops := ops.toList) ops.toList fr H n w hl hw (Q := Q) (hk .normal)
        simpa using this
    | rangeFunc f p a b => exact hl.elim
    | refuse why => exact hl.elim
/-- Only what can be come to from the names at hand, in the order in which it is met. -/
def ptrsOf : List SC → List Nat
  | [] => []
  | .ptr nm _ _ :: r => nm :: ptrsOf r
  | .slice nm _ _ _ _ :: r => nm :: ptrsOf r
  | .func _ a c :: r => a.map (·.1) ++ (c.map (·.1) ++ ptrsOf r)
  | _ :: r => ptrsOf r
def gc : Nat → List Nat → SH A → SH A
  | 0, _, _ => []
  | _, [], _ => []
  | g + 1, nm :: r, H =>
    match find H nm with
    | some (b, o) => (nm, b, o) :: gc g (r ++ (match o with | .cells l _ => ptrsOf l | _ => [])) (del H nm)
    | none => gc g r H
theorem gc_holds {w : World} : ∀ (g : Nat) (l : List Nat) (H : SH A) (R : HProp), Holds w (hden H * R) → ∃ R', Holds w (hden (gc g l H) * (R' * R))
  | 0, l, H, R, h => ⟨hden H, h.cast (by unfold gc hden; rw [star_empl])⟩
  | g + 1, [], H, R, h => ⟨hden H, h.cast (by unfold gc hden; rw [star_empl])⟩
  | g + 1, nm :: r, H, R, h => by
    unfold gc
    split
    · rename_i b o hf
      obtain ⟨R', h'⟩ := gc_holds g _ (del H nm) (o.den b * R) ((focus hf h).cast (by ac_rfl))
      exact ⟨R', h'.cast (by show _ = (o.den b * hden (gc g _ (del H nm))) * (R' * R); ac_rfl)⟩
    · exact gc_holds g r H R h
def namesV : SV → List Nat
  | .a x => ptrsOf x.cells
  | .tup l => l.flatMap fun x => ptrsOf x.cells
def fin (roots : List Nat) : Kont A := fun v H n => .done (.val v (gc 1000 (roots ++ namesV v) H) n)
/-- **What the evaluator finds of a function holds of its calls.** -/
def evF (P : Program) [Fast P] (Γ : Ctr A) (g : Nat) (s : Bool) (f : Nat) (args : List SV) (H : SH A) (n : Nat) (roots : List Nat) : Tree A :=
  match Fast.func P f with
  | some fn =>
    match fn.body with
    | some c => evCode P Γ g s c (args ++ List.replicate (fn.ntmps - args.length) .un) H n (ends P fn (fin roots))
    | none => .fail
  | none => .fail
theorem evF_ok {P : Program} [Fast P] (hn : NoGos P) (hm : P.follows .mixedOrders = true) {Γ : Ctr A} (hΓ : CtrOk P Γ) {g f : Nat} {s : Bool} {args : List SV} {H : SH A} {n : Nat} {roots : List Nat} {t : Tree A} (ht : evF P Γ g s f args H n roots = t) {L : Leaf A → Prop} (hl : t.Leads P L)
    {w : World} {R : HProp} (hw : Holds w (hden H * R)) : Calls P f (args.map SV.den).toArray w fun e w' => ∃ v H' n', L (.val v H' n') ∧ e = .returned v.den ∧ Holds w' (hden H' * R) ∧ Strm w w' := by
  subst ht
  have hno : CtrOk P (fun _ _ _ _ _ => none : Ctr A) := fun f args H n k t h => by cases h
  refine callBy_ok (Γ := fun _ _ _ _ _ => none) hno (evCode_ok hn hm hΓ g s) f args H n (fin roots) L hl w R hw _ fun v H' n' w' h1 h2 h3 => ?_
  obtain ⟨R', h4⟩ := gc_holds 1000 (roots ++ namesV v) H' R h2
  exact ⟨v, _, n', h1, rfl, (h4.cast (by show _ = R' * (hden _ * R); ac_rfl)).drop, h3⟩
end
end Go.Proofs.Ytmmpnjcmaodkcaa.Ev
/- What is proved: a slice that the program owns, as a part of the heap ('Row'): reading it, and the builtin append on it. Conditions: stated with each lemma. -/
namespace Go.Proofs.Ytmmpnjcmaodkcaa.Sep
open Go Go.RowKit

/-- A slice's value v with n elements of a type (size cells each) that read as the cells xs: nothing, or a block of its own. -/
def Row (e : TypeId) (size : Nat) (v : Value) (n : Nat) (xs : List Value) : HProp := fun h =>
  xs.length = n * size ∧ ((v = .slice none 0 0 ∧ n = 0) ∨
    ∃ g cap cur, v = .slice (some ⟨g, 0, none⟩) n cap ∧ n ≤ cap ∧ cap ≤ maxLen ∧ cur.size = cap * size ∧ cur.toList.take (n * size) = xs ∧ pt g (.cells cur e (0, 0)) h)

theorem row_nil (e : TypeId) (size : Nat) : ∀ h, Row e size (.slice none 0 0) 0 [] h := fun _ => ⟨by simp, Or.inl ⟨rfl, rfl⟩⟩
theorem row_mk {e : TypeId} {size : Nat} (g n cap : Nat) (cur : Array Value) (h1 : n ≤ cap) (h2 : cap ≤ maxLen) (h3 : cur.size = cap * size) :
    ∀ h, pt g (.cells cur e (0, 0)) h → Row e size (.slice (some ⟨g, 0, none⟩) n cap) n (cur.toList.take (n * size)) h := by
  intro h hp
  refine ⟨?_, Or.inr ⟨g, cap, cur, rfl, h1, h2, h3, rfl, hp⟩⟩
  rw [List.length_take, Array.length_toList, h3]
  exact Nat.min_eq_left (Nat.mul_le_mul_right _ h1)
theorem Holds.row {w : World} {R : HProp} {e : TypeId} {size : Nat} {v : Value} {n : Nat} {xs : List Value} (H : Holds w (Row e size v n xs * R)) :
    xs.length = n * size ∧ ((v = .slice none 0 0 ∧ n = 0 ∧ Holds w R) ∨
      ∃ g cap cur, v = .slice (some ⟨g, 0, none⟩) n cap ∧ n ≤ cap ∧ cap ≤ maxLen ∧ cur.size = cap * size ∧ cur.toList.take (n * size) = xs ∧ Holds w (pt g (.cells cur e (0, 0)) * R)) := by
  have HR := H.drop
  obtain ⟨h, a, h1, h2, d, ee, ⟨hl, p⟩, r⟩ := H
  refine ⟨hl, ?_⟩
  rcases p with ⟨rfl, rfl⟩ | ⟨g, cap, cur, rfl, i1, i2, i3, i4, hp⟩
  · exact Or.inl ⟨rfl, rfl, HR⟩
  · exact Or.inr ⟨g, cap, cur, rfl, i1, i2, i3, i4, h, a, h1, h2, d, ee, hp, r⟩

theorem Holds.append {P : Program} {w : World} {R : HProp} {t ty e : TypeId} {i : TypeInfo} {z : Value} {size bytes : Nat} (ht : P.underlying t = some (.slice e)) (hi : P.info? e = some i) (hz : i.zero = some z)
    (hsize : i.size = size) (hby : i.bytes = bytes) (hzs : z.cells.size = size)
    {v : Value} {n : Nat} {xs : List Value} (H : Holds w (Row e size v n xs * R))
    (a : Addr) (m c : Nat) (news : List Value) (hl : news.length = m * size) (hnews : ∀ j u, news[j]? = some u → w.cell? (a.add j) = some u) (h1 : ∀ u ∈ news, u.oneCell' = true)
    (hm : 0 < m) (h63 : n + m ≤ maxLen) (hbytes : (n + m) * bytes ≤ 140737488355328) :
    ∃ v' w', (Builtin.append_ #[t, t] ty #[v, .slice (some a) m c]).run P w = .ok v' w' ∧ Holds w' (Row e size v' (n + m) (xs ++ news) * R) ∧ Strm w w' := by
  subst hsize
  subst hby
  have hsmall : n + m ≤ 9223372036854775807 := by simp only [maxLen] at h63; omega
  obtain ⟨hxl, hc⟩ := H.row
  have grown : ∀ (old : Nat), old < n + m → Holds w R →
      Holds (w.drew.alloc (.cells (xs.toArray ++ news.toArray ++ Builtin.zeroCells z.cells (grownCap w (n + m) old e - (n + m))) e))
        (Row e i.size (.slice (some ⟨w.heap.size, 0, none⟩) (n + m) (grownCap w (n + m) old e)) (n + m) (xs ++ news) * R) := by
    intro old ho HR
    have hge := grownCap_ge w (n + m) old e
    have hcm : grownCap w (n + m) old e ≤ maxLen := grownCap_le_maxLen w (n + m) old e h63
    have hlen : (xs ++ news).length = (n + m) * i.size := by rw [List.length_append, hxl, hl, Nat.add_mul]
    refine (HR.drew.alloc _).mono (star_mono (fun h hp => ?_) (fun _ r => r))
    refine ⟨hlen, Or.inr ⟨_, _, _, rfl, hge, hcm, ?_, ?_, hp⟩⟩
    · simp only [Array.size_append, List.size_toArray, size_zeroCells, hzs, hxl, hl, ← Nat.add_mul]
      congr 1
      omega
    · simp only [Array.toList_append, List.append_assoc]
      rw [← List.append_assoc, ← hlen]
      exact List.take_left
  rcases hc with ⟨rfl, rfl, HR⟩ | ⟨g, cap, cur, rfl, hnc, hcm, hcs, htake, HP⟩
  · have hx : xs = [] := List.eq_nil_of_length_eq_zero (by simpa using hxl)
    subst hx
    have hr := run_append_nil (P := P) w t ty e i z ht hi hz a m c news hl hnews hm (by omega) (by simp only [Nat.zero_add] at hbytes; omega)
    have hgr := grown 0 (by omega) HR
    simp only [Nat.zero_add, List.nil_append, Array.empty_append] at hgr ⊢
    exact ⟨_, _, hr, hgr, (Strm.refl w).drew.alloc _⟩
  · have hg := HP.block
    by_cases hroom : n + m ≤ cap
    · have hfit : n * i.size + news.length ≤ cur.size := by rw [hl, hcs, ← Nat.add_mul]; exact Nat.mul_le_mul_right _ hroom
      have hr := run_append_room (P := P) w t ty e i ht hi g n cap cur hg a m c news hl hnews h1 hroom hfit
      refine ⟨_, _, hr, ?_, ⟨rfl, rfl, rfl, by simp [World.setRow]⟩⟩
      refine (HP.upd (setRow_heap w g cur _ e _ hg) (fun k hk => setRow_other w g k _ hk)).mono (star_mono (fun h hp => ?_) (fun _ r => r))
      refine ⟨by rw [List.length_append, hxl, hl, Nat.add_mul], Or.inr ⟨g, cap, _, rfl, hroom, hcm, ?_, ?_, hp⟩⟩
      · simp only [List.size_toArray, List.length_append, List.length_take, List.length_drop, Array.length_toList]
        omega
      · have hlen : (xs ++ news).length = (n + m) * i.size := by rw [List.length_append, hxl, hl, Nat.add_mul]
        rw [htake, ← hlen]
        exact List.take_left
    · have holds : ∀ j u, xs[j]? = some u → w.cell? ((⟨g, 0, none⟩ : Addr).add j) = some u := by
        intro j u hu
        have hadd : (⟨g, 0, none⟩ : Addr).add j = ⟨g, j, none⟩ := by unfold Addr.add; split <;> simp_all
        rw [hadd, cell_of_row w g j cur e (0, 0) hg]
        rw [← htake, List.getElem?_take] at hu
        split at hu
        · simpa using hu
        · cases hu
      have hr := run_append_grow (P := P) w t ty e i z ht hi hz ⟨g, 0, none⟩ n cap xs hxl holds a m c news hl hnews (by omega) (by omega) (growslice_fits (by omega) hbytes)
      exact ⟨_, _, hr, grown cap (by omega) HP.drop, (Strm.refl w).drew.alloc _⟩

theorem wpList_append_row {P : Program} (w : World) {ops : Array Oper} {rest : List Oper} {o : Oper} {a : Act} {Q : Exit → Act → World → Prop} (hgd : o.guard = none) (s x : Operand) (t : TypeId)
    (ho : o.op = .call { callee := .builtin .append, args := #[s, x], argTypes := #[t, t] })
    (e : TypeId) (i : TypeInfo) (z : Value) (size bytes : Nat) (ht : P.underlying t = some (.slice e)) (hi : P.info? e = some i) (hz : i.zero = some z)
    (hsize : i.size = size) (hby : i.bytes = bytes) (hzs : z.cells.size = size)
    (R : HProp) (v : Value) (n : Nat) (xs : List Value) (H : Holds w (Row e size v n xs * R)) (hs : a.eval s = v)
    (ad : Addr) (m c : Nat) (news : List Value) (hx : a.eval x = .slice (some ad) m c) (hl : news.length = m * size) (hnews : ∀ j u, news[j]? = some u → w.cell? (ad.add j) = some u) (h1 : ∀ u ∈ news, u.oneCell' = true)
    (hm : 0 < m) (h63 : n + m ≤ maxLen) (hbytes : (n + m) * bytes ≤ 140737488355328)
    (h : ∀ ao c' w', Holds w' (Row e size (.slice ao (n + m) c') (n + m) (xs ++ news) * R) → Strm w w' → wpList P ops Q rest (a.put o.dst (.slice ao (n + m) c')) w') : wpList P ops Q (o :: rest) a w := by
  refine wpList_plain hgd fun K hK => ?_
  obtain ⟨v', w', hr, h2, h3⟩ := H.append (ty := o.type) ht hi hz hsize hby hzs ad m c news hl hnews h1 hm h63 hbytes
  unfold Oper.wp execOp
  simp only [ho, resolve, invoke, builtin, Sem.run_bind, Sem.run_pure, Result.andThen_ok, List.map_toArray, List.map_cons, List.map_nil, hs, hx, hr]
  obtain ⟨ao, c', rfl⟩ : ∃ ao c', v' = .slice ao (n + m) c' := by
    obtain ⟨_, ⟨rfl, e, _⟩ | ⟨g, cap, _, rfl, _⟩⟩ := h2.row
    · exact ⟨none, 0, by rw [e]⟩
    · exact ⟨_, cap, rfl⟩
  exact hK _ _ (h ao c' w' h2 h3)
/-- The cells of a block that has just been made. -/
theorem news_alloc (w : World) (l : List Value) (t : TypeId) (b : Nat) (hb : b = w.heap.size) : ∀ j u, l[j]? = some u → (w.alloc (.cells l.toArray t)).cell? ((⟨b, 0, none⟩ : Addr).add j) = some u := by
  intro j u hu
  have hadd : (⟨b, 0, none⟩ : Addr).add j = ⟨b, j, none⟩ := by unfold Addr.add; split <;> simp_all
  subst hb
  rw [hadd, cell_of_row _ _ j l.toArray t (0, 0) (heap_alloc_new w _)]
  simpa using hu
end Go.Proofs.Ytmmpnjcmaodkcaa.Sep
/- What is proved: contracts of the program's memory (package mem): access, Load, Store. Conditions: stated with each contract. -/
namespace Go.Proofs.Ytmmpnjcmaodkcaa.Mem
open Go Go.RowKit Go.Proofs.Ytmmpnjcmaodkcaa.Sep
set_option maxRecDepth 100000
set_option linter.unusedVariables false
set_option linter.unusedSimpArgs false
theorem info127 : (Try.prog.info? 128).map (fun i => (i.zero, i.size, i.bytes)) = some (some (.agg #[.int .i64 0, .int .i64 0, .bool false]), 3, 24) := by kernel_rfl
def W (ws : List Int) : Array Value := (ws.map (Value.int .u64)).toArray
/-- What a memory is: its words, the counts, how long the trace is. -/
structure MS where
  ws : List Int
  cnt : Nat
  tr : Nat
  n : Nat
def Wd (ws : List Int) : Prop := ∀ x, x ∈ ws → 0 ≤ x ∧ x < 18446744073709551616
structure MS.ok (M : MS) : Prop where
  len : M.ws.length ≤ 4096
  wd : Wd M.ws
  cnt : M.cnt < 1099511627776
  tr : M.tr < 1099511627776
  n : M.n < 1099511627776
/-- A memory stands at the block mb: T its struct's type. -/
def MemP (T mb : Nat) (M : MS) : HProp := fun h => ∃ wb tv xs, (pt mb (.cells #[.slice (some ⟨wb, 0, none⟩) M.ws.length M.ws.length, .int .i64 (M.cnt : Int), .int .i64 (M.tr : Int), tv] T (0, 0)) * (pt wb (.cells (W M.ws) 38 (0, 0)) * Row 128 3 tv M.n xs)) h
theorem memP_open {T mb : Nat} {M : MS} {w : World} {R : HProp} (H : Holds w (MemP T mb M * R)) :
    ∃ (wb : Nat) (tv : Value) (xs : List Value), Holds w (pt mb (.cells #[.slice (some ⟨wb, 0, none⟩) M.ws.length M.ws.length, .int .i64 (M.cnt : Int), .int .i64 (M.tr : Int), tv] T (0, 0)) * (pt wb (.cells (W M.ws) 38 (0, 0)) * (Row 128 3 tv M.n xs * R))) := by
  obtain ⟨wb, H⟩ := holds_ex H
  obtain ⟨tv, H⟩ := holds_ex H
  obtain ⟨xs, H⟩ := holds_ex H
  exact ⟨wb, tv, xs, H.cast (by simp only [star_assoc])⟩
theorem memP_close {T mb : Nat} {M : MS} {w : World} {R : HProp} {wb : Nat} {tv : Value} {xs : List Value}
    (H : Holds w (pt mb (.cells #[.slice (some ⟨wb, 0, none⟩) M.ws.length M.ws.length, .int .i64 (M.cnt : Int), .int .i64 (M.tr : Int), tv] T (0, 0)) * (pt wb (.cells (W M.ws) 38 (0, 0)) * (Row 128 3 tv M.n xs * R)))) : Holds w (MemP T mb M * R) := by
  refine (H.cast (Q := (pt mb (.cells #[.slice (some ⟨wb, 0, none⟩) M.ws.length M.ws.length, .int .i64 (M.cnt : Int), .int .i64 (M.tr : Int), tv] T (0, 0)) * (pt wb (.cells (W M.ws) 38 (0, 0)) * Row 128 3 tv M.n xs)) * R) (by simp only [star_assoc])).mono (star_mono (fun h x => ⟨wb, tv, xs, x⟩) (fun _ r => r))
theorem W_size (ws : List Int) : (W ws).size = ws.length := by simp [W]
theorem W_get (ws : List Int) (i : Nat) (h : i < ws.length) : (W ws)[i]? = some (.int .u64 (ws.getD i 0)) := by
  simp [W, h]
theorem W_set (ws : List Int) (i : Nat) (x : Int) : (W ws).setIfInBounds i (.int .u64 x) = W (ws.set i x) := by
  simp [W]

/-- What a closure that is handed to 'access' does with the words from a on. -/
def Does (K : Nat) (C : Array Value) (wb : Nat) (a : Nat) (ws ws' : List Int) (ok : Bool) (D D' : HProp) : Prop :=
  ∀ (w1 : World) (R1 : HProp), Holds w1 (pt wb (.cells (W ws) 38 (0, 0)) * (D * R1)) →
    Calls Try.prog K (#[.slice (some ⟨wb, a, none⟩) (ws.length - a) (ws.length - a)] ++ C) w1 fun e w2 =>
      e = .returned (.bool ok) ∧ Holds w2 (pt wb (.cells (W ws') 38 (0, 0)) * (D' * R1)) ∧ Strm w1 w2

set_option maxHeartbeats 1000000 in
theorem access_in (w : World) (R D D' : HProp) (mb wb : Nat) (M : MS) (ws' : List Int) (ok : Bool) (tv : Value) (xs : List Value) (op a : Int) (K : Nat) (C : Array Value)
    (H : Holds w (pt mb (.cells #[.slice (some ⟨wb, 0, none⟩) M.ws.length M.ws.length, .int .i64 (M.cnt : Int), .int .i64 (M.tr : Int), tv] 101 (0, 0)) * (pt wb (.cells (W M.ws) 38 (0, 0)) * (D * (Row 128 3 tv M.n xs * R)))))
    (hcf : ∀ (args : Array Value) (w : World), (callFunc K args).run Try.prog w = .ok (.enter K args) w)
    (hdo : Does K C wb a.toNat M.ws ws' ok D D') (hlen : ws'.length = M.ws.length)
    (hok : M.ok) (h0 : 0 ≤ a) (h1 : a < M.ws.length) :
    Calls Try.prog 49 #[.pointer (some ⟨mb, 0, none⟩), .int .i64 op, .int .i64 a, .int .i64 1, .func (.func K) #[] C] w fun e w' => e = .returned (.tuple #[]) ∧
      Holds w' (MemP 101 mb { ws := ws', cnt := M.cnt + 1, tr := M.tr, n := M.n + 1 } * (D' * R)) ∧ Strm w w' := by
  obtain ⟨hl, hwd, hcn, htn, hnn⟩ := hok
  clear hwd
  have hc0 := H.cell 0 (.slice (some ⟨wb, 0, none⟩) M.ws.length M.ws.length) rfl
  obtain ⟨i0, hi, hz0, hz1, hz2⟩ := info_parts info127
  have HH : Hid (Holds w (pt mb (.cells #[.slice (some ⟨wb, 0, none⟩) M.ws.length M.ws.length, .int .i64 (M.cnt : Int), .int .i64 (M.tr : Int), tv] 101 (0, 0)) * (pt wb (.cells (W M.ws) 38 (0, 0)) * (D * (Row 128 3 tv M.n xs * R))))) := H
  have HD : Hid (Does K C wb a.toNat M.ws ws' ok D D') := hdo
  have HL : Hid (ws'.length = M.ws.length) := hlen
  clear H hdo hlen
  go_enter Try.func49, Try.ntmps49
  go_wp2_with fail
  refine (HD.out w (Row 128 3 tv M.n xs * (pt mb (.cells #[.slice (some ⟨wb, 0, none⟩) M.ws.length M.ws.length, .int .i64 (M.cnt : Int), .int .i64 (M.tr : Int), tv] 101 (0, 0)) * R)) (HH.out.cast (by ac_rfl))).mono ?_
  rintro e w2 ⟨rfl, H2, s2⟩
  have H2' := H2.cast (Q := pt mb (.cells #[.slice (some ⟨wb, 0, none⟩) M.ws.length M.ws.length, .int .i64 (M.cnt : Int), .int .i64 (M.tr : Int), tv] 101 (0, 0)) * (Row 128 3 tv M.n xs * (pt wb (.cells (W ws') 38 (0, 0)) * (D' * R)))) (by ac_rfl)
  have hc1 := H2'.cell 1 (.int .i64 (M.cnt : Int)) rfl
  have hc3 := H2'.cell 3 tv rfl
  have hf1 := H2'.free 1
  have H3 := (H2'.set 1 (.int .i64 ((M.cnt : Int) + 1))).alloc (.cells #[.int .i64 op, .int .i64 a, .bool ok] 128)
  have H4 := H3.drop.cast (Q := Row 128 3 tv M.n xs * (pt mb (.cells #[.slice (some ⟨wb, 0, none⟩) M.ws.length M.ws.length, .int .i64 ((M.cnt : Int) + 1), .int .i64 (M.tr : Int), tv] 101 (0, 0)) * (pt wb (.cells (W ws') 38 (0, 0)) * (D' * R)))) (by simp only [List.setIfInBounds_toArray, List.set_cons_succ, List.set_cons_zero]; ac_rfl)
  have k1 : Hid (∀ j u, [Value.int .i64 op, .int .i64 a, .bool ok][j]? = some u → ((w2.setCell ⟨mb, 1, none⟩ (.int .i64 ((M.cnt : Int) + 1))).alloc (.cells #[.int .i64 op, .int .i64 a, .bool ok] 128)).cell? ((⟨w2.heap.size, 0, none⟩ : Addr).add j) = some u) := news_alloc (w2.setCell ⟨mb, 1, none⟩ (.int .i64 ((M.cnt : Int) + 1))) [.int .i64 op, .int .i64 a, .bool ok] _ _ (by simp [World.setCell])
  have k2 : Hid (∀ u ∈ [Value.int .i64 op, .int .i64 a, .bool ok], u.oneCell' = true) := by intro u hu; simp at hu; rcases hu with rfl | rfl | rfl <;> rfl
  have k3 : Hid (M.n + 1 ≤ maxLen) := by unfold maxLen Hid; omega
  go_wp2_with (at_builtin; refine wpList_append_row _ rfl (.tmp 66) (.tmp 71) 48 rfl 128 i0 _ 3 24 Try.underlying48 hi hz0 hz1 hz2 rfl _ tv M.n xs H4 rfl ⟨w2.heap.size, 0, none⟩ 1 1 [.int .i64 op, .int .i64 a, .bool ok] rfl rfl k1.out k2.out (by omega) k3.out (by omega) ?_)
  clear H3 H4 H2' hc1 hc3 hf1 k1 k2 k3
  intro ao c' w5 H5 s5
  have H6 := H5.cast (Q := pt mb (.cells #[.slice (some ⟨wb, 0, none⟩) M.ws.length M.ws.length, .int .i64 ((M.cnt : Int) + 1), .int .i64 (M.tr : Int), tv] 101 (0, 0)) * (pt wb (.cells (W ws') 38 (0, 0)) * (Row 128 3 (.slice ao (M.n + 1) c') (M.n + 1) (xs ++ [.int .i64 op, .int .i64 a, .bool ok]) * (D' * R)))) (by ac_rfl)
  have hc3 := H6.cell 3 tv rfl
  have hf3 := H6.free 3
  have H7 := H6.set 3 (.slice ao (M.n + 1) c')
  go_wp2_with fail
  go_end0
  have e := HL.out
  refine ⟨rfl, memP_close (wb := wb) (tv := .slice ao (M.n + 1) c') (xs := xs ++ [.int .i64 op, .int .i64 a, .bool ok]) (H7.cast ?_), ((s2.set _ _).alloc _ |>.trans s5).set _ _⟩
  simp only [List.setIfInBounds_toArray, List.set_cons_succ, List.set_cons_zero, e]
  rfl
set_option maxHeartbeats 1000000 in
theorem access_neg (w : World) (R : HProp) (mb wb : Nat) (M : MS) (tv : Value) (xs : List Value) (op a : Int) (K : Nat) (C : Array Value)
    (H : Holds w (pt mb (.cells #[.slice (some ⟨wb, 0, none⟩) M.ws.length M.ws.length, .int .i64 (M.cnt : Int), .int .i64 (M.tr : Int), tv] 101 (0, 0)) * (pt wb (.cells (W M.ws) 38 (0, 0)) * (Row 128 3 tv M.n xs * R))))
    (hok : M.ok) (h0 : a < 0) :
    Calls Try.prog 49 #[.pointer (some ⟨mb, 0, none⟩), .int .i64 op, .int .i64 a, .int .i64 1, .func (.func K) #[] C] w fun e w' => e = .returned (.tuple #[]) ∧
      Holds w' (MemP 101 mb { ws := M.ws, cnt := M.cnt + 1, tr := M.tr + 1, n := M.n + 1 } * R) ∧ Strm w w' := by
  obtain ⟨hl, hwd, hcn, htn, hnn⟩ := hok
  clear hwd
  have hc0 := H.cell 0 (.slice (some ⟨wb, 0, none⟩) M.ws.length M.ws.length) rfl
  obtain ⟨i0, hi, hz0, hz1, hz2⟩ := info_parts info127
  have H2' := H.cast (Q := pt mb (.cells #[.slice (some ⟨wb, 0, none⟩) M.ws.length M.ws.length, .int .i64 (M.cnt : Int), .int .i64 (M.tr : Int), tv] 101 (0, 0)) * (Row 128 3 tv M.n xs * (pt wb (.cells (W M.ws) 38 (0, 0)) * R))) (by ac_rfl)
  have hc1 := H2'.cell 1 (.int .i64 (M.cnt : Int)) rfl
  have hc2 := H2'.cell 2 (.int .i64 (M.tr : Int)) rfl
  have hc3 := H2'.cell 3 tv rfl
  have hf1 := H2'.free 1
  have hf2 := H2'.free 2
  have H3 := ((H2'.set 1 (.int .i64 ((M.cnt : Int) + 1))).set 2 (.int .i64 ((M.tr : Int) + 1))).alloc (.cells #[.int .i64 op, .int .i64 a, .bool false] 128)
  have H4 := H3.drop.cast (Q := Row 128 3 tv M.n xs * (pt mb (.cells #[.slice (some ⟨wb, 0, none⟩) M.ws.length M.ws.length, .int .i64 ((M.cnt : Int) + 1), .int .i64 ((M.tr : Int) + 1), tv] 101 (0, 0)) * (pt wb (.cells (W M.ws) 38 (0, 0)) * R))) (by simp only [List.setIfInBounds_toArray, List.set_cons_succ, List.set_cons_zero]; ac_rfl)
  have k1 : Hid (∀ j u, [Value.int .i64 op, .int .i64 a, .bool false][j]? = some u → (((w.setCell ⟨mb, 1, none⟩ (.int .i64 ((M.cnt : Int) + 1))).setCell ⟨mb, 2, none⟩ (.int .i64 ((M.tr : Int) + 1))).alloc (.cells #[.int .i64 op, .int .i64 a, .bool false] 128)).cell? ((⟨w.heap.size, 0, none⟩ : Addr).add j) = some u) := news_alloc ((w.setCell ⟨mb, 1, none⟩ (.int .i64 ((M.cnt : Int) + 1))).setCell ⟨mb, 2, none⟩ (.int .i64 ((M.tr : Int) + 1))) [.int .i64 op, .int .i64 a, .bool false] _ _ (by simp [World.setCell])
  have k2 : Hid (∀ u ∈ [Value.int .i64 op, .int .i64 a, .bool false], u.oneCell' = true) := by intro u hu; simp at hu; rcases hu with rfl | rfl | rfl <;> rfl
  have k3 : Hid (M.n + 1 ≤ maxLen) := by unfold maxLen Hid; omega
  go_enter Try.func49, Try.ntmps49
  go_wp2_with (at_builtin; refine wpList_append_row _ rfl (.tmp 66) (.tmp 71) 48 rfl 128 i0 _ 3 24 Try.underlying48 hi hz0 hz1 hz2 rfl _ tv M.n xs H4 rfl ⟨w.heap.size, 0, none⟩ 1 1 [.int .i64 op, .int .i64 a, .bool false] rfl rfl k1.out k2.out (by omega) k3.out (by omega) ?_)
  clear H3 H4 H2' hc1 hc3 hf1 k1 k2 k3 hc2 hf2
  intro ao c' w5 H5 s5
  have H6 := H5.cast (Q := pt mb (.cells #[.slice (some ⟨wb, 0, none⟩) M.ws.length M.ws.length, .int .i64 ((M.cnt : Int) + 1), .int .i64 ((M.tr : Int) + 1), tv] 101 (0, 0)) * (pt wb (.cells (W M.ws) 38 (0, 0)) * (Row 128 3 (.slice ao (M.n + 1) c') (M.n + 1) (xs ++ [.int .i64 op, .int .i64 a, .bool false]) * R))) (by ac_rfl)
  have hc3 := H6.cell 3 tv rfl
  have hf3 := H6.free 3
  have H7 := H6.set 3 (.slice ao (M.n + 1) c')
  go_wp2_with fail
  go_end0
  refine ⟨rfl, memP_close (wb := wb) (tv := .slice ao (M.n + 1) c') (xs := xs ++ [.int .i64 op, .int .i64 a, .bool false]) (H7.cast ?_), (((((Strm.refl w).set _ _).set _ _).alloc _).trans s5).set _ _⟩
  simp only [List.setIfInBounds_toArray, List.set_cons_succ, List.set_cons_zero]
  rfl
set_option maxHeartbeats 1000000 in
theorem access_big (w : World) (R : HProp) (mb wb : Nat) (M : MS) (tv : Value) (xs : List Value) (op a : Int) (K : Nat) (C : Array Value)
    (H : Holds w (pt mb (.cells #[.slice (some ⟨wb, 0, none⟩) M.ws.length M.ws.length, .int .i64 (M.cnt : Int), .int .i64 (M.tr : Int), tv] 101 (0, 0)) * (pt wb (.cells (W M.ws) 38 (0, 0)) * (Row 128 3 tv M.n xs * R))))
    (hok : M.ok) (h0 : 0 ≤ a) (h1 : (M.ws.length : Int) ≤ a) :
    Calls Try.prog 49 #[.pointer (some ⟨mb, 0, none⟩), .int .i64 op, .int .i64 a, .int .i64 1, .func (.func K) #[] C] w fun e w' => e = .returned (.tuple #[]) ∧
      Holds w' (MemP 101 mb { ws := M.ws, cnt := M.cnt + 1, tr := M.tr + 1, n := M.n + 1 } * R) ∧ Strm w w' := by
  obtain ⟨hl, hwd, hcn, htn, hnn⟩ := hok
  clear hwd
  have hc0 := H.cell 0 (.slice (some ⟨wb, 0, none⟩) M.ws.length M.ws.length) rfl
  obtain ⟨i0, hi, hz0, hz1, hz2⟩ := info_parts info127
  have H2' := H.cast (Q := pt mb (.cells #[.slice (some ⟨wb, 0, none⟩) M.ws.length M.ws.length, .int .i64 (M.cnt : Int), .int .i64 (M.tr : Int), tv] 101 (0, 0)) * (Row 128 3 tv M.n xs * (pt wb (.cells (W M.ws) 38 (0, 0)) * R))) (by ac_rfl)
  have hc1 := H2'.cell 1 (.int .i64 (M.cnt : Int)) rfl
  have hc2 := H2'.cell 2 (.int .i64 (M.tr : Int)) rfl
  have hc3 := H2'.cell 3 tv rfl
  have hf1 := H2'.free 1
  have hf2 := H2'.free 2
  have H3 := ((H2'.set 1 (.int .i64 ((M.cnt : Int) + 1))).set 2 (.int .i64 ((M.tr : Int) + 1))).alloc (.cells #[.int .i64 op, .int .i64 a, .bool false] 128)
  have H4 := H3.drop.cast (Q := Row 128 3 tv M.n xs * (pt mb (.cells #[.slice (some ⟨wb, 0, none⟩) M.ws.length M.ws.length, .int .i64 ((M.cnt : Int) + 1), .int .i64 ((M.tr : Int) + 1), tv] 101 (0, 0)) * (pt wb (.cells (W M.ws) 38 (0, 0)) * R))) (by simp only [List.setIfInBounds_toArray, List.set_cons_succ, List.set_cons_zero]; ac_rfl)
  have k1 : Hid (∀ j u, [Value.int .i64 op, .int .i64 a, .bool false][j]? = some u → (((w.setCell ⟨mb, 1, none⟩ (.int .i64 ((M.cnt : Int) + 1))).setCell ⟨mb, 2, none⟩ (.int .i64 ((M.tr : Int) + 1))).alloc (.cells #[.int .i64 op, .int .i64 a, .bool false] 128)).cell? ((⟨w.heap.size, 0, none⟩ : Addr).add j) = some u) := news_alloc ((w.setCell ⟨mb, 1, none⟩ (.int .i64 ((M.cnt : Int) + 1))).setCell ⟨mb, 2, none⟩ (.int .i64 ((M.tr : Int) + 1))) [.int .i64 op, .int .i64 a, .bool false] _ _ (by simp [World.setCell])
  have k2 : Hid (∀ u ∈ [Value.int .i64 op, .int .i64 a, .bool false], u.oneCell' = true) := by intro u hu; simp at hu; rcases hu with rfl | rfl | rfl <;> rfl
  have k3 : Hid (M.n + 1 ≤ maxLen) := by unfold maxLen Hid; omega
  go_enter Try.func49, Try.ntmps49
  go_wp2_with (at_builtin; refine wpList_append_row _ rfl (.tmp 66) (.tmp 71) 48 rfl 128 i0 _ 3 24 Try.underlying48 hi hz0 hz1 hz2 rfl _ tv M.n xs H4 rfl ⟨w.heap.size, 0, none⟩ 1 1 [.int .i64 op, .int .i64 a, .bool false] rfl rfl k1.out k2.out (by omega) k3.out (by omega) ?_)
  clear H3 H4 H2' hc1 hc3 hf1 k1 k2 k3 hc2 hf2
  intro ao c' w5 H5 s5
  have H6 := H5.cast (Q := pt mb (.cells #[.slice (some ⟨wb, 0, none⟩) M.ws.length M.ws.length, .int .i64 ((M.cnt : Int) + 1), .int .i64 ((M.tr : Int) + 1), tv] 101 (0, 0)) * (pt wb (.cells (W M.ws) 38 (0, 0)) * (Row 128 3 (.slice ao (M.n + 1) c') (M.n + 1) (xs ++ [.int .i64 op, .int .i64 a, .bool false]) * R))) (by ac_rfl)
  have hc3 := H6.cell 3 tv rfl
  have hf3 := H6.free 3
  have H7 := H6.set 3 (.slice ao (M.n + 1) c')
  go_wp2_with fail
  go_end0
  refine ⟨rfl, memP_close (wb := wb) (tv := .slice ao (M.n + 1) c') (xs := xs ++ [.int .i64 op, .int .i64 a, .bool false]) (H7.cast ?_), (((((Strm.refl w).set _ _).set _ _).alloc _).trans s5).set _ _⟩
  simp only [List.setIfInBounds_toArray, List.set_cons_succ, List.set_cons_zero]
  rfl

/-! ### the pure memory -/
def MS.there (M : MS) (a : Int) : Bool := decide (0 ≤ a) && decide (a < M.ws.length)
def MS.get (M : MS) (a : Int) : Int := M.ws.getD a.toNat 0
/-- Behind an access that was done, or was a trap. -/
def MS.acc (M : MS) (b : Bool) : MS := { M with cnt := M.cnt + 1, tr := if b then M.tr else M.tr + 1, n := M.n + 1 }
def MS.load (M : MS) (a : Int) : Int := if M.there a then M.get a else 0
def MS.loaded (M : MS) (a : Int) : MS := M.acc (M.there a)
def MS.put (M : MS) (a x : Int) : MS := if M.there a then { M with ws := M.ws.set a.toNat x } else M
def MS.store (M : MS) (a x : Int) : MS := (M.put a x).acc (M.there a)

theorem callFn41 (args : Array Value) (w : World) : (callFunc 50 args).run Try.prog w = .ok (.enter 50 args) w := by
  go_simp
set_option maxHeartbeats 1000000 in
theorem load1 (wb bx a : Nat) (ws : List Int) (v0 x : Int) (h1 : a < ws.length) (hl : ws.length ≤ 4096) (hx : (W ws)[a]? = some (.int .u64 x)) : Does 50 #[.pointer (some ⟨bx, 0, none⟩)] wb a ws ws true
    (pt bx (.cells #[.int .u64 v0] 38 (0, 0))) (pt bx (.cells #[.int .u64 x] 38 (0, 0))) := by
  intro w R H
  have hc : w.cell? ⟨wb, a, none⟩ = some (.int .u64 x) := H.cell a _ hx
  have H2 := H.cast (Q := pt bx (.cells #[.int .u64 v0] 38 (0, 0)) * (pt wb (.cells (W ws) 38 (0, 0)) * R)) (by ac_rfl)
  have hb := H2.cell 0 (.int .u64 v0) rfl
  have hf := H2.free 0
  have H3 := H2.set 0 (.int .u64 x)
  clear H H2 hx
  have hlt : 0 < ws.length - a := by omega
  simp only [List.append_toArray, List.cons_append, List.nil_append]
  go_enter Try.func50, Try.ntmps50
  go_wp2_with fail
  go_ret
  exact ⟨rfl, H3.cast (by simp only [List.setIfInBounds_toArray, List.set_cons_zero]; ac_rfl), (Strm.refl w).set _ _⟩
set_option maxHeartbeats 1000000 in
theorem load_in (w : World) (R : HProp) (mb : Nat) (M : MS) (a x : Int) (H : Holds w (MemP 101 mb M * R)) (hok : M.ok) (h0 : 0 ≤ a) (h1 : a < M.ws.length) (hx : (W M.ws)[a.toNat]? = some (.int .u64 x)) :
    Calls Try.prog 18 #[.pointer (some ⟨mb, 0, none⟩), .int .i64 a] w fun e w' => e = .returned (.int .u64 x) ∧ Holds w' (MemP 101 mb (M.acc true) * R) ∧ Strm w w' := by
  obtain ⟨wb, tv, xs, H⟩ := memP_open H
  have H1 := (H.alloc (.cells #[.int .u64 0] 38)).cast (Q := pt mb (.cells #[.slice (some ⟨wb, 0, none⟩) M.ws.length M.ws.length, .int .i64 (M.cnt : Int), .int .i64 (M.tr : Int), tv] 101 (0, 0)) * (pt wb (.cells (W M.ws) 38 (0, 0)) * (pt w.heap.size (.cells #[.int .u64 0] 38 (0, 0)) * (Row 128 3 tv M.n xs * R)))) (by ac_rfl)
  have hd : Hid (Does 50 #[.pointer (some ⟨w.heap.size, 0, none⟩)] wb a.toNat M.ws M.ws true _ _) := load1 wb w.heap.size a.toNat M.ws 0 x (by omega) hok.len hx
  clear hx
  have HK : Hid M.ok := hok
  clear H hok
  go_enter Try.func18, Try.ntmps18
  go_wp2_with (go_at_call 49; refine (access_in _ R _ _ mb wb M M.ws true tv xs 1 a 50 _ H1 callFn41 hd.out rfl HK.out h0 h1).mono ?_; rintro e w2 ⟨rfl, H2, s2⟩; have H3 := H2.cast (Q := pt w.heap.size (.cells #[.int .u64 x] 38 (0, 0)) * (MemP 101 mb (M.acc true) * R)) (by unfold MS.acc; ac_rfl); have hb := H3.cell 0 (.int .u64 x) rfl; have hf := H3.free 0)
  exact bodyPost_ret (v := .int .u64 x) (by simp [results, Try.results18, go_sem, hb, hf]) rfl ⟨rfl, (H3.set 0 (.int .u64 x)).drop, ((Strm.refl w).alloc _ |>.trans s2).set _ _⟩
theorem access_out (w : World) (R : HProp) (mb : Nat) (M : MS) (op a : Int) (K : Nat) (C : Array Value) (H : Holds w (MemP 101 mb M * R)) (hok : M.ok) (h : ¬ (0 ≤ a ∧ a < M.ws.length)) :
    Calls Try.prog 49 #[.pointer (some ⟨mb, 0, none⟩), .int .i64 op, .int .i64 a, .int .i64 1, .func (.func K) #[] C] w fun e w' => e = .returned (.tuple #[]) ∧
      Holds w' (MemP 101 mb (M.acc false) * R) ∧ Strm w w' := by
  obtain ⟨wb, tv, xs, H⟩ := memP_open H
  by_cases h0 : a < 0
  · exact access_neg w R mb wb M tv xs op a K C H hok h0
  · exact access_big w R mb wb M tv xs op a K C H hok (by omega) (by omega)
set_option maxHeartbeats 1000000 in
theorem load_out (w : World) (R : HProp) (mb : Nat) (M : MS) (a : Int) (H : Holds w (MemP 101 mb M * R)) (hok : M.ok) (h : ¬ (0 ≤ a ∧ a < M.ws.length)) :
    Calls Try.prog 18 #[.pointer (some ⟨mb, 0, none⟩), .int .i64 a] w fun e w' => e = .returned (.int .u64 0) ∧ Holds w' (MemP 101 mb (M.acc false) * R) ∧ Strm w w' := by
  have H1 := (H.alloc (.cells #[.int .u64 0] 38)).cast (Q := MemP 101 mb M * (pt w.heap.size (.cells #[.int .u64 0] 38 (0, 0)) * R)) (by ac_rfl)
  have HK : Hid (M.ok ∧ ¬ (0 ≤ a ∧ a < M.ws.length)) := ⟨hok, h⟩
  clear H hok h
  go_enter Try.func18, Try.ntmps18
  go_wp2_with (go_at_call 49; refine (access_out _ _ mb M 1 a 50 _ H1 HK.out.1 HK.out.2).mono ?_; rintro e w2 ⟨rfl, H2, s2⟩; have H3 := H2.cast (Q := pt w.heap.size (.cells #[.int .u64 0] 38 (0, 0)) * (MemP 101 mb (M.acc false) * R)) (by ac_rfl); have hb := H3.cell 0 (.int .u64 0) rfl; have hf := H3.free 0)
  exact bodyPost_ret (v := .int .u64 0) (by simp [results, Try.results18, go_sem, hb, hf]) rfl ⟨rfl, (H3.set 0 (.int .u64 0)).drop, ((Strm.refl w).alloc _ |>.trans s2).set _ _⟩
theorem there_iff (M : MS) (a : Int) : M.there a = true ↔ (0 ≤ a ∧ a < M.ws.length) := by simp [MS.there]
theorem load_calls (w : World) (R : HProp) (mb : Nat) (M : MS) (a : Int) (H : Holds w (MemP 101 mb M * R)) (hok : M.ok) :
    Calls Try.prog 18 #[.pointer (some ⟨mb, 0, none⟩), .int .i64 a] w fun e w' => e = .returned (.int .u64 (M.load a)) ∧ Holds w' (MemP 101 mb (M.loaded a) * R) ∧ Strm w w' := by
  unfold MS.load MS.loaded
  by_cases h : M.there a = true
  · rw [h, if_pos rfl]
    obtain ⟨h0, h1⟩ := (there_iff M a).1 h
    exact load_in w R mb M a (M.get a) H hok h0 h1 (W_get _ _ (by omega))
  · rw [Bool.not_eq_true] at h
    rw [h, if_neg (by simp)]
    exact load_out w R mb M a H hok (fun x => by rw [(there_iff M a).2 x] at h; cases h)

/-! ### Store -/
theorem callFn58 (args : Array Value) (w : World) : (callFunc 51 args).run Try.prog w = .ok (.enter 51 args) w := by
  go_simp
set_option maxHeartbeats 1000000 in
theorem store1 (wb bx a : Nat) (ws : List Int) (x : Int) (h1 : a < ws.length) (hl : ws.length ≤ 4096) : Does 51 #[.pointer (some ⟨bx, 0, none⟩)] wb a ws (ws.set a x) true
    (pt bx (.cells #[.int .u64 x] 38 (0, 0))) (pt bx (.cells #[.int .u64 x] 38 (0, 0))) := by
  intro w R H
  have hc : w.cell? ⟨wb, a, none⟩ = some (.int .u64 (ws.getD a 0)) := H.cell a _ (W_get ws a h1)
  have hfw := H.free a
  have hb := (H.cast (Q := pt bx (.cells #[.int .u64 x] 38 (0, 0)) * (pt wb (.cells (W ws) 38 (0, 0)) * R)) (by ac_rfl)).cell 0 (.int .u64 x) rfl
  have H3 := H.set a (.int .u64 x)
  rw [W_set] at H3
  clear H
  generalize ws.getD a 0 = y at hc
  have hlt : 0 < ws.length - a := by omega
  simp only [List.append_toArray, List.cons_append, List.nil_append]
  go_enter Try.func51, Try.ntmps51
  go_wp2_with fail
  go_ret
  exact ⟨rfl, H3, (Strm.refl w).set _ _⟩
set_option maxHeartbeats 1000000 in
theorem store_in (w : World) (R : HProp) (mb : Nat) (M : MS) (a x : Int) (H : Holds w (MemP 101 mb M * R)) (hok : M.ok) (h0 : 0 ≤ a) (h1 : a < M.ws.length) :
    Calls Try.prog 20 #[.pointer (some ⟨mb, 0, none⟩), .int .i64 a, .int .u64 x] w fun e w' => e = .returned (.tuple #[]) ∧ Holds w' (MemP 101 mb (({ M with ws := M.ws.set a.toNat x } : MS).acc true) * R) ∧ Strm w w' := by
  obtain ⟨wb, tv, xs, H⟩ := memP_open H
  have H1 := (H.alloc (.cells #[.int .u64 x] 38)).cast (Q := pt mb (.cells #[.slice (some ⟨wb, 0, none⟩) M.ws.length M.ws.length, .int .i64 (M.cnt : Int), .int .i64 (M.tr : Int), tv] 101 (0, 0)) * (pt wb (.cells (W M.ws) 38 (0, 0)) * (pt w.heap.size (.cells #[.int .u64 x] 38 (0, 0)) * (Row 128 3 tv M.n xs * R)))) (by ac_rfl)
  have hd : Hid (Does 51 #[.pointer (some ⟨w.heap.size, 0, none⟩)] wb a.toNat M.ws (M.ws.set a.toNat x) true _ _) := store1 wb w.heap.size a.toNat M.ws x (by omega) hok.len
  have HK : Hid M.ok := hok
  clear H hok
  go_enter Try.func20, Try.ntmps20
  go_wp2_with (go_at_call 49; refine (access_in _ R _ _ mb wb M (M.ws.set a.toNat x) true tv xs 2 a 51 _ H1 callFn58 hd.out (List.length_set ..) HK.out h0 h1).mono ?_; rintro e w2 ⟨rfl, H2, s2⟩)
  go_end0
  exact ⟨rfl, (H2.cast (Q := pt w.heap.size (.cells #[.int .u64 x] 38 (0, 0)) * (MemP 101 mb (({ M with ws := M.ws.set a.toNat x } : MS).acc true) * R)) (by unfold MS.acc; ac_rfl)).drop, (Strm.refl w).alloc _ |>.trans s2⟩
set_option maxHeartbeats 1000000 in
theorem store_out (w : World) (R : HProp) (mb : Nat) (M : MS) (a x : Int) (H : Holds w (MemP 101 mb M * R)) (hok : M.ok) (h : ¬ (0 ≤ a ∧ a < M.ws.length)) :
    Calls Try.prog 20 #[.pointer (some ⟨mb, 0, none⟩), .int .i64 a, .int .u64 x] w fun e w' => e = .returned (.tuple #[]) ∧ Holds w' (MemP 101 mb (M.acc false) * R) ∧ Strm w w' := by
  have H1 := (H.alloc (.cells #[.int .u64 x] 38)).cast (Q := MemP 101 mb M * (pt w.heap.size (.cells #[.int .u64 x] 38 (0, 0)) * R)) (by ac_rfl)
  have HK : Hid (M.ok ∧ ¬ (0 ≤ a ∧ a < M.ws.length)) := ⟨hok, h⟩
  clear H hok h
  go_enter Try.func20, Try.ntmps20
  go_wp2_with (go_at_call 49; refine (access_out _ _ mb M 2 a 51 _ H1 HK.out.1 HK.out.2).mono ?_; rintro e w2 ⟨rfl, H2, s2⟩)
  go_end0
  exact ⟨rfl, (H2.cast (Q := pt w.heap.size (.cells #[.int .u64 x] 38 (0, 0)) * (MemP 101 mb (M.acc false) * R)) (by ac_rfl)).drop, (Strm.refl w).alloc _ |>.trans s2⟩
theorem store_calls (w : World) (R : HProp) (mb : Nat) (M : MS) (a x : Int) (H : Holds w (MemP 101 mb M * R)) (hok : M.ok) :
    Calls Try.prog 20 #[.pointer (some ⟨mb, 0, none⟩), .int .i64 a, .int .u64 x] w fun e w' => e = .returned (.tuple #[]) ∧ Holds w' (MemP 101 mb (M.store a x) * R) ∧ Strm w w' := by
  unfold MS.store MS.put
  by_cases h : M.there a = true
  · rw [h, if_pos rfl]
    obtain ⟨h0, h1⟩ := (there_iff M a).1 h
    exact store_in w R mb M a x H hok h0 h1
  · rw [Bool.not_eq_true] at h
    rw [h, if_neg (by simp)]
    exact store_out w R mb M a x H hok (fun y => by rw [(there_iff M a).2 y] at h; cases h)
end Go.Proofs.Ytmmpnjcmaodkcaa.Mem
/- What is proved: the contract of the program's memory's CAS. Conditions: stated with each contract. -/
namespace Go.Proofs.Ytmmpnjcmaodkcaa.Mem
open Go Go.RowKit Go.Proofs.Ytmmpnjcmaodkcaa.Sep
set_option maxRecDepth 100000
set_option linter.unusedVariables false
set_option linter.unusedSimpArgs false
theorem callFnCas (args : Array Value) (w : World) : (callFunc 65 args).run Try.prog w = .ok (.enter 65 args) w := by
  go_simp
set_option maxHeartbeats 2000000 in
theorem cas1_hit (wb bo bk bw a : Nat) (ws : List Int) (old x y : Int) (k0 : Bool) (h1 : a < ws.length) (hl : ws.length ≤ 4096) (hx : (W ws)[a]? = some (.int .u64 y)) (hy : y = old) :
    Does 65 #[.pointer (some ⟨bo, 0, none⟩), .pointer (some ⟨bk, 0, none⟩), .pointer (some ⟨bw, 0, none⟩)] wb a ws (ws.set a x) true
    (pt bo (.cells #[.int .u64 old] 38 (0, 0)) * (pt bk (.cells #[.bool k0] 4 (0, 0)) * pt bw (.cells #[.int .u64 x] 38 (0, 0)))) (pt bo (.cells #[.int .u64 old] 38 (0, 0)) * (pt bk (.cells #[.bool true] 4 (0, 0)) * pt bw (.cells #[.int .u64 x] 38 (0, 0)))) := by
  intro w R H
  have hc : w.cell? ⟨wb, a, none⟩ = some (.int .u64 y) := H.cell a _ hx
  have hfw := H.free a
  have H2 := H.cast (Q := pt bk (.cells #[.bool k0] 4 (0, 0)) * (pt bo (.cells #[.int .u64 old] 38 (0, 0)) * (pt bw (.cells #[.int .u64 x] 38 (0, 0)) * (pt wb (.cells (W ws) 38 (0, 0)) * R)))) (by ac_rfl)
  have ck := H2.cells
  have fk := H2.frees
  have co := H2.drop.cells
  have cw := H2.drop.drop.cells
  have H3 := H2.set 0 (.bool true)
  have H4 := H3.cast (Q := pt wb (.cells (W ws) 38 (0, 0)) * ((pt bo (.cells #[.int .u64 old] 38 (0, 0)) * (pt bk (.cells #[.bool true] 4 (0, 0)) * pt bw (.cells #[.int .u64 x] 38 (0, 0)))) * R)) (by simp only [List.setIfInBounds_toArray, List.set_cons_zero]; ac_rfl)
  have hne : wb ≠ bk := (H4.cast (Q := pt wb (.cells (W ws) 38 (0, 0)) * (pt bk (.cells #[.bool true] 4 (0, 0)) * (pt bo (.cells #[.int .u64 old] 38 (0, 0)) * (pt bw (.cells #[.int .u64 x] 38 (0, 0)) * R)))) (by ac_rfl)).ne
  have hne2 : wb ≠ bw := (H4.cast (Q := pt wb (.cells (W ws) 38 (0, 0)) * (pt bw (.cells #[.int .u64 x] 38 (0, 0)) * (pt bo (.cells #[.int .u64 old] 38 (0, 0)) * (pt bk (.cells #[.bool true] 4 (0, 0)) * R)))) (by ac_rfl)).ne
  have hne3 : bk ≠ bw := (H2.cast (Q := pt bk (.cells #[.bool k0] 4 (0, 0)) * (pt bw (.cells #[.int .u64 x] 38 (0, 0)) * (pt bo (.cells #[.int .u64 old] 38 (0, 0)) * (pt wb (.cells (W ws) 38 (0, 0)) * R)))) (by ac_rfl)).ne
  have hne4 : bk ≠ bo := H2.ne
  have H5 := H4.set a (.int .u64 x)
  rw [W_set] at H5
  have HB : (y == old) = true := by simpa using hy
  clear H H2 H3 hx hy
  have hlt : 0 < ws.length - a := by omega
  simp only [List.append_toArray, List.cons_append, List.nil_append]
  go_enter Try.func65, Try.ntmps65
  go_wp2_with fail
  go_region
  all_goals (go_wp2_with fail)
  all_goals go_ret
  all_goals exact ⟨rfl, H5, (((Strm.refl w).drew).set _ _).set _ _⟩
set_option maxHeartbeats 2000000 in
theorem cas1_miss (wb bo bk bw a : Nat) (ws : List Int) (old x y : Int) (k0 : Bool) (h1 : a < ws.length) (hl : ws.length ≤ 4096) (hx : (W ws)[a]? = some (.int .u64 y)) (hy : ¬ y = old) :
    Does 65 #[.pointer (some ⟨bo, 0, none⟩), .pointer (some ⟨bk, 0, none⟩), .pointer (some ⟨bw, 0, none⟩)] wb a ws ws false
    (pt bo (.cells #[.int .u64 old] 38 (0, 0)) * (pt bk (.cells #[.bool k0] 4 (0, 0)) * pt bw (.cells #[.int .u64 x] 38 (0, 0)))) (pt bo (.cells #[.int .u64 old] 38 (0, 0)) * (pt bk (.cells #[.bool false] 4 (0, 0)) * pt bw (.cells #[.int .u64 x] 38 (0, 0)))) := by
  intro w R H
  have hc : w.cell? ⟨wb, a, none⟩ = some (.int .u64 y) := H.cell a _ hx
  have hfw := H.free a
  have H2 := H.cast (Q := pt bk (.cells #[.bool k0] 4 (0, 0)) * (pt bo (.cells #[.int .u64 old] 38 (0, 0)) * (pt bw (.cells #[.int .u64 x] 38 (0, 0)) * (pt wb (.cells (W ws) 38 (0, 0)) * R)))) (by ac_rfl)
  have ck := H2.cells
  have fk := H2.frees
  have co := H2.drop.cells
  have cw := H2.drop.drop.cells
  have H3 := H2.set 0 (.bool false)
  have H4 := H3.cast (Q := pt wb (.cells (W ws) 38 (0, 0)) * ((pt bo (.cells #[.int .u64 old] 38 (0, 0)) * (pt bk (.cells #[.bool false] 4 (0, 0)) * pt bw (.cells #[.int .u64 x] 38 (0, 0)))) * R)) (by simp only [List.setIfInBounds_toArray, List.set_cons_zero]; ac_rfl)
  have hne : wb ≠ bk := (H4.cast (Q := pt wb (.cells (W ws) 38 (0, 0)) * (pt bk (.cells #[.bool false] 4 (0, 0)) * (pt bo (.cells #[.int .u64 old] 38 (0, 0)) * (pt bw (.cells #[.int .u64 x] 38 (0, 0)) * R)))) (by ac_rfl)).ne
  have hne2 : wb ≠ bw := (H4.cast (Q := pt wb (.cells (W ws) 38 (0, 0)) * (pt bw (.cells #[.int .u64 x] 38 (0, 0)) * (pt bo (.cells #[.int .u64 old] 38 (0, 0)) * (pt bk (.cells #[.bool false] 4 (0, 0)) * R)))) (by ac_rfl)).ne
  have hne3 : bk ≠ bw := (H2.cast (Q := pt bk (.cells #[.bool k0] 4 (0, 0)) * (pt bw (.cells #[.int .u64 x] 38 (0, 0)) * (pt bo (.cells #[.int .u64 old] 38 (0, 0)) * (pt wb (.cells (W ws) 38 (0, 0)) * R)))) (by ac_rfl)).ne
  have hne4 : bk ≠ bo := H2.ne
  have HB : (y == old) = false := by simpa using hy
  clear H H2 H3 hx hy
  have hlt : 0 < ws.length - a := by omega
  simp only [List.append_toArray, List.cons_append, List.nil_append]
  go_enter Try.func65, Try.ntmps65
  go_wp2_with fail
  go_region
  all_goals (go_wp2_with fail)
  all_goals go_ret
  all_goals exact ⟨rfl, H4, ((Strm.refl w).drew).set _ _⟩
/-! ### CAS -/
def MS.casOk (M : MS) (a old : Int) : Bool := M.there a && decide (M.get a = old)
def MS.cas (M : MS) (a old x : Int) : MS := (if M.casOk a old then { M with ws := M.ws.set a.toNat x } else M).acc (M.there a)
set_option maxHeartbeats 2000000 in
theorem cas_hit (w : World) (R : HProp) (mb : Nat) (M : MS) (a old x y : Int) (H : Holds w (MemP 101 mb M * R)) (hok : M.ok) (h0 : 0 ≤ a) (h1 : a < M.ws.length) (hx : (W M.ws)[a.toNat]? = some (.int .u64 y)) (hy : y = old) :
    Calls Try.prog 44 #[.pointer (some ⟨mb, 0, none⟩), .int .i64 a, .int .u64 old, .int .u64 x] w fun e w' => e = .returned (.bool true) ∧ Holds w' (MemP 101 mb (({ M with ws := (M.ws.set a.toNat x) } : MS).acc true) * R) ∧ Strm w w' := by
  obtain ⟨wb, tv, xs, H⟩ := memP_open H
  have H0 := ((H.alloc (.cells #[.int .u64 old] 38)).alloc (.cells #[.int .u64 x] 38)).alloc (.cells #[.bool false] 4)
  simp only [World.size_alloc] at H0
  have H1 := H0.cast (Q := pt mb (.cells #[.slice (some ⟨wb, 0, none⟩) M.ws.length M.ws.length, .int .i64 (M.cnt : Int), .int .i64 (M.tr : Int), tv] 101 (0, 0)) * (pt wb (.cells (W M.ws) 38 (0, 0)) * ((pt w.heap.size (.cells #[.int .u64 old] 38 (0, 0)) * (pt (w.heap.size + 1 + 1) (.cells #[.bool false] 4 (0, 0)) * pt (w.heap.size + 1) (.cells #[.int .u64 x] 38 (0, 0)))) * (Row 128 3 tv M.n xs * R)))) (by ac_rfl)
  have hd : Hid (Does 65 #[.pointer (some ⟨w.heap.size, 0, none⟩), .pointer (some ⟨w.heap.size + 1 + 1, 0, none⟩), .pointer (some ⟨w.heap.size + 1, 0, none⟩)] wb a.toNat M.ws (M.ws.set a.toNat x) true _ _) := cas1_hit wb w.heap.size (w.heap.size + 1 + 1) (w.heap.size + 1) a.toNat M.ws old x y false (by omega) hok.len hx hy
  have HK : Hid M.ok := hok
  clear H H0 hok hx hy
  go_enter Try.func44, Try.ntmps44
  go_wp2_with (go_at_call 49; refine (access_in _ R _ _ mb wb M (M.ws.set a.toNat x) true tv xs 3 a 65 _ H1 callFnCas hd.out (List.length_set ..) HK.out h0 h1).mono ?_; rintro e w2 ⟨rfl, H2, s2⟩; have H3 := H2.cast (Q := pt (w.heap.size + 1 + 1) (.cells #[.bool true] 4 (0, 0)) * (pt w.heap.size (.cells #[.int .u64 old] 38 (0, 0)) * (pt (w.heap.size + 1) (.cells #[.int .u64 x] 38 (0, 0)) * (MemP 101 mb (({ M with ws := (M.ws.set a.toNat x) } : MS).acc true) * R)))) (by unfold MS.acc; ac_rfl); have hb := H3.cells; have hf := H3.frees)
  exact bodyPost_ret (v := .bool true) (by simp [results, Try.results44, go_sem, hb, hf]) rfl ⟨rfl, (H3.set 0 (.bool true)).drop.drop.drop, (((((Strm.refl w).alloc _).alloc _).alloc _).trans s2).set _ _⟩
set_option maxHeartbeats 2000000 in
theorem cas_miss (w : World) (R : HProp) (mb : Nat) (M : MS) (a old x y : Int) (H : Holds w (MemP 101 mb M * R)) (hok : M.ok) (h0 : 0 ≤ a) (h1 : a < M.ws.length) (hx : (W M.ws)[a.toNat]? = some (.int .u64 y)) (hy : ¬ y = old) :
    Calls Try.prog 44 #[.pointer (some ⟨mb, 0, none⟩), .int .i64 a, .int .u64 old, .int .u64 x] w fun e w' => e = .returned (.bool false) ∧ Holds w' (MemP 101 mb (({ M with ws := M.ws } : MS).acc true) * R) ∧ Strm w w' := by
  obtain ⟨wb, tv, xs, H⟩ := memP_open H
  have H0 := ((H.alloc (.cells #[.int .u64 old] 38)).alloc (.cells #[.int .u64 x] 38)).alloc (.cells #[.bool false] 4)
  simp only [World.size_alloc] at H0
  have H1 := H0.cast (Q := pt mb (.cells #[.slice (some ⟨wb, 0, none⟩) M.ws.length M.ws.length, .int .i64 (M.cnt : Int), .int .i64 (M.tr : Int), tv] 101 (0, 0)) * (pt wb (.cells (W M.ws) 38 (0, 0)) * ((pt w.heap.size (.cells #[.int .u64 old] 38 (0, 0)) * (pt (w.heap.size + 1 + 1) (.cells #[.bool false] 4 (0, 0)) * pt (w.heap.size + 1) (.cells #[.int .u64 x] 38 (0, 0)))) * (Row 128 3 tv M.n xs * R)))) (by ac_rfl)
  have hd : Hid (Does 65 #[.pointer (some ⟨w.heap.size, 0, none⟩), .pointer (some ⟨w.heap.size + 1 + 1, 0, none⟩), .pointer (some ⟨w.heap.size + 1, 0, none⟩)] wb a.toNat M.ws M.ws false _ _) := cas1_miss wb w.heap.size (w.heap.size + 1 + 1) (w.heap.size + 1) a.toNat M.ws old x y false (by omega) hok.len hx hy
  have HK : Hid M.ok := hok
  clear H H0 hok hx hy
  go_enter Try.func44, Try.ntmps44
  go_wp2_with (go_at_call 49; refine (access_in _ R _ _ mb wb M M.ws false tv xs 3 a 65 _ H1 callFnCas hd.out rfl HK.out h0 h1).mono ?_; rintro e w2 ⟨rfl, H2, s2⟩; have H3 := H2.cast (Q := pt (w.heap.size + 1 + 1) (.cells #[.bool false] 4 (0, 0)) * (pt w.heap.size (.cells #[.int .u64 old] 38 (0, 0)) * (pt (w.heap.size + 1) (.cells #[.int .u64 x] 38 (0, 0)) * (MemP 101 mb (({ M with ws := M.ws } : MS).acc true) * R)))) (by unfold MS.acc; ac_rfl); have hb := H3.cells; have hf := H3.frees)
  exact bodyPost_ret (v := .bool false) (by simp [results, Try.results44, go_sem, hb, hf]) rfl ⟨rfl, (H3.set 0 (.bool false)).drop.drop.drop, (((((Strm.refl w).alloc _).alloc _).alloc _).trans s2).set _ _⟩
set_option maxHeartbeats 2000000 in
theorem cas_out (w : World) (R : HProp) (mb : Nat) (M : MS) (a old x : Int) (H : Holds w (MemP 101 mb M * R)) (hok : M.ok) (h : ¬ (0 ≤ a ∧ a < M.ws.length)) :
    Calls Try.prog 44 #[.pointer (some ⟨mb, 0, none⟩), .int .i64 a, .int .u64 old, .int .u64 x] w fun e w' => e = .returned (.bool false) ∧ Holds w' (MemP 101 mb (M.acc false) * R) ∧ Strm w w' := by
  have H0 := ((H.alloc (.cells #[.int .u64 old] 38)).alloc (.cells #[.int .u64 x] 38)).alloc (.cells #[.bool false] 4)
  simp only [World.size_alloc] at H0
  have H1 := H0.cast (Q := MemP 101 mb M * (pt (w.heap.size + 1 + 1) (.cells #[.bool false] 4 (0, 0)) * (pt w.heap.size (.cells #[.int .u64 old] 38) * (pt (w.heap.size + 1) (.cells #[.int .u64 x] 38) * R)))) (by ac_rfl)
  have HK : Hid (M.ok ∧ ¬ (0 ≤ a ∧ a < M.ws.length)) := ⟨hok, h⟩
  clear H H0 hok h
  go_enter Try.func44, Try.ntmps44
  go_wp2_with (go_at_call 49; refine (access_out _ _ mb M 3 a 65 _ H1 HK.out.1 HK.out.2).mono ?_; rintro e w2 ⟨rfl, H2, s2⟩; have H3 := H2.cast (Q := pt (w.heap.size + 1 + 1) (.cells #[.bool false] 4 (0, 0)) * (pt w.heap.size (.cells #[.int .u64 old] 38) * (pt (w.heap.size + 1) (.cells #[.int .u64 x] 38) * (MemP 101 mb (M.acc false) * R)))) (by ac_rfl); have hb := H3.cells; have hf := H3.frees)
  exact bodyPost_ret (v := .bool false) (by simp [results, Try.results44, go_sem, hb, hf]) rfl ⟨rfl, (H3.set 0 (.bool false)).drop.drop.drop, (((((Strm.refl w).alloc _).alloc _).alloc _).trans s2).set _ _⟩
theorem cas_calls (w : World) (R : HProp) (mb : Nat) (M : MS) (a old x : Int) (H : Holds w (MemP 101 mb M * R)) (hok : M.ok) :
    Calls Try.prog 44 #[.pointer (some ⟨mb, 0, none⟩), .int .i64 a, .int .u64 old, .int .u64 x] w fun e w' => e = .returned (.bool (M.casOk a old)) ∧ Holds w' (MemP 101 mb (M.cas a old x) * R) ∧ Strm w w' := by
  unfold MS.cas MS.casOk
  by_cases h : M.there a = true
  · obtain ⟨h0, h1⟩ := (there_iff M a).1 h
    rw [h]
    by_cases hy : M.get a = old
    · rw [decide_eq_true hy]
      exact cas_hit w R mb M a old x (M.get a) H hok h0 h1 (W_get _ _ (by omega)) hy
    · rw [decide_eq_false hy]
      exact cas_miss w R mb M a old x (M.get a) H hok h0 h1 (W_get _ _ (by omega)) hy
  · rw [Bool.not_eq_true] at h
    rw [h]
    exact cas_out w R mb M a old x H hok (fun y => by rw [(there_iff M a).2 y] at h; cases h)
end Go.Proofs.Ytmmpnjcmaodkcaa.Mem
