/- What is proved: cells, values and frames of the second evaluator, and what they denote. Conditions: stated with each lemma. -/
import Derived.Test.YtfapicccijbanaaTb
import Derived.Test.YtfapicccijbanaaEv
namespace Go.Proofs.Ytfapicccijbanaa.Ef
open Go Go.Proofs.Ytfapicccijbanaa.Sep
open Go.Proofs.Ytfapicccijbanaa.Ev (Fast tyAgg tySize run_underlying' run_isAgg' run_sizeOf' run_zeroValue')
set_option linter.unusedVariables false
set_option linter.unusedSimpArgs false
set_option linter.unusedSectionVars false
/-- What one cell holds; a pointer bears its block's name. -/
inductive SC where
  | int (k : IntKind) (t : Tm)
  | bool (t : Tm)
  | ptr (nm off : Nat)
  | ptrR (nm : Nat) (b t : Tm) (st o : Nat)
  | nil
  | slice (nm off : Nat) (len cap : Tm)
  | sliceQ (nm : Nat) (b len cap : Tm)
  | snil
  | func (f : Nat) (first cap : List (Nat × Nat))
  | nilF
  | raw (v : Value)
  | any (i : Nat)
inductive SA where
  | one (c : SC)
  | agg (l : List SC)
inductive SV where
  | a (x : SA)
  | tup (l : List SA)
  | top
abbrev SV.c (c : SC) : SV := .a (.one c)
abbrev SV.un : SV := .tup []
abbrev Bl := Nat → Nat
section
variable [Interp] [Vars]
def pden (β : Bl) (p : Nat × Nat) : Value := .pointer (some ⟨β p.1, p.2, none⟩)
def SC.den (β : Bl) : SC → Value
  | .int k t => .int k t.v
  | .bool t => .bool t.tv
  | .ptr nm o => .pointer (some ⟨β nm, o, none⟩)
  | .ptrR nm b t st o => .pointer (some ⟨β nm, b.v.toNat + t.v.toNat * st + o, none⟩)
  | .nil => .pointer none
  | .slice nm o l c => .slice (some ⟨β nm, o, none⟩) l.v.toNat c.v.toNat
  | .sliceQ nm b l c => .slice (if l.v ≤ 0 then Vars.ad b.v else some ⟨β nm, b.v.toNat, none⟩) l.v.toNat c.v.toNat
  | .snil => .slice none 0 0
  | .func f a c => .func (.func f) (a.map (pden β)).toArray (c.map (pden β)).toArray
  | .nilF => .nilFunc
  | .raw v => v
  | .any i => Vars.ω i
def dens (β : Bl) (l : List SC) : Array Value := (l.map (SC.den β)).toArray
def SA.den (β : Bl) : SA → Value
  | .one c => c.den β
  | .agg l => .agg (dens β l)
def SV.den (β : Bl) : SV → Value
  | .a x => x.den β
  | .tup l => .tuple (l.map (SA.den β)).toArray
  | .top => undef
theorem un_den (β : Bl) : SV.un.den β = undef := rfl
end
/-! ### names that are met -/
def SC.wf (n : Nat) : SC → Prop
  | .ptr nm _ => nm < n
  | .ptrR nm _ _ _ _ => nm < n
  | .slice nm _ _ _ => nm < n
  | .sliceQ nm _ _ _ => nm < n
  | .func _ a c => (∀ p ∈ a, p.1 < n) ∧ ∀ p ∈ c, p.1 < n
  | _ => True
def lwf (n : Nat) (l : List SC) : Prop := ∀ c ∈ l, c.wf n
def SA.wf (n : Nat) : SA → Prop
  | .one c => c.wf n
  | .agg l => lwf n l
def SV.wf (n : Nat) : SV → Prop
  | .a x => x.wf n
  | .tup l => ∀ x ∈ l, x.wf n
  | .top => True
theorem SC.wf_mono {n m : Nat} (h : n ≤ m) {c : SC} (hc : c.wf n) : c.wf m := by
  cases c <;> simp only [SC.wf] at * <;> first
    | omega
    | exact ⟨fun p hp => Nat.lt_of_lt_of_le (hc.1 p hp) h, fun p hp => Nat.lt_of_lt_of_le (hc.2 p hp) h⟩
theorem lwf_mono {n m : Nat} (h : n ≤ m) {l : List SC} (hc : lwf n l) : lwf m l := fun c hl => SC.wf_mono h (hc c hl)
theorem SA.wf_mono {n m : Nat} (h : n ≤ m) {c : SA} (hc : c.wf n) : c.wf m := by
  cases c with
  | one c => exact SC.wf_mono h hc
  | agg l => exact lwf_mono h hc
theorem SV.wf_mono {n m : Nat} (h : n ≤ m) {c : SV} (hc : c.wf n) : c.wf m := by
  cases c with
  | a x => exact SA.wf_mono h hc
  | tup l => exact fun x hx => SA.wf_mono h (hc x hx)
  | top => trivial
/-- The same names below n. -/
def Ag (n : Nat) (β β' : Bl) : Prop := ∀ m, m < n → β' m = β m
theorem Ag.refl (n : Nat) (β : Bl) : Ag n β β := fun _ _ => rfl
theorem Ag.trans {n m : Nat} {β β' β'' : Bl} (h : Ag n β β') (k : Ag m β' β'') (hn : n ≤ m) : Ag n β β'' := fun i hi => (k i (by omega)).trans (h i hi)
section
variable [Interp] [Vars]
theorem pden_ext {n : Nat} {β β' : Bl} (h : Ag n β β') {l : List (Nat × Nat)} (hl : ∀ p ∈ l, p.1 < n) : l.map (pden β') = l.map (pden β) := by
  apply List.map_congr_left
  intro p hp
  simp only [pden, h p.1 (hl p hp)]
theorem SC.ext {n : Nat} {β β' : Bl} (h : Ag n β β') {c : SC} (hc : c.wf n) : c.den β' = c.den β := by
  cases c <;> simp only [SC.wf] at hc <;> simp only [SC.den] <;> first
    | rw [h _ hc]
    | rw [pden_ext h hc.1, pden_ext h hc.2]
theorem dens_ext {n : Nat} {β β' : Bl} (h : Ag n β β') {l : List SC} (hl : lwf n l) : dens β' l = dens β l := by
  unfold dens
  rw [List.map_congr_left fun c hc => SC.ext h (hl c hc)]
theorem SA.ext {n : Nat} {β β' : Bl} (h : Ag n β β') {c : SA} (hc : c.wf n) : c.den β' = c.den β := by
  cases c with
  | one c => exact SC.ext h hc
  | agg l => simp only [SA.den, dens_ext h hc]
theorem SV.ext {n : Nat} {β β' : Bl} (h : Ag n β β') {c : SV} (hc : c.wf n) : c.den β' = c.den β := by
  cases c with
  | a x => exact SA.ext h hc
  | tup l => simp only [SV.den]; rw [List.map_congr_left fun c hl => SA.ext h (hc c hl)]
  | top => rfl
end
def SC.of : Value → SC
  | .int k n => .int k (.lit n)
  | .bool b => .bool (.bl b)
  | .pointer none => .nil
  | .slice none 0 0 => .snil
  | .nilFunc => .nilF
  | v => .raw v
def SV.of : Value → SV
  | .agg cs => .a (.agg (cs.toList.map SC.of))
  | .tuple cs => bif cs.size == 0 then .un else .c (.raw (.tuple cs))
  | v => .c (SC.of v)
theorem SC.of_wf (n : Nat) (v : Value) : (SC.of v).wf n := by
  unfold SC.of
  split <;> trivial
theorem SV.of_wf (n : Nat) (v : Value) : (SV.of v).wf n := by
  unfold SV.of
  split
  · intro c hc
    obtain ⟨v, _, rfl⟩ := List.mem_map.1 hc
    exact SC.of_wf n v
  · rename_i cs
    cases cs.size == 0
    · trivial
    · intro x hx; cases hx
  · exact SC.of_wf n _
section
variable [Interp] [Vars]
theorem SC.den_of (β : Bl) (v : Value) : (SC.of v).den β = v := by
  unfold SC.of
  split <;> rfl
theorem dens_of (β : Bl) (cs : Array Value) : dens β (cs.toList.map SC.of) = cs := by
  unfold dens
  rw [List.map_map, show SC.den β ∘ SC.of = id from funext (SC.den_of β), List.map_id]
theorem SV.den_of (β : Bl) (v : Value) : (SV.of v).den β = v := by
  unfold SV.of
  split
  · simp [SV.den, SA.den, dens_of]
  · rename_i cs
    by_cases h : cs.size = 0
    · have : cs = #[] := by simpa using h
      subst this; rfl
    · have : (cs.size == 0) = false := by simpa using h
      rw [this]; rfl
  · exact SC.den_of β v
end
/-! ### frames: a tree of slots -/
inductive Fr where
  | e
  | n (v : SV) (l r : Fr)
def Fr.get : Fr → Nat → SV
  | .e, _ => .un
  | .n v l r, i =>
    match i with
    | 0 => v
    | k + 1 => bif Nat.beq (k % 2) 0 then l.get (k / 2) else r.get (k / 2)
def Fr.set : Fr → Nat → SV → Fr
  | .e, _, _ => .e
  | .n v l r, i, x =>
    match i with
    | 0 => .n x l r
    | k + 1 => bif Nat.beq (k % 2) 0 then .n v (l.set (k / 2) x) r else .n v l (r.set (k / 2) x)
def Fr.full : Nat → Fr
  | 0 => .e
  | d + 1 => .n .un (Fr.full d) (Fr.full d)
def Fr.Full : Nat → Fr → Prop
  | 0, _ => True
  | d + 1, .n _ l r => Fr.Full d l ∧ Fr.Full d r
  | _ + 1, .e => False
theorem Fr.full_full : ∀ d, (Fr.full d).Full d
  | 0 => trivial
  | d + 1 => ⟨full_full d, full_full d⟩
theorem Fr.full_get : ∀ (d i : Nat), (Fr.full d).get i = .un
  | 0, _ => rfl
  | d + 1, 0 => rfl
  | d + 1, k + 1 => by
    show (bif Nat.beq (k % 2) 0 then (Fr.full d).get (k / 2) else (Fr.full d).get (k / 2)) = _
    rw [full_get d]; cases Nat.beq (k % 2) 0 <;> rfl
theorem Fr.set_full : ∀ (d : Nat) (f : Fr) (i : Nat) (x : SV), f.Full d → (f.set i x).Full d
  | 0, _, _, _, _ => trivial
  | d + 1, .e, _, _, h => h.elim
  | d + 1, .n v l r, 0, x, h => h
  | d + 1, .n v l r, k + 1, x, h => by
    show ((bif Nat.beq (k % 2) 0 then Fr.n v (l.set (k / 2) x) r else .n v l (r.set (k / 2) x))).Full (d + 1)
    cases Nat.beq (k % 2) 0
    · exact ⟨h.1, set_full d r _ x h.2⟩
    · exact ⟨set_full d l _ x h.1, h.2⟩
theorem Fr.get_set_ne : ∀ (f : Fr) (i j : Nat) (x : SV), j ≠ i → (f.set i x).get j = f.get j
  | .e, _, _, _, _ => rfl
  | .n v l r, 0, 0, x, h => absurd rfl h
  | .n v l r, 0, k + 1, x, h => rfl
  | .n v l r, k + 1, 0, x, h => by
    show ((bif Nat.beq (k % 2) 0 then Fr.n v (l.set (k / 2) x) r else .n v l (r.set (k / 2) x))).get 0 = v
    cases Nat.beq (k % 2) 0 <;> rfl
  | .n v l r, k + 1, m + 1, x, h => by
    show ((bif Nat.beq (k % 2) 0 then Fr.n v (l.set (k / 2) x) r else .n v l (r.set (k / 2) x))).get (m + 1) = (bif Nat.beq (m % 2) 0 then l.get (m / 2) else r.get (m / 2))
    cases hk : Nat.beq (k % 2) 0 <;> cases hm : Nat.beq (m % 2) 0 <;> simp only [cond_true, cond_false, Fr.get, hm]
    · exact get_set_ne r _ _ x (fun e => h (by
        have h1 : ¬ k % 2 = 0 := fun h0 => by rw [h0] at hk; cases hk
        have h2 : ¬ m % 2 = 0 := fun h0 => by rw [h0] at hm; cases hm
        omega))
    · exact get_set_ne l _ _ x (fun e => h (by
        have h1 := Nat.eq_of_beq_eq_true hk
        have h2 := Nat.eq_of_beq_eq_true hm
        omega))
theorem Fr.get_set_eq : ∀ (d : Nat) (f : Fr) (i : Nat) (x : SV), f.Full d → i + 1 < 2 ^ d → (f.set i x).get i = x
  | 0, _, _, _, _, h => by simp at h
  | d + 1, .e, _, _, h, _ => h.elim
  | d + 1, .n v l r, 0, x, h, _ => rfl
  | d + 1, .n v l r, k + 1, x, h, hi => by
    show ((bif Nat.beq (k % 2) 0 then Fr.n v (l.set (k / 2) x) r else .n v l (r.set (k / 2) x))).get (k + 1) = x
    rw [Nat.pow_succ] at hi
    cases hk : Nat.beq (k % 2) 0 <;> simp only [cond_true, cond_false, Fr.get, hk]
    · have h1 : ¬ k % 2 = 0 := fun h0 => by rw [h0] at hk; cases hk
      exact get_set_eq d r _ x h.2 (by omega)
    · have h1 := Nat.eq_of_beq_eq_true hk
      exact get_set_eq d l _ x h.1 (by omega)
structure Frm where
  sz : Nat
  t : Fr
def Frm.get (f : Frm) (i : Nat) : SV := f.t.get i
def Frm.set (f : Frm) (d : Nat) (v : SV) : Frm := bif Nat.blt d f.sz then ⟨f.sz, f.t.set d v⟩ else f
def fput (f : Frm) (d : Option Tmp) (v : SV) : Frm :=
  match d with
  | some d => f.set d v
  | none => f
def SV.isTop : SV → Bool
  | .top => true
  | _ => false
section
variable [Interp] [Vars]
/-- What the slots have. -/
structure FrIs (n : Nat) (β : Bl) (f : Frm) (a : Array Value) : Prop where
  size : a.size = f.sz
  full : ∃ D, f.t.Full D ∧ f.sz < 2 ^ D
  out : ∀ i, f.sz ≤ i → f.t.get i = .un ∨ (f.t.get i).isTop = true
  wf : ∀ i, (f.t.get i).wf n
  val : ∀ i, i < f.sz → (f.t.get i).isTop = false → a[i]? = some ((f.t.get i).den β)
theorem FrIs.mono {n m : Nat} {β β' : Bl} {f : Frm} {a : Array Value} (h : FrIs n β f a) (hn : n ≤ m) (hb : Ag n β β') : FrIs m β' f a :=
  ⟨h.size, h.full, h.out, fun i => SV.wf_mono hn (h.wf i), fun i hi ht => by rw [SV.ext hb (h.wf i)]; exact h.val i hi ht⟩
theorem FrIs.get {n : Nat} {β : Bl} {f : Frm} {a : Array Value} (h : FrIs n β f a) (i : Nat) (ht : (f.get i).isTop = false) : a.getD i undef = (f.get i).den β := by
  by_cases hi : i < f.sz
  · rw [Array.getD_eq_getD_getElem?, h.val i hi ht]; rfl
  · rw [Array.getD_eq_getD_getElem?, Array.getElem?_eq_none (by rw [h.size]; omega)]
    show undef = (f.t.get i).den β
    rcases h.out i (by omega) with e | e
    · rw [e]; rfl
    · rw [show f.get i = f.t.get i from rfl, e] at ht; cases ht
theorem FrIs.get? {n : Nat} {β : Bl} {f : Frm} {a : Array Value} (h : FrIs n β f a) (i : Nat) (ht : (f.get i).isTop = false) : a[i]? = some ((f.get i).den β) ∨ (a[i]? = none ∧ f.get i = .un) := by
  by_cases hi : i < f.sz
  · exact .inl (h.val i hi ht)
  · refine .inr ⟨Array.getElem?_eq_none (by rw [h.size]; omega), ?_⟩
    rcases h.out i (by omega) with e | e
    · exact e
    · rw [show f.get i = f.t.get i from rfl, e] at ht; cases ht
theorem FrIs.set {n : Nat} {β : Bl} {f : Frm} {a : Array Value} (h : FrIs n β f a) (d : Nat) {v : SV} (hv : v.wf n) {x : Value} (hx : v.isTop = true ∨ x = v.den β) : FrIs n β (f.set d v) (a.setIfInBounds d x) := by
  unfold Frm.set
  cases hd : Nat.blt d f.sz with
  | false =>
    have : ¬ d < f.sz := fun h' => by have := Nat.ble_eq_true_of_le h'; unfold Nat.blt at hd; rw [this] at hd; cases hd
    rw [Array.setIfInBounds_eq_of_size_le (by rw [h.size]; omega)]
    exact h
  | true =>
    have hd' : d < f.sz := Nat.le_of_ble_eq_true hd
    obtain ⟨D, hD, hs⟩ := h.full
    have hg : (f.t.set d v).get d = v := Fr.get_set_eq D _ _ _ hD (by omega)
    refine ⟨by simp [h.size], ⟨D, Fr.set_full _ _ _ _ hD, hs⟩, fun i hi => ?_, fun i => ?_, fun i hi ht => ?_⟩
    · simp only [cond_true] at hi ⊢
      rw [Fr.get_set_ne _ _ _ _ (by omega)]; exact h.out i hi
    · simp only [cond_true]
      by_cases e : i = d
      · subst e; rw [hg]; exact hv
      · rw [Fr.get_set_ne _ _ _ _ e]; exact h.wf i
    · simp only [cond_true] at hi ht ⊢
      by_cases e : i = d
      · subst e
        rw [hg] at ht ⊢
        rcases hx with hx | hx
        · rw [hx] at ht; cases ht
        · rw [Array.getElem?_setIfInBounds_self_of_lt (by rw [h.size]; exact hi), hx]
      · rw [Fr.get_set_ne _ _ _ _ e] at ht ⊢
        rw [Array.getElem?_setIfInBounds_ne (fun h => e h.symm)]
        exact h.val i hi ht
theorem FrIs.put {n : Nat} {β : Bl} {f : Frm} {a : Act} (h : FrIs n β f a.tmps) (d : Option Tmp) {v : SV} (hv : v.wf n) {x : Value} (hx : v.isTop = true ∨ x = v.den β) : FrIs n β (fput f d v) (a.put d x).tmps := by
  cases d with
  | none => exact h
  | some d => exact h.set d hv hx
end
/-- An operand's value. -/
def opnd (f : Frm) : Operand → SV
  | .tmp t => f.get t
  | .const v => SV.of v
  | .global g => .c (.raw (.pointer (some ⟨g, 0, none⟩)))
  | .func f => .c (.func f [] [])
theorem Frm.get_wf [Interp] [Vars] {n : Nat} {β : Bl} {f : Frm} {a : Array Value} (h : FrIs n β f a) (i : Nat) : (f.get i).wf n := h.wf i
theorem opnd_wf [Interp] [Vars] {n : Nat} {β : Bl} {f : Frm} {a : Array Value} (h : FrIs n β f a) (x : Operand) : (opnd f x).wf n := by
  cases x with
  | tmp t => exact h.wf t
  | const v => exact SV.of_wf n v
  | global g => trivial
  | func f => exact ⟨fun p hp => (by cases hp), fun p hp => (by cases hp)⟩
theorem opnd_den [Interp] [Vars] {n : Nat} {β : Bl} {f : Frm} {a : Act} (h : FrIs n β f a.tmps) (x : Operand) (ht : (opnd f x).isTop = false) : a.eval x = (opnd f x).den β := by
  cases x with
  | tmp t => exact h.get t ht
  | const v => exact (SV.den_of β v).symm
  | global g => rfl
  | func f => rfl
/-- The frame a call begins with. -/
def argsIn : Fr → Nat → List SV → Fr
  | f, _, [] => f
  | f, i, x :: l => argsIn (f.set i x) (i + 1) l
def dep (k : Nat) : Nat := bif Nat.blt k 16 then 4 else bif Nat.blt k 32 then 5 else bif Nat.blt k 64 then 6 else bif Nat.blt k 128 then 7 else bif Nat.blt k 256 then 8 else 12
def Frm.start (k : Nat) (args : List SV) : Frm := ⟨args.length + (k - args.length), argsIn (Fr.full (dep (args.length + (k - args.length)))) 0 args⟩
theorem blt_iff (a b : Nat) : Nat.blt a b = decide (a < b) := by
  rw [Bool.eq_iff_iff]
  simp only [decide_eq_true_eq]
  exact ⟨fun h => Nat.le_of_ble_eq_true h, fun h => Nat.ble_eq_true_of_le h⟩
theorem dep_ok {k : Nat} (h : k < 4095) : k < 2 ^ dep k := by
  unfold dep
  simp only [blt_iff, Bool.cond_eq_ite, decide_eq_true_eq]
  repeat' split
  all_goals omega
theorem argsIn_get {D : Nat} : ∀ (l : List SV) (f : Fr) (i : Nat), f.Full D → i + l.length < 2 ^ D → (argsIn f i l).Full D ∧ ∀ j, (argsIn f i l).get j = if i ≤ j ∧ j < i + l.length then l.getD (j - i) .un else f.get j
  | [], f, i, h, _ => ⟨h, fun j => by rw [if_neg (by simp <;> omega)]; rfl⟩
  | x :: l, f, i, h, hl => by
    simp only [List.length_cons] at hl
    obtain ⟨h1, h2⟩ := argsIn_get l (f.set i x) (i + 1) (Fr.set_full _ _ _ _ h) (by omega)
    refine ⟨h1, fun j => ?_⟩
    show (argsIn (f.set i x) (i + 1) l).get j = _
    rw [h2 j]
    by_cases e : j = i
    · subst e
      rw [if_neg (by omega), if_pos (by simp), Nat.sub_self, Fr.get_set_eq D _ _ _ h (by omega)]
      rfl
    · rw [Fr.get_set_ne _ _ _ _ e]
      by_cases c : i + 1 ≤ j ∧ j < i + 1 + l.length
      · rw [if_pos c, if_pos (by simp; omega)]
        obtain ⟨k, hk⟩ : ∃ k, j - i = k + 1 := ⟨j - i - 1, by omega⟩
        rw [hk, show j - (i + 1) = k by omega]
        rfl
      · rw [if_neg c, if_neg (by simp; omega)]
theorem start_is [Interp] [Vars] {n : Nat} {β : Bl} {k : Nat} {args : List SV} (hk : args.length + (k - args.length) < 4095) (hw : ∀ x ∈ args, x.wf n) (ht : ∀ x ∈ args, x.isTop = false) :
    FrIs n β (Frm.start k args) ((args.map (SV.den β)).toArray ++ Array.replicate (k - (args.map (SV.den β)).toArray.size) undef) := by
  obtain ⟨h1, h2⟩ := argsIn_get args (Fr.full (dep (args.length + (k - args.length)))) 0 (Fr.full_full _) (by have := dep_ok hk; omega)
  have hget : ∀ i, (Frm.start k args).t.get i = if i < args.length then args.getD i .un else .un := by
    intro i
    show (argsIn (Fr.full _) 0 args).get i = _
    rw [h2 i]
    by_cases c : i < args.length
    · rw [if_pos (by omega), if_pos c]; simp
    · rw [if_neg (by omega), if_neg c, Fr.full_get]
  have hmem : ∀ i, i < args.length → args.getD i .un ∈ args := fun i hi => by
    rw [List.getD_eq_getElem?_getD, List.getElem?_eq_getElem hi]
    exact List.getElem_mem hi
  refine ⟨by simp [Frm.start], ⟨_, h1, dep_ok hk⟩, fun i hi => ?_, fun i => ?_, fun i hi hh => ?_⟩
  · left; rw [hget, if_neg (by simp [Frm.start] at hi; omega)]
  · rw [hget]
    by_cases c : i < args.length
    · rw [if_pos c]; exact hw _ (hmem i c)
    · rw [if_neg c]; intro x hx; cases hx
  · rw [hget]
    simp only [Frm.start] at hi
    by_cases c : i < args.length
    · rw [if_pos c, Array.getElem?_append_left (by simp; exact c)]
      simp [c]
    · rw [if_neg c, Array.getElem?_append_right (by simp; omega)]
      rw [Array.getElem?_replicate, if_pos (by simp; omega)]
      rfl
end Go.Proofs.Ytfapicccijbanaa.Ef
