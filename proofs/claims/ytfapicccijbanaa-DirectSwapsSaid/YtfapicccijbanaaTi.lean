/- What is proved: two states of two ways as one, by the truth that parts them. Conditions: stated with each lemma. -/
import Derived.Test.YtfapicccijbanaaTh
namespace Go.Proofs.Ytfapicccijbanaa.Ef
open Go Go.Proofs.Ytfapicccijbanaa.Sep
open Go.Proofs.Ytfapicccijbanaa.Ev (Fast tyAgg tySize run_underlying' run_isAgg' run_sizeOf' run_zeroValue')
set_option linter.unusedVariables false
set_option linter.unusedSimpArgs false
set_option linter.unusedSectionVars false
def mkSel (c x y : Tm) : Tm := bif Tm.beq x y then x else .a2 .sel c (.a2 .pair x y)
def mrgC (c : Tm) (x y : SC) : Option SC :=
  bif SC.beq x y then some x else
  match x, y with
  | .int k t, .int j u => bif sameK k j then some (.int k (mkSel c t u)) else none
  | .bool t, .bool u => some (.bool (mkSel c t u))
  | _, _ => none
def mrgCs (c : Tm) : List SC → List SC → Option (List SC)
  | [], [] => some []
  | x :: r, y :: s =>
    match mrgC c x y, mrgCs c r s with
    | some z, some t => some (z :: t)
    | _, _ => none
  | _, _ => none
def mrgV (c : Tm) (x y : SV) : SV :=
  match x, y with
  | .a (.one x), .a (.one y) => match mrgC c x y with
    | some z => .c z
    | none => .top
  | .a (.agg x), .a (.agg y) => match mrgCs c x y with
    | some z => .a (.agg z)
    | none => .top
  | .tup [], .tup [] => .tup []
  | _, _ => .top
def mrgF (c : Tm) : Fr → Fr → Option Fr
  | .n x l r, .n y l' r' =>
    match mrgF c l l', mrgF c r r' with
    | some p, some q => some (.n (mrgV c x y) p q)
    | _, _ => none
  | .e, .e => some .e
  | _, _ => none
def nsBeq : List Nat → List Nat → Bool
  | [], [] => true
  | a :: r, b :: s => bif Nat.beq a b then nsBeq r s else false
  | _, _ => false
theorem nsBeq_eq : ∀ {r s : List Nat}, nsBeq r s = true → r = s
  | [], [], _ => rfl
  | [], _ :: _, h => by cases h
  | _ :: _, [], h => by cases h
  | a :: r, b :: s, h => by
    unfold nsBeq at h
    rw [Bool.cond_eq_ite] at h
    split at h
    · rename_i hc; rw [Nat.eq_of_beq_eq_true hc, nsBeq_eq h]
    · cases h
def mrgO (c : Tm) (x y : SO) : Option SO :=
  match x, y with
  | .cells l T, .cells m U => bif Nat.beq T U then match mrgCs c l m with
    | some z => some (.cells z T)
    | none => none else none
  | .abs k x ns, .abs j y ms => bif Nat.beq k j && nsBeq ns ms then some (.abs k (mkSel c x y) ns) else none
  | _, _ => none
def mrgH (c : Tm) : SH → SH → Option SH
  | [], [] => some []
  | (n, x) :: r, (m, y) :: s =>
    bif Nat.beq n m then
      match mrgO c x y, mrgH c r s with
      | some z, some t => some ((n, z) :: t)
      | _, _ => none
    else none
  | _, _ => none
theorem mrgC_wf {c : Tm} {x y z : SC} (h : mrgC c x y = some z) {n : Nat} (hx : x.wf n ∨ y.wf n) : z.wf n := by
  unfold mrgC at h
  rw [Bool.cond_eq_ite] at h
  split at h
  · rename_i hb
    simp at h; subst h
    rcases hx with hx | hx
    · exact hx
    · rw [SC.beq_eq hb]; exact hx
  · split at h
    · rw [Bool.cond_eq_ite] at h
      split at h
      · simp at h; subst h; trivial
      · cases h
    · simp at h; subst h; trivial
    · cases h
theorem lwf_tail {n : Nat} {a : SC} {r : List SC} (h : lwf n (a :: r)) : lwf n r := fun e he => h e (List.mem_cons_of_mem _ he)
theorem mrgCs_wf {c : Tm} {n : Nat} : ∀ {x y z : List SC}, mrgCs c x y = some z → (lwf n x ∨ lwf n y) → lwf n z
  | [], [], z, h, hx => by simp [mrgCs] at h; subst h; intro c hc; cases hc
  | [], _ :: _, z, h, hx => by cases h
  | _ :: _, [], z, h, hx => by cases h
  | a :: r, b :: s, z, h, hx => by
    unfold mrgCs at h
    split at h
    · rename_i u v h1 h2
      simp at h; subst h
      intro d hd
      rcases List.mem_cons.1 hd with rfl | hd
      · exact mrgC_wf h1 (hx.imp (fun hx => hx _ (List.mem_cons_self ..)) (fun hx => hx _ (List.mem_cons_self ..)))
      · exact mrgCs_wf h2 (hx.imp lwf_tail lwf_tail) d hd
    · cases h
theorem mrgV_wf (c : Tm) {x y : SV} {n : Nat} (hx : x.wf n ∨ y.wf n) : (mrgV c x y).wf n := by
  unfold mrgV
  split
  · split
    · rename_i h; exact mrgC_wf h hx
    · trivial
  · split
    · rename_i h; exact mrgCs_wf h hx
    · trivial
  · intro x hx; cases hx
  · trivial
theorem mrgO_wf {c : Tm} {n : Nat} {x y z : SO} (h1 : mrgO c x y = some z) (ha : x.wf n ∨ y.wf n) : z.wf n := by
  unfold mrgO at h1
  split at h1
  · rw [Bool.cond_eq_ite] at h1
    split at h1
    · split at h1
      · rename_i hz; simp at h1; subst h1; exact mrgCs_wf hz ha
      · cases h1
    · cases h1
  · rw [Bool.cond_eq_ite] at h1
    split at h1
    · rename_i hk
      rw [Bool.and_eq_true] at hk
      simp at h1; subst h1
      rcases ha with ha | ha
      · exact ha
      · rw [nsBeq_eq hk.2]; exact ha
    · cases h1
  · cases h1
theorem hwf_tail {n : Nat} {a : Nat × SO} {r : SH} (h : hwf n (a :: r)) : hwf n r := fun e he => h e (List.mem_cons_of_mem _ he)
theorem mrgH_wf {c : Tm} {n : Nat} : ∀ {x y z : SH}, mrgH c x y = some z → (hwf n x ∨ hwf n y) → hwf n z
  | [], [], z, h, hx => by simp [mrgH] at h; subst h; intro c hc; cases hc
  | [], _ :: _, z, h, hx => by cases h
  | _ :: _, [], z, h, hx => by cases h
  | (k, a) :: r, (m, b) :: s, z, h, hx => by
    unfold mrgH at h
    rw [Bool.cond_eq_ite] at h
    split at h
    · rename_i hn
      split at h
      · rename_i u v h1 h2
        simp at h; subst h
        intro q hq
        rcases List.mem_cons.1 hq with rfl | hq
        · refine ⟨?_, mrgO_wf h1 (hx.imp (fun hx => (hx _ (List.mem_cons_self ..)).2) (fun hx => (hx _ (List.mem_cons_self ..)).2))⟩
          rcases hx with hx | hx
          · exact (hx _ (List.mem_cons_self ..)).1
          · rw [Nat.eq_of_beq_eq_true hn]; exact (hx _ (List.mem_cons_self ..)).1
        · exact mrgH_wf h2 (hx.imp hwf_tail hwf_tail) q hq
      · cases h
    · cases h
section
variable [Interp] [Vars]
theorem mkSel_den (c x y : Tm) : (mkSel c x y).den = bif c.tv then x.den else y.den := by
  unfold mkSel
  rw [Bool.cond_eq_ite]
  split
  · rename_i h; rw [Tm.beq_eq h]; cases c.tv <;> rfl
  · rfl
/-- What was merged is, by the truth, the one or the other. -/
theorem mrgC_den {c : Tm} {x y z : SC} (h : mrgC c x y = some z) (β : Bl) : z.den β = bif c.tv then x.den β else y.den β := by
  unfold mrgC at h
  rw [Bool.cond_eq_ite] at h
  split at h
  · rename_i hb
    simp at h; subst h
    rw [SC.beq_eq hb]; cases c.tv <;> rfl
  · split at h
    · rename_i k t j u _
      rw [Bool.cond_eq_ite] at h
      split at h
      · rename_i hk
        have := kCode_inj hk
        subst this
        simp at h; subst h
        simp only [SC.den, Tm.v, mkSel_den]
        cases c.tv <;> rfl
      · cases h
    · simp at h; subst h
      simp only [SC.den]
      rw [show ∀ t : Tm, t.tv = t.den.bool from fun _ => rfl, mkSel_den]
      cases c.tv <;> rfl
    · cases h
theorem mrgCs_den {c : Tm} (β : Bl) : ∀ {x y z : List SC}, mrgCs c x y = some z → z.map (SC.den β) = bif c.tv then x.map (SC.den β) else y.map (SC.den β)
  | [], [], z, h => by simp [mrgCs] at h; subst h; cases c.tv <;> rfl
  | [], _ :: _, z, h => by cases h
  | _ :: _, [], z, h => by cases h
  | a :: r, b :: s, z, h => by
    unfold mrgCs at h
    split at h
    · rename_i u v h1 h2
      simp at h; subst h
      simp only [List.map_cons, mrgC_den h1 β, mrgCs_den β h2]
      cases c.tv <;> rfl
    · cases h
theorem mrgV_den (c : Tm) (x y : SV) (β : Bl) (ht : (mrgV c x y).isTop = false) : (mrgV c x y).den β = (bif c.tv then x.den β else y.den β) ∧ x.isTop = false ∧ y.isTop = false := by
  unfold mrgV at ht ⊢
  split at ht
  · split at ht
    · rename_i h; exact ⟨mrgC_den h β, rfl, rfl⟩
    · cases ht
  · split at ht
    · rename_i h
      refine ⟨?_, rfl, rfl⟩
      simp only [SV.den, SA.den, dens, mrgCs_den β h]
      cases c.tv <;> rfl
    · cases ht
  · refine ⟨?_, rfl, rfl⟩
    cases c.tv <;> rfl
  · cases ht
theorem mrgO_den {c : Tm} {x y z : SO} (h : mrgO c x y = some z) (β : Bl) (b : Nat) : z.den β b = bif c.tv then x.den β b else y.den β b := by
  unfold mrgO at h
  split at h
  · rw [Bool.cond_eq_ite] at h
    split at h
    · rename_i hT
      split at h
      · rename_i hz
        simp at h; subst h
        simp only [SO.den, dens, mrgCs_den β hz, Nat.eq_of_beq_eq_true hT]
        cases c.tv <;> rfl
      · cases h
    · cases h
  · rw [Bool.cond_eq_ite] at h
    split at h
    · rename_i hk
      rw [Bool.and_eq_true] at hk
      simp at h; subst h
      simp only [SO.den, mkSel_den, Nat.eq_of_beq_eq_true hk.1, nsBeq_eq hk.2]
      cases c.tv <;> rfl
    · cases h
  · cases h
theorem mrgH_den {c : Tm} (β : Bl) : ∀ {x y z : SH}, mrgH c x y = some z → hden β z = bif c.tv then hden β x else hden β y
  | [], [], z, h => by simp [mrgH] at h; subst h; cases c.tv <;> rfl
  | [], _ :: _, z, h => by cases h
  | _ :: _, [], z, h => by cases h
  | (k, a) :: r, (m, b) :: s, z, h => by
    unfold mrgH at h
    rw [Bool.cond_eq_ite] at h
    split at h
    · rename_i hn
      split at h
      · rename_i u v h1 h2
        simp at h; subst h
        unfold hden
        rw [mrgO_den h1 β, mrgH_den β h2, Nat.eq_of_beq_eq_true hn]
        cases c.tv <;> rfl
      · cases h
    · cases h
theorem mrgF_some {c : Tm} {x y : SV} {l r l' r' z : Fr} (h : mrgF c (.n x l r) (.n y l' r') = some z) : ∃ p q, mrgF c l l' = some p ∧ mrgF c r r' = some q ∧ z = .n (mrgV c x y) p q := by
  unfold mrgF at h
  split at h
  · rename_i p q h1 h2; simp at h; exact ⟨p, q, h1, h2, h.symm⟩
  · cases h
theorem mrgF_get {c : Tm} : ∀ {f g z : Fr}, mrgF c f g = some z → ∀ i, z.get i = mrgV c (f.get i) (g.get i)
  | .e, .e, z, h, i => by simp [mrgF] at h; subst h; rfl
  | .e, .n _ _ _, z, h, i => by cases h
  | .n _ _ _, .e, z, h, i => by cases h
  | .n x l r, .n y l' r', z, h, 0 => by obtain ⟨p, q, h1, h2, rfl⟩ := mrgF_some h; rfl
  | .n x l r, .n y l' r', z, h, j + 1 => by
    obtain ⟨p, q, h1, h2, rfl⟩ := mrgF_some h
    show (bif Nat.beq (j % 2) 0 then p.get (j / 2) else q.get (j / 2)) = mrgV c (bif Nat.beq (j % 2) 0 then l.get (j / 2) else r.get (j / 2)) (bif Nat.beq (j % 2) 0 then l'.get (j / 2) else r'.get (j / 2))
    cases Nat.beq (j % 2) 0
    · exact mrgF_get h2 _
    · exact mrgF_get h1 _
theorem mrgF_full {c : Tm} : ∀ {D : Nat} {f g z : Fr}, mrgF c f g = some z → (f.Full D ∨ g.Full D) → z.Full D
  | 0, _, _, _, _, _ => trivial
  | D + 1, .e, .e, z, h, k => by rcases k with k | k <;> exact k.elim
  | D + 1, .e, .n _ _ _, z, h, k => by cases h
  | D + 1, .n _ _ _, .e, z, h, k => by cases h
  | D + 1, .n x l r, .n y l' r', z, h, k => by
    obtain ⟨p, q, h1, h2, rfl⟩ := mrgF_some h
    exact ⟨mrgF_full h1 (k.imp (fun k => k.1) (fun k => k.1)), mrgF_full h2 (k.imp (fun k => k.2) (fun k => k.2))⟩
theorem mrgV_un_l (c : Tm) (y : SV) : mrgV c .un y = .un ∨ (mrgV c .un y).isTop = true := by
  cases y with
  | a x => cases x <;> exact .inr rfl
  | tup l => cases l <;> first | exact .inl rfl | exact .inr rfl
  | top => exact .inr rfl
theorem mrgV_un_r (c : Tm) (y : SV) : mrgV c y .un = .un ∨ (mrgV c y .un).isTop = true := by
  cases y with
  | a x => cases x <;> exact .inr rfl
  | tup l => cases l <;> first | exact .inl rfl | exact .inr rfl
  | top => exact .inr rfl
theorem mrgV_top_l (c : Tm) {x : SV} (h : x.isTop = true) (y : SV) : (mrgV c x y).isTop = true := by
  cases x with
  | a x => cases h
  | tup l => cases h
  | top => rfl
theorem mrgV_top_r (c : Tm) {x : SV} (h : x.isTop = true) (y : SV) : (mrgV c y x).isTop = true := by
  cases x with
  | a x => cases h
  | tup l => cases h
  | top =>
    cases y with
    | a z => cases z <;> rfl
    | tup l => cases l <;> rfl
    | top => rfl
/-- The frame of the one that was gone is the merged one's. -/
theorem mrgF_is {c : Tm} {n : Nat} {β : Bl} {f g : Frm} {z : Fr} {a : Array Value} (hz : mrgF c f.t g.t = some z) (hs : g.sz = f.sz) (hf : FrIs n β (bif c.tv then f else g) a) : FrIs n β ⟨f.sz, z⟩ a := by
  have hg := mrgF_get hz
  cases hc : c.tv with
  | true =>
    rw [hc] at hf
    obtain ⟨D, h1, h2⟩ := hf.full
    refine ⟨hf.size, ⟨D, mrgF_full hz (.inl h1), h2⟩, fun i hi => ?_, fun i => ?_, fun i hi ht => ?_⟩
    · rw [show (⟨f.sz, z⟩ : Frm).t = z from rfl, hg i]
      rcases hf.out i hi with e | e
      · rw [show f.t.get i = .un from e]; exact mrgV_un_l c _
      · exact .inr (mrgV_top_l c e _)
    · rw [show (⟨f.sz, z⟩ : Frm).t = z from rfl, hg i]; exact mrgV_wf c (.inl (hf.wf i))
    · rw [show (⟨f.sz, z⟩ : Frm).t = z from rfl, hg i] at ht ⊢
      obtain ⟨e, t1, t2⟩ := mrgV_den c _ _ β ht
      rw [e, hc]
      exact hf.val i hi t1
  | false =>
    rw [hc] at hf
    have hs' : f.sz = g.sz := hs.symm
    obtain ⟨D, h1, h2⟩ := hf.full
    refine ⟨hf.size.trans hs, ⟨D, mrgF_full hz (.inr h1), by show f.sz < _; rw [hs']; exact h2⟩, fun i hi => ?_, fun i => ?_, fun i hi ht => ?_⟩
    · rw [show (⟨f.sz, z⟩ : Frm).t = z from rfl, hg i]
      rcases hf.out i (by show g.sz ≤ i; rw [hs]; exact hi) with e | e
      · rw [show g.t.get i = .un from e]; exact mrgV_un_r c _
      · exact .inr (mrgV_top_r c e _)
    · rw [show (⟨f.sz, z⟩ : Frm).t = z from rfl, hg i]; exact mrgV_wf c (.inr (hf.wf i))
    · rw [show (⟨f.sz, z⟩ : Frm).t = z from rfl, hg i] at ht ⊢
      obtain ⟨e, t1, t2⟩ := mrgV_den c _ _ β ht
      rw [e, hc]
      exact hf.val i (by show i < g.sz; rw [hs]; exact hi) t2
end
end Go.Proofs.Ytfapicccijbanaa.Ef
