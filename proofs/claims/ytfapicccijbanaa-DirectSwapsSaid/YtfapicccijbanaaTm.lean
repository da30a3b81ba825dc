/- What is proved: patterns of states: what fits a pattern is one of its instances. Conditions: stated with each lemma. -/
import Derived.Test.YtfapicccijbanaaTj
namespace Go.Proofs.Ytfapicccijbanaa.Ef
open Go Go.Proofs.Ytfapicccijbanaa.Sep
open Go.Proofs.Ytfapicccijbanaa.Ev (Fast)
set_option linter.unusedVariables false
set_option linter.unusedSimpArgs false
set_option linter.unusedSectionVars false
/-! ### terms put in for variables -/
def fstX : Tm → Tm
  | .a2 .pair x _ => x
  | t => .a1 .fst t
def sndX : Tm → Tm
  | .a2 .pair _ y => y
  | t => .a1 .snd t
def isI : Tm → Bool
  | .lit _ => true
  | .a1 (.wrap _) _ => true
  | .a2 .add _ _ => true
  | .a2 .sub _ _ => true
  | .a2 .mul _ _ => true
  | .a2 .rem _ _ => true
  | _ => false
def addX : Tm → Tm → Tm
  | .lit a, .lit b => .lit (a + b)
  | .a2 .add x (.lit a), .lit b => .a2 .add x (.lit (a + b))
  | x, .lit b => bif intBeq b 0 && isI x then x else .a2 .add x (.lit b)
  | .lit a, y => bif intBeq a 0 && isI y then y else .a2 .add y (.lit a)
  | .a2 .add x (.lit a), y => .a2 .add (.a2 .add x y) (.lit a)
  | x, y => .a2 .add x y
def subX : Tm → Tm → Tm
  | .lit a, .lit b => .lit (a - b)
  | .a2 .add x (.lit a), .lit b => .a2 .add x (.lit (a - b))
  | x, .lit b => .a2 .add x (.lit (-b))
  | x, y => .a2 .sub x y
def mulX : Tm → Tm → Tm
  | .lit a, .lit b => .lit (a * b)
  | .a2 .add x (.lit a), .lit b => .a2 .add (.a2 .mul x (.lit b)) (.lit (a * b))
  | x, .lit b => .a2 .mul x (.lit b)
  | .lit a, y => .a2 .mul y (.lit a)
  | x, y => .a2 .mul x y
def selX : Tm → Tm → Tm
  | .bl true, .a2 .pair x y => x
  | .bl false, .a2 .pair x y => y
  | c, z => .a2 .sel c z
def lkT : List (Nat × Tm) → Nat → Option Tm
  | [], _ => none
  | (j, t) :: r, i => bif Nat.beq j i then some t else lkT r i
section
variable [Interp] [Rules]
def Tm.sub (σ : List (Nat × Tm)) : Tm → Tm
  | .lit n => .lit n
  | .bl b => .bl b
  | .var i => match lkT σ i with
    | some t => t
    | none => .var i
  | .a1 f x =>
    match f with
    | .not => mkNot (x.sub σ)
    | .fst => fstX (x.sub σ)
    | .snd => sndX (x.sub σ)
    | .wrap k => match x.sub σ with
      | .lit n => .lit (k.wrap n)
      | t => .a1 (.wrap k) t
    | .usr n => Rules.k1 n (x.sub σ)
  | .a2 f x y =>
    match f with
    | .add => addX (x.sub σ) (y.sub σ)
    | .sub => subX (x.sub σ) (y.sub σ)
    | .mul => mulX (x.sub σ) (y.sub σ)
    | .eq => mkEq (x.sub σ) (y.sub σ)
    | .lt => mkLt (x.sub σ) (y.sub σ)
    | .sel => selX (x.sub σ) (y.sub σ)
    | .usr n => Rules.k2 n (x.sub σ) (y.sub σ)
    | f => .a2 f (x.sub σ) (y.sub σ)
/-- The variables with these values. -/
@[reducible] def subV [V : Vars] (σ : List (Nat × Tm)) (τ : List (Nat × SC)) (β : Bl) : Vars :=
  ⟨fun i => match lkT σ i with
    | some t => t.den
    | none => Vars.ρ i, fun i => match (τ.find? fun q => Nat.beq q.1 i) with
    | some q => q.2.den β
    | none => Vars.ω i, Vars.ad⟩
variable [V : Vars]
theorem isI_den {x : Tm} (h : isI x = true) : x.den = .i x.v := by
  unfold isI at h
  split at h <;> first | rfl | cases h
theorem addX_den (x y : Tm) : (addX x y).den = .i (x.v + y.v) := by
  unfold addX
  split <;> first
    | rfl
    | (show U.i _ = U.i _; congr 1; simp only [Tm.v, Tm.den, F2.den, U.int]; omega)
    | (rw [Bool.cond_eq_ite]; split
       · rename_i h
         rw [Bool.and_eq_true] at h
         have h1 := intBeq_eq h.1
         subst h1
         rw [isI_den h.2]
         simp [lit_v]
       · first | rfl | (show U.i _ = U.i _; congr 1; exact Int.add_comm _ _))
theorem subX_den (x y : Tm) : (subX x y).den = .i (x.v - y.v) := by
  unfold subX
  split <;> first
    | rfl
    | (show U.i _ = U.i _; congr 1; simp only [Tm.v, Tm.den, F2.den, U.int]; omega)
theorem mulX_den (x y : Tm) : (mulX x y).den = .i (x.v * y.v) := by
  unfold mulX
  split <;> first
    | rfl
    | (show U.i _ = U.i _; congr 1; exact (Int.add_mul _ _ _).symm)
    | (show U.i _ = U.i _; congr 1; exact Int.mul_comm _ _)
theorem mkEq_den (x y : Tm) : (mkEq x y).den = .b (x.v == y.v) := by
  have h := mkEq_tv x y
  have : ∃ b, (mkEq x y).den = .b b := by
    unfold mkEq
    split <;> first
      | exact ⟨_, rfl⟩
      | (rw [Bool.cond_eq_ite]; split <;> exact ⟨_, rfl⟩)
  obtain ⟨b, hb⟩ := this
  rw [hb, ← h, Tm.tv, hb]
  rfl
theorem mkLt_den (x y : Tm) : (mkLt x y).den = .b (decide (x.v < y.v)) := by
  have h := mkLt_tv x y
  have : ∃ b, (mkLt x y).den = .b b := by
    unfold mkLt
    split <;> first
      | exact ⟨_, rfl⟩
      | (rw [Bool.cond_eq_ite]; split <;> exact ⟨_, rfl⟩)
  obtain ⟨b, hb⟩ := this
  rw [hb, ← h, Tm.tv, hb]
  rfl
theorem mkNot_den (x : Tm) : (mkNot x).den = .b (!x.tv) := by
  have h := mkNot_tv x
  have : ∃ b, (mkNot x).den = .b b := by
    unfold mkNot
    split <;> exact ⟨_, rfl⟩
  obtain ⟨b, hb⟩ := this
  rw [hb, ← h, Tm.tv, hb]
  rfl
theorem fstX_den (x : Tm) : (fstX x).den = x.den.fst := by unfold fstX; split <;> rfl
theorem sndX_den (x : Tm) : (sndX x).den = x.den.snd := by unfold sndX; split <;> rfl
theorem selX_den (x y : Tm) : (selX x y).den = F2.sel.den x.den y.den := by unfold selX; split <;> rfl
theorem sub_den (σ : List (Nat × Tm)) (τ : List (Nat × SC)) (β : Bl) : ∀ t : Tm, (t.sub σ).den = @Tm.den _ (subV σ τ β) t
  | .lit n => rfl
  | .bl b => rfl
  | .var i => by
    show (match lkT σ i with | some t => t | none => .var i).den = (match lkT σ i with | some t => t.den | none => Vars.ρ i)
    cases lkT σ i <;> rfl
  | .a1 f x => by
    have ih := sub_den σ τ β x
    unfold Tm.sub
    cases f with
    | not => dsimp only; rw [mkNot_den, Tm.tv, ih]; rfl
    | fst => dsimp only; rw [fstX_den, ih]; rfl
    | snd => dsimp only; rw [sndX_den, ih]; rfl
    | wrap k =>
      dsimp only
      have e : ∀ t : Tm, (match t with | .lit n => Tm.lit (k.wrap n) | t => .a1 (.wrap k) t).den = .i (k.wrap t.den.int) := by
        intro t; cases t <;> rfl
      rw [e, ih]; rfl
    | usr n => dsimp only; rw [Rules.k1_ok, ih]; rfl
  | .a2 f x y => by
    have ihx := sub_den σ τ β x
    have ihy := sub_den σ τ β y
    unfold Tm.sub
    cases f <;> dsimp only <;> first
      | (rw [addX_den, Tm.v, Tm.v, ihx, ihy]; rfl)
      | (rw [subX_den, Tm.v, Tm.v, ihx, ihy]; rfl)
      | (rw [mulX_den, Tm.v, Tm.v, ihx, ihy]; rfl)
      | (rw [mkEq_den, Tm.v, Tm.v, ihx, ihy]; rfl)
      | (rw [mkLt_den, Tm.v, Tm.v, ihx, ihy]; rfl)
      | (rw [selX_den, ihx, ihy]; rfl)
      | (rw [Rules.k2_ok, ihx, ihy]; rfl)
      | (simp only [Tm.den, ihx, ihy]; done)
end
/-! ### names and cells put in -/
def lkN : List (Nat × Nat) → Nat → Nat
  | [], i => i
  | (j, t) :: r, i => bif Nat.beq j i then t else lkN r i
def nmP (ν : List (Nat × Nat)) (p : Nat × Nat) : Nat × Nat := (lkN ν p.1, p.2)
section
variable [Interp] [Rules]
def SC.sub (σ : List (Nat × Tm)) (τ : List (Nat × SC)) (ν : List (Nat × Nat)) : SC → SC
  | .int k t => .int k (t.sub σ)
  | .bool t => .bool (t.sub σ)
  | .ptr nm o => .ptr (lkN ν nm) o
  | .ptrR nm b t st o => .ptrR (lkN ν nm) (b.sub σ) (t.sub σ) st o
  | .nil => .nil
  | .slice nm o l c => .slice (lkN ν nm) o (l.sub σ) (c.sub σ)
  | .sliceQ nm b l c => .sliceQ (lkN ν nm) (b.sub σ) (l.sub σ) (c.sub σ)
  | .snil => .snil
  | .func f a c => .func f (a.map (nmP ν)) (c.map (nmP ν))
  | .nilF => .nilF
  | .raw v => .raw v
  | .any i => match (τ.find? fun q => Nat.beq q.1 i) with
    | some q => q.2
    | none => .any i
def subN (ν : List (Nat × Nat)) (β : Bl) : Bl := fun m => β (lkN ν m)
variable [V : Vars]
theorem sub_v (σ : List (Nat × Tm)) (τ : List (Nat × SC)) (β : Bl) (t : Tm) : (t.sub σ).v = @Tm.v _ (subV σ τ β) t := by
  unfold Tm.v; rw [sub_den σ τ β]
theorem sub_tv (σ : List (Nat × Tm)) (τ : List (Nat × SC)) (β : Bl) (t : Tm) : (t.sub σ).tv = @Tm.tv _ (subV σ τ β) t := by
  unfold Tm.tv; rw [sub_den σ τ β]
theorem subC_den (σ : List (Nat × Tm)) (τ : List (Nat × SC)) (ν : List (Nat × Nat)) (β : Bl) (c : SC) : (c.sub σ τ ν).den β = @SC.den _ (subV σ τ β) (subN ν β) c := by
  cases c with
  | int k t => simp only [SC.sub, SC.den, sub_v σ τ β]
  | bool t => simp only [SC.sub, SC.den, sub_tv σ τ β]
  | ptr nm o => rfl
  | ptrR nm b t st o => simp only [SC.sub, SC.den, sub_v σ τ β]; rfl
  | nil => rfl
  | slice nm o l c => simp only [SC.sub, SC.den, sub_v σ τ β]; rfl
  | sliceQ nm b l c => simp only [SC.sub, SC.den, sub_v σ τ β]; rfl
  | snil => rfl
  | func f a c =>
    simp only [SC.sub, SC.den]
    rw [List.map_map, List.map_map]
    rfl
  | nilF => rfl
  | raw v => rfl
  | any i =>
    simp only [SC.sub]
    show _ = (match (τ.find? fun q => Nat.beq q.1 i) with | some q => q.2.den β | none => Vars.ω i)
    cases τ.find? fun q => Nat.beq q.1 i <;> rfl
end
/-! ### what is bound by a pattern: found, then held against -/
structure Mt where
  σ : List (Nat × Tm)
  τ : List (Nat × SC)
  ν : List (Nat × Nat)
def bdT (base : Nat) (m : Mt) (i : Nat) (t : Tm) : Mt :=
  bif Nat.blt i base then m else match lkT m.σ i with
  | some _ => m
  | none => match m with
    | ⟨σ, τ, ν⟩ => ⟨(i, t) :: σ, τ, ν⟩
def hasN : List (Nat × Nat) → Nat → Bool
  | [], _ => false
  | (j, _) :: r, i => bif Nat.beq j i then true else hasN r i
def bdN (m : Mt) (i j : Nat) : Mt :=
  bif hasN m.ν i then m else match m with
  | ⟨σ, τ, ν⟩ => ⟨σ, τ, (i, j) :: ν⟩
def bdA (m : Mt) (i : Nat) (c : SC) : Mt :=
  match (m.τ.find? fun q => Nat.beq q.1 i) with
  | some _ => m
  | none => match m with
    | ⟨σ, τ, ν⟩ => ⟨σ, (i, c) :: τ, ν⟩
def mtT (base : Nat) : Tm → Tm → Mt → Mt
  | .var i, t, m => bdT base m i t
  | .a1 f x, .a1 g y, m => bif Nat.beq f.code g.code then mtT base x y m else m
  | .a2 f x x', .a2 g y y', m => bif Nat.beq f.code g.code then mtT base x' y' (mtT base x y m) else m
  | _, _, m => m
def mtPs : List (Nat × Nat) → List (Nat × Nat) → Mt → Mt
  | (a, _) :: r, (b, _) :: s, m => mtPs r s (bdN m a b)
  | _, _, m => m
def mtC (base : Nat) : SC → SC → Mt → Mt
  | .int _ t, .int _ u, m => mtT base t u m
  | .bool t, .bool u, m => mtT base t u m
  | .ptr a _, .ptr b _, m => bdN m a b
  | .slice a _ l c, .slice b _ l' c', m => mtT base c c' (mtT base l l' (bdN m a b))
  | .sliceQ a o l c, .sliceQ b p l' c', m => mtT base c c' (mtT base l l' (mtT base o p (bdN m a b)))
  | .func _ a c, .func _ b d, m => mtPs c d (mtPs a b m)
  | .any i, c, m => bdA m i c
  | _, _, m => m
def mtCs (base : Nat) : List SC → List SC → Mt → Mt
  | x :: r, y :: s, m => mtCs base r s (mtC base x y m)
  | _, _, m => m
def mtNs : List Nat → List Nat → Mt → Mt
  | a :: r, b :: s, m => mtNs r s (bdN m a b)
  | _, _, m => m
/-- Objects that hold of less hold of more; what a pattern's terms are to be held against. -/
class Wk [Interp] [Rules] where
  weak : Pi → Nat → Tm → Tm → Bool
  weak_ok : ∀ [Vars] {π k x y}, facts π → weak π k x y = true → ∀ ns b h, Interp.ob k x.den ns b h → Interp.ob k y.den ns b h
  hint : Nat → Tm → Tm → List (Tm × Tm)
def mtPr (base : Nat) : List (Tm × Tm) → Mt → Mt
  | [], m => m
  | (x, y) :: r, m => mtPr base r (mtT base x y m)
def mtH [Interp] [Rules] [Wk] (base : Nat) : SH → SH → Mt → Mt
  | [], _, m => m
  | (nm, o) :: r, H, m =>
    match find H (lkN m.ν nm), o with
    | some (.cells l _), .cells l' _ => mtH base r H (mtCs base l' l m)
    | some (.abs _ x ns), .abs k x' ns' => mtH base r H (mtNs ns' ns (mtPr base (Wk.hint k x' x) m))
    | _, _ => m
def mtVs (base : Nat) : List (Nat × SV) → Frm → Mt → Mt
  | [], _, m => m
  | (i, v) :: r, f, m =>
    match v, f.get i with
    | .a (.one c), .a (.one d) => mtVs base r f (mtC base c d m)
    | .a (.agg c), .a (.agg d) => mtVs base r f (mtCs base c d m)
    | _, _ => mtVs base r f m
def csBeq : List SC → List SC → Bool
  | [], [] => true
  | x :: r, y :: s => bif SC.beq x y then csBeq r s else false
  | _, _ => false
theorem csBeq_eq : ∀ {r s : List SC}, csBeq r s = true → r = s
  | [], [], _ => rfl
  | [], _ :: _, h => by cases h
  | _ :: _, [], h => by cases h
  | a :: r, b :: s, h => by
    unfold csBeq at h
    rw [Bool.cond_eq_ite] at h
    split at h
    · rename_i hc; rw [SC.beq_eq hc, csBeq_eq h]
    · cases h
section
variable [Interp] [Rules] [Wk]
def chO (π : Pi) (m : Mt) (o' o : SO) : Bool :=
  match o', o with
  | .cells l' T', .cells l T => bif Nat.beq T' T then csBeq (l'.map (SC.sub m.σ m.τ m.ν)) l else false
  | .abs k' x' ns', .abs k x ns => bif Nat.beq k' k then (bif nsBeq (ns'.map (lkN m.ν)) ns then (bif Tm.beq (x'.sub m.σ) x then true else Wk.weak π k x (x'.sub m.σ)) else false) else false
  | _, _ => false
def chH (π : Pi) (m : Mt) : SH → SH → Option SH
  | [], H => some H
  | (nm, o') :: r, H =>
    match find H (lkN m.ν nm) with
    | some o => bif chO π m o' o then chH π m r (del H (lkN m.ν nm)) else none
    | none => none
def chV (m : Mt) (v' v : SV) : Bool :=
  match v', v with
  | .a (.one c), .a (.one d) => SC.beq (c.sub m.σ m.τ m.ν) d
  | .a (.agg c), .a (.agg d) => csBeq (c.map (SC.sub m.σ m.τ m.ν)) d
  | _, _ => false
/-- The same, or numbers that are known to be the same. -/
def chW (π : Pi) (m : Mt) (v' v : SV) : Bool :=
  bif chV m v' v then true else
  match v', v with
  | .a (.one (.int k' t')), .a (.one (.int k t)) => bif sameK k' k then pv π true (mkEq (t'.sub m.σ) t) else false
  | _, _ => false
def chVs (π : Pi) (m : Mt) : List (Nat × SV) → Frm → Bool
  | [], _ => true
  | (i, v) :: r, f => bif chW π m v (f.get i) then chVs π m r f else false
/-- Known, or proved. -/
def kn (π : Pi) (b : Bool) (t : Tm) : Bool :=
  match look π t with
  | some c => boolBeq c b
  | none => pv π b t
def chPi (π : Pi) (m : Mt) : Pi → Bool
  | [] => true
  | (c, b) :: r => bif kn π b (c.sub m.σ) then chPi π m r else false
variable [V : Vars]
theorem chO_ok {π : Pi} (hπ : facts π) {m : Mt} {o' o : SO} (h : chO π m o' o = true) (β : Bl) (b : Nat) : ∀ h, o.den β b h → @SO.den _ (subV m.σ m.τ β) (subN m.ν β) b o' h := by
  intro hp hh
  unfold chO at h
  split at h
  · rename_i l' T' l T
    rw [Bool.cond_eq_ite] at h
    split at h
    · rename_i hT
      have hT := Nat.eq_of_beq_eq_true hT
      have e := csBeq_eq h
      subst hT e
      have e2 : dens β (l'.map (SC.sub m.σ m.τ m.ν)) = @dens _ (subV m.σ m.τ β) (subN m.ν β) l' := by
        unfold dens
        rw [List.map_map]
        congr 1
        apply List.map_congr_left
        intro c _
        exact subC_den _ _ _ _ c
      show pt b (.cells (@dens _ (subV m.σ m.τ β) (subN m.ν β) l') T' (0, 0)) hp
      rw [← e2]; exact hh
    · cases h
  · rename_i k' x' ns' k x ns
    rw [Bool.cond_eq_ite] at h
    split at h
    · rename_i hk
      have hk := Nat.eq_of_beq_eq_true hk
      subst hk
      rw [Bool.cond_eq_ite] at h
      split at h
      · rename_i hn
        have hn := nsBeq_eq hn
        subst hn
        have e1 : (ns'.map (lkN m.ν)).map β = ns'.map (subN m.ν β) := by rw [List.map_map]; rfl
        have hh' : Interp.ob k' x.den (ns'.map (subN m.ν β)) b hp := by
          rw [← e1]; exact hh
        show Interp.ob k' (@Tm.den _ (subV m.σ m.τ β) x') (ns'.map (subN m.ν β)) b hp
        rw [← sub_den m.σ m.τ β x']
        rw [Bool.cond_eq_ite] at h
        split at h
        · rename_i hx
          rw [Tm.beq_eq hx]; exact hh'
        · exact Wk.weak_ok hπ h _ _ _ hh'
      · cases h
    · cases h
  · cases h
theorem chH_ok {π : Pi} (hπ : facts π) {m : Mt} {β : Bl} {w : World} {R : HProp} : ∀ {T H rest : SH}, chH π m T H = some rest → Holds w (hden β H * R) → Holds w (@hden _ (subV m.σ m.τ β) (subN m.ν β) T * (hden β rest * R))
  | [], H, rest, h, hw => by
    simp only [chH, Option.some.injEq] at h
    subst h
    refine hw.cast ?_
    show _ = emp * (hden β H * R)
    rw [star_empl]
  | (nm, o') :: r, H, rest, h, hw => by
    unfold chH at h
    split at h
    · rename_i o hf
      rw [Bool.cond_eq_ite] at h
      split at h
      · rename_i ho
        have h1 := focus hf hw
        have h2 : Holds w (@SO.den _ (subV m.σ m.τ β) (subN m.ν β) (β (lkN m.ν nm)) o' * (hden β (del H (lkN m.ν nm)) * R)) := h1.mono (star_mono (chO_ok hπ ho β _) fun _ x => x)
        have h3 := chH_ok hπ h (R := @SO.den _ (subV m.σ m.τ β) (subN m.ν β) (β (lkN m.ν nm)) o' * R) (h2.cast (by ac_rfl))
        refine h3.cast ?_
        show _ = (@SO.den _ (subV m.σ m.τ β) (subN m.ν β) (β (lkN m.ν nm)) o' * @hden _ (subV m.σ m.τ β) (subN m.ν β) r) * (hden β rest * R)
        ac_rfl
      · cases h
    · cases h
theorem chV_ok {m : Mt} {v' v : SV} (h : chV m v' v = true) (β : Bl) : v.den β = @SV.den _ (subV m.σ m.τ β) (subN m.ν β) v' ∧ v.isTop = false := by
  unfold chV at h
  split at h
  · rename_i c d
    refine ⟨?_, rfl⟩
    have e := SC.beq_eq h
    subst e
    exact subC_den _ _ _ _ c
  · rename_i c d
    refine ⟨?_, rfl⟩
    have e := csBeq_eq h
    subst e
    show Value.agg (dens β _) = .agg (@dens _ (subV m.σ m.τ β) (subN m.ν β) c)
    congr 1
    unfold dens
    rw [List.map_map]
    congr 1
    apply List.map_congr_left
    intro c _
    exact subC_den _ _ _ _ c
  · cases h
theorem chW_ok {π : Pi} (hπ : facts π) {m : Mt} {v' v : SV} (h : chW π m v' v = true) (β : Bl) : v.den β = @SV.den _ (subV m.σ m.τ β) (subN m.ν β) v' ∧ v.isTop = false := by
  unfold chW at h
  rw [Bool.cond_eq_ite] at h
  split at h
  · rename_i h1; exact chV_ok h1 β
  · split at h
    · rename_i k' t' k t _
      rw [Bool.cond_eq_ite] at h
      split at h
      · rename_i hk
        have hk := kCode_inj hk
        subst hk
        have h2 := pv_ok hπ h
        rw [mkEq_tv] at h2
        have h2 := of_decide_eq_true h2
        refine ⟨?_, rfl⟩
        show Value.int _ t.v = .int _ (@Tm.v _ (subV m.σ m.τ β) t')
        rw [← h2, sub_v m.σ m.τ β]
      · cases h
    · cases h
theorem kn_ok {π : Pi} (hπ : facts π) {b : Bool} {t : Tm} (h : kn π b t = true) : t.tv = b := by
  unfold kn at h
  split at h
  · rename_i c hc
    rw [look_ok hπ hc, boolBeq_eq h]
  · exact pv_ok hπ h
theorem chPi_ok {π : Pi} (hπ : facts π) {m : Mt} (β : Bl) : ∀ {l : Pi}, chPi π m l = true → @facts _ (subV m.σ m.τ β) l
  | [], _ => fun q hq => (by cases hq)
  | (c, b) :: r, h => by
    unfold chPi at h
    rw [Bool.cond_eq_ite] at h
    split at h
    · rename_i hc
      have h1 := kn_ok hπ hc
      rw [sub_tv m.σ m.τ β] at h1
      intro q hq
      rcases List.mem_cons.1 hq with rfl | hq
      · exact h1
      · exact chPi_ok hπ β h q hq
    · cases h
end
/-! ### names of a pattern are below its number -/
def bltAll (n : Nat) : List (Nat × Nat) → Bool
  | [] => true
  | (a, _) :: r => bif Nat.blt a n then bltAll n r else false
def SC.wfB (n : Nat) : SC → Bool
  | .ptr nm _ => Nat.blt nm n
  | .ptrR nm _ _ _ _ => Nat.blt nm n
  | .slice nm _ _ _ => Nat.blt nm n
  | .sliceQ nm _ _ _ => Nat.blt nm n
  | .func _ a c => bif bltAll n a then bltAll n c else false
  | _ => true
def lwfB (n : Nat) : List SC → Bool
  | [] => true
  | c :: r => bif c.wfB n then lwfB n r else false
def nsB (n : Nat) : List Nat → Bool
  | [] => true
  | c :: r => bif Nat.blt c n then nsB n r else false
def oB (n : Nat) (o : SO) : Bool :=
  match o with
  | .cells l _ => lwfB n l
  | .abs _ _ ns => nsB n ns
def hwfB (n : Nat) : SH → Bool
  | [] => true
  | (m, o) :: r => bif Nat.blt m n then (bif oB n o then hwfB n r else false) else false
def vB (n : Nat) (v : SV) : Bool :=
  match v with
  | .a (.one c) => c.wfB n
  | .a (.agg l) => lwfB n l
  | _ => false
def vwfB (n : Nat) : List (Nat × SV) → Bool
  | [] => true
  | (_, v) :: r => bif vB n v then vwfB n r else false
theorem bltAll_ok {n : Nat} : ∀ {l : List (Nat × Nat)}, bltAll n l = true → ∀ p ∈ l, p.1 < n
  | [], _, p, hp => by cases hp
  | (a, b) :: r, h, p, hp => by
    unfold bltAll at h
    rw [Bool.cond_eq_ite] at h
    split at h
    · rename_i hc
      rcases List.mem_cons.1 hp with rfl | hp
      · exact Nat.le_of_ble_eq_true hc
      · exact bltAll_ok h p hp
    · cases h
theorem SC.wfB_ok {n : Nat} {c : SC} (h : c.wfB n = true) : c.wf n := by
  cases c <;> simp only [SC.wfB] at h <;> first
    | trivial
    | exact Nat.le_of_ble_eq_true h
    | (rw [Bool.cond_eq_ite] at h
       split at h
       · rename_i hc; exact ⟨bltAll_ok hc, bltAll_ok h⟩
       · cases h)
theorem lwfB_ok {n : Nat} : ∀ {l : List SC}, lwfB n l = true → lwf n l
  | [], _ => fun c hc => (by cases hc)
  | a :: r, h => by
    unfold lwfB at h
    rw [Bool.cond_eq_ite] at h
    split at h
    · rename_i ha
      intro c hc
      rcases List.mem_cons.1 hc with rfl | hc
      · exact SC.wfB_ok ha
      · exact lwfB_ok h c hc
    · cases h
theorem nsB_ok {n : Nat} : ∀ {l : List Nat}, nsB n l = true → ∀ m ∈ l, m < n
  | [], _, m, hm => by cases hm
  | a :: r, h, m, hm => by
    unfold nsB at h
    rw [Bool.cond_eq_ite] at h
    split at h
    · rename_i ha
      rcases List.mem_cons.1 hm with rfl | hm
      · exact Nat.le_of_ble_eq_true ha
      · exact nsB_ok h m hm
    · cases h
theorem hwfB_ok {n : Nat} : ∀ {H : SH}, hwfB n H = true → hwf n H
  | [], _ => fun q hq => (by cases hq)
  | (m, o) :: r, h => by
    unfold hwfB at h
    rw [Bool.cond_eq_ite] at h
    split at h
    · rename_i hm
      rw [Bool.cond_eq_ite] at h
      split at h
      · rename_i ho
        intro q hq
        rcases List.mem_cons.1 hq with rfl | hq
        · refine ⟨Nat.le_of_ble_eq_true hm, ?_⟩
          cases o with
          | cells l T => exact lwfB_ok ho
          | abs k x ns => exact nsB_ok ho
        · exact hwfB_ok h q hq
      · cases h
    · cases h
theorem vwfB_ok {n : Nat} : ∀ {l : List (Nat × SV)}, vwfB n l = true → ∀ q ∈ l, q.2.wf n ∧ q.2.isTop = false
  | [], _, q, hq => by cases hq
  | (i, v) :: r, h, q, hq => by
    unfold vwfB at h
    rw [Bool.cond_eq_ite] at h
    split at h
    · rename_i hv
      rcases List.mem_cons.1 hq with rfl | hq
      · unfold vB at hv
        split at hv
        · exact ⟨SC.wfB_ok hv, rfl⟩
        · exact ⟨lwfB_ok hv, rfl⟩
        · cases hv
      · exact vwfB_ok h q hq
    · cases h
end Go.Proofs.Ytfapicccijbanaa.Ef
