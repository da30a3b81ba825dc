/- What is proved: the operations that neither read nor make memory, as the evaluator has them. Conditions: stated with each lemma. -/
import Derived.Test.YtfapicccijbanaaEv
import Derived.Laws.Tables
import Derived.Laws.Pointers
import Derived.Laws.Slices
import Derived.Lib.MinMax
namespace Go.Proofs.Ytfapicccijbanaa.Ev
open Go Go.Proofs.Ytfapicccijbanaa.Sep
set_option linter.unusedVariables false
set_option linter.unusedSimpArgs false

/-! ### equality -/
def eqSI (x y : SI) : SB :=
  match x, y with
  | .lit a, .lit b => .lit (a == b)
  | x, y => .sym (x.v == y.v)
theorem eqSI_v (x y : SI) : (eqSI x y).v = (x.v == y.v) := by unfold eqSI; split <;> rfl
def eqSB (x y : SB) : SB :=
  match x, y with
  | .lit a, .lit b => .lit (a == b)
  | x, y => .sym (x.v == y.v)
theorem eqSB_v (x y : SB) : (eqSB x y).v = (x.v == y.v) := by unfold eqSB; split <;> rfl
def andSB (x y : SB) : SB :=
  match x, y with
  | .lit true, y => y
  | .lit false, _ => .lit false
  | x, .lit true => x
  | x, y => .sym (x.v && y.v)
theorem andSB_v (x y : SB) : (andSB x y).v = (x.v && y.v) := by
  unfold andSB; split
  · simp [SB.v]
  · simp [SB.v]
  · simp [SB.v]
  · rfl
def notSB : SB → SB
  | .lit b => .lit (!b)
  | .sym x => .sym (!x)
theorem notSB_v (x : SB) : (notSB x).v = !x.v := by cases x <;> rfl
def eqV (P : Program) [Fast P] : Nat → TypeId → SA → SA → Option SB
  | 0, _, _, _ => none
  | d + 1, t, x, y =>
    match Fast.und P t, x, y with
    | some (.int _), .one (.int k a), .one (.int k' b) => bif sameK k k' then some (eqSI a b) else none
    | some .bool, .one (.bool a), .one (.bool b) => some (eqSB a b)
    | some (.pointer _), .one .nil, .one .nil => some (.lit true)
    | some (.pointer _), .one .nil, .one (.ptr _ _ _) => some (.lit false)
    | some (.pointer _), .one (.ptr _ _ _), .one .nil => some (.lit false)
    | some (.slice _), .one .snil, .one .snil => some (.lit true)
    | some (.slice _), .one (.slice _ _ _ _ _), .one .snil => some (.lit false)
    | some (.slice _), .one .snil, .one (.slice _ _ _ _ _) => some (.lit false)
    | some (.func _ _ _), .one .nilF, .one .nilF => some (.lit true)
    | some (.func _ _ _), .one (.func _ _ _), .one .nilF => some (.lit false)
    | some (.func _ _ _), .one .nilF, .one (.func _ _ _) => some (.lit false)
    | some (.struct fs), .agg xs, .agg ys =>
      bif !(Fast.plain P t) then none else
      fs.toList.foldr (fun f acc =>
        match tyPart P f.type xs f.offset, tyPart P f.type ys f.offset with
        | some a, some b =>
          match eqV P d f.type a b, acc with
          | some r, some s => bif f.name == "_" then none else some (andSB r s)
          | _, _ => none
        | _, _ => none) (some (.lit true))
    | _, _, _ => none
theorem run_eqV {P : Program} [Fast P] : ∀ (d : Nat) (t : TypeId) (x y : SA) (b : SB), eqV P d t x y = some b → ∀ (e : Nat) (w : World), (Op.equalIn (d + e) t x.den y.den).run P w = .ok b.v w
  | 0, _, _, _, _, h, _, _ => by simp [eqV] at h
  | d + 1, t, x, y, b, h, e, w => by
    rw [show d + 1 + e = (d + e) + 1 by omega]
    unfold eqV at h
    split at h
    · rename_i k0 k a k' b' hu
      cases hk : sameK k k' with
      | false => rw [hk] at h; simp at h
      | true =>
        rw [hk] at h
        simp at h
        have := sameK_spec hk
        subst this
        subst h
        simp [SA.den, SC.den, Op.equalIn, run_underlying' hu, eqSI_v]
    · rename_i hu
      simp at h; subst h
      simp [SA.den, SC.den, Op.equalIn, run_underlying' hu, eqSB_v]
    · rename_i hu; simp at h; subst h; simp [SA.den, SC.den, Op.equalIn, run_underlying' hu, SB.v]
    · rename_i hu; simp at h; subst h; simp [SA.den, SC.den, Op.equalIn, run_underlying' hu, SB.v]
    · rename_i hu; simp at h; subst h; simp [SA.den, SC.den, Op.equalIn, run_underlying' hu, SB.v]
    · rename_i hu; simp at h; subst h; simp [SA.den, SC.den, Op.equalIn, run_underlying' hu, SB.v]
    · rename_i hu; simp at h; subst h; simp [SA.den, SC.den, Op.equalIn, run_underlying' hu, SB.v]
    · rename_i hu; simp at h; subst h; simp [SA.den, SC.den, Op.equalIn, run_underlying' hu, SB.v]
    · rename_i hu; simp at h; subst h; simp [SA.den, SC.den, Op.equalIn, run_underlying' hu, SB.v]
    · rename_i hu; simp at h; subst h; simp [SA.den, SC.den, Op.equalIn, run_underlying' hu, SB.v]
    · rename_i hu; simp at h; subst h; simp [SA.den, SC.den, Op.equalIn, run_underlying' hu, SB.v]
    · rename_i fs xs ys hu
      cases hs : Fast.plain P t with
      | false => rw [hs] at h; simp at h
      | true =>
        rw [hs] at h
        simp only [Bool.not_true, cond_false] at h
        have hf : P.fieldsOf t = fs := by simp [Program.fieldsOf, Fast.und_ok hu]
        show (Op.equalIn (d + e + 1) t (.agg (dens xs)) (.agg (dens ys))).run P w = _
        rw [run_equalIn_struct (P := P) w (d + e) t _ _ (by rw [hf]; exact Fast.und_ok hu) (Fast.plain_ok hs), hf]
        revert b h
        induction fs.toList with
        | nil => intro b h; simp at h; subst h; simp [Op.eqFields, SB.v]
        | cons f l ih =>
          intro b h
          simp only [List.foldr_cons] at h
          split at h
          · rename_i a1 b1 ha hb
            split at h
            · rename_i r s hr hs'
              cases hn : (f.name == "_") with
              | true => rw [hn] at h; simp at h
              | false =>
                rw [hn] at h
                simp at h
                subst h
                have hn' : f.name ≠ "_" := by simpa using hn
                have ih' := ih s hs'
                simp only [Op.eqFields, if_pos hn', Sem.run_bind, run_part' ha, run_part' hb, Result.andThen_ok, run_eqV d f.type a1 b1 r hr e w, andSB_v]
                cases hrv : r.v with
                | false => simp
                | true => simp [ih']
            · simp at h
          · simp at h
    · simp at h

/-! ### parts of an aggregate -/
def SA.cells : SA → List SC
  | .one c => [c]
  | .agg l => l
theorem den_notAgg (c : SC) (h : ∀ v, c ≠ .raw v) : c.den.cells = #[c.den] := by
  cases c <;> first | rfl | exact absurd rfl (h _)
def SA.plain : SA → Bool
  | .one (.raw _) => false
  | _ => true
theorem SA.cells_den (x : SA) (h : x.plain = true) : x.den.cells = dens x.cells := by
  cases x with
  | one c =>
    show c.den.cells = _
    rw [den_notAgg c (fun v hv => by subst hv; cases h)]
    rfl
  | agg l => rfl
/-- The cells c over the ones from off on. -/
def over (cells : List SC) (off : Nat) (c : List SC) : List SC := cells.take off ++ c ++ cells.drop (off + c.length)
theorem over_den (cells : List SC) (off : Nat) (c : List SC) (h : off + c.length ≤ cells.length) :
    (dens c).zipIdx.foldl (fun cs p => cs.setIfInBounds (off + p.2) p.1) (dens cells) = dens (over cells off c) := by
  have key : ∀ (c : List SC) (o : Nat) (cells : List SC), o + c.length ≤ cells.length →
      ((c.map SC.den).zipIdx.foldl (fun (cs : Array Value) p => cs.setIfInBounds (o + p.2) p.1) (dens cells)) = dens (over cells o c) := by
    intro c
    induction c with
    | nil => intro o cells h; simp [over]
    | cons x c ih =>
      intro o cells h
      simp only [List.length_cons] at h
      simp only [List.map_cons, List.zipIdx_cons, List.foldl_cons, Nat.add_zero, Nat.zero_add]
      have e1 : (dens cells).setIfInBounds o x.den = dens (cells.set o x) := by simp [dens, List.map_set]
      rw [e1]
      have e2 := ih (o + 1) (cells.set o x) (by simp; omega)
      have e3 : (List.map SC.den c).zipIdx 1 = ((List.map SC.den c).zipIdx).map (fun p => (p.1, p.2 + 1)) := by
        rw [List.zipIdx_succ]
      rw [e3, List.foldl_map]
      have e4 : (fun (cs : Array Value) (p : Value × Nat) => cs.setIfInBounds (o + (p.2 + 1)) p.1) = (fun cs p => cs.setIfInBounds (o + 1 + p.2) p.1) := by
        funext cs p; rw [show o + (p.2 + 1) = o + 1 + p.2 by omega]
      show List.foldl (fun (cs : Array Value) (p : Value × Nat) => cs.setIfInBounds (o + (p.2 + 1)) p.1) _ _ = _
      rw [e4, e2]
      congr 1
      unfold over
      have ho : o < cells.length := by omega
      have e5 : (cells.set o x).take (o + 1) = cells.take o ++ [x] := by
        rw [List.take_succ_eq_append_getElem (by simpa using ho)]
        simp only [List.getElem_set_self]
        congr 1
        apply List.ext_getElem?
        intro i
        rw [List.getElem?_take, List.getElem?_take]
        split
        · rw [List.getElem?_set_ne (by omega)]
        · rfl
      rw [e5, List.length_cons]
      rw [show o + 1 + c.length = o + (c.length + 1) by omega]
      rw [List.drop_set_of_lt (by omega)]
      simp
  have := key c off cells h
  rw [← this]
  unfold dens
  rw [← Array.foldl_toList]
  congr 1
  simp
def fillC (place : Nat → Option (Nat × Nat)) (cells : List SC) : List (Nat × SA) → Option (List SC)
  | [] => some cells
  | (i, x) :: rest =>
    match place i with
    | none => none
    | some (off, size) =>
      bif x.plain && (x.cells.length == size && Nat.ble (off + x.cells.length) cells.length) then fillC place (over cells off x.cells) rest else none
theorem fillC_den (place : Nat → Option (Nat × Nat)) : ∀ (parts : List (Nat × SA)) (cells r : List SC), fillC place cells parts = some r →
    Instr.fill place (dens cells) (parts.map fun p => (p.1, p.2.den)) = some (dens r)
  | [], cells, r, h => by simp [fillC] at h; subst h; rfl
  | (i, x) :: rest, cells, r, h => by
    unfold fillC at h
    simp only [List.map_cons, Instr.fill]
    cases hp : place i with
    | none => rw [hp] at h; simp at h
    | some q =>
      obtain ⟨off, size⟩ := q
      rw [hp] at h
      simp only at h ⊢
      cases hc : (x.plain && (x.cells.length == size && Nat.ble (off + x.cells.length) cells.length)) with
      | false => rw [hc] at h; simp at h
      | true =>
        rw [hc] at h
        simp only [cond_true] at h
        simp at hc
        obtain ⟨h1, h2, h3⟩ := hc
        rw [SA.cells_den x h1]
        have l1 : (dens x.cells).size = x.cells.length := by simp [dens]
        have l2 : (dens cells).size = cells.length := by simp [dens]
        rw [if_neg (by simp [l1, l2, h2]; omega), over_den _ _ _ h3]
        exact fillC_den place rest _ r h
def zeroC (P : Program) [Fast P] (t : TypeId) : Option (List SC) :=
  match Fast.zero P t with
  | some v => some (v.cells.toList.map SC.of)
  | none => none
def placesC (P : Program) [Fast P] : List Field → Option (List (Nat × Nat))
  | [] => some []
  | f :: r =>
    match Fast.size P f.type, placesC P r with
    | some n, some l => some ((f.offset, n) :: l)
    | _, _ => none
theorem placesC_ok {P : Program} [Fast P] : ∀ (fs : List Field) (l : List (Nat × Nat)), placesC P fs = some l → fs.mapM (fun f => (P.info? f.type).map fun i => (f.offset, i.size)) = some l
  | [], l, h => by simp [placesC] at h; subst h; rfl
  | f :: r, l, h => by
    unfold placesC at h
    split at h
    · rename_i n l' hn hl
      simp only [Option.some.injEq] at h
      subst h
      obtain ⟨i, hi, hs⟩ := Fast.size_ok (P := P) hn
      simp [List.mapM_cons, hi, hs, placesC_ok r l' hl]
    · cases h
def builtC (P : Program) [Fast P] (t : TypeId) (parts : List (Nat × SA)) : Option (List SC) :=
  match Fast.zero P t, Fast.und P t with
  | some z, some (.array _ e) =>
    match Fast.size P e with
    | some n => fillC (fun i => some (i * n, n)) (z.cells.toList.map SC.of) parts
    | none => none
  | some z, some (.struct fields) =>
    match placesC P fields.toList with
    | some places => fillC (places.toArray[·]?) (z.cells.toList.map SC.of) parts
    | none => none
  | _, _ => none
theorem builtC_den {P : Program} [Fast P] {t : TypeId} {parts : List (Nat × SA)} {r : List SC} (h : builtC P t parts = some r) : P.built t (parts.map fun p => (p.1, p.2.den)) = some (dens r) := by
  unfold builtC at h
  unfold Program.built
  split at h
  · rename_i z n e hz hu
    obtain ⟨it, hi, hzz⟩ := Fast.zero_ok hz
    simp only [hi, Fast.und_ok hu, hzz]
    split at h
    · rename_i k hk
      obtain ⟨ie, hie, hs⟩ := Fast.size_ok hk
      simp only [hie]
      have := fillC_den _ _ _ _ h
      rw [dens_of] at this
      rw [hs]
      exact this
    · cases h
  · rename_i z fields hz hu
    obtain ⟨it, hi, hzz⟩ := Fast.zero_ok hz
    simp only [hi, Fast.und_ok hu, hzz]
    split at h
    · rename_i places hpl
      simp only [placesC_ok _ _ hpl]
      have := fillC_den _ _ _ _ h
      rw [dens_of] at this
      exact this
    · cases h
  · cases h
/-- Operands as parts. -/
def partsA (fr : List SV) : List (Nat × Operand) → Option (List (Nat × SA))
  | [] => some []
  | (i, x) :: l =>
    match opnd fr x, partsA fr l with
    | .a y, some r => some ((i, y) :: r)
    | _, _ => none
theorem partsA_den (fr : List SV) (ds : List Deferred) : ∀ (l : List (Nat × Operand)) (r : List (Nat × SA)), partsA fr l = some r →
    l.map (fun p => (p.1, (⟨fden fr, ds⟩ : Act).eval p.2)) = r.map fun p => (p.1, p.2.den)
  | [], r, h => by simp [partsA] at h; subst h; rfl
  | (i, x) :: l, r, h => by
    unfold partsA at h
    split at h
    · rename_i y r' hy hr
      simp at h; subst h
      rw [List.map_cons, List.map_cons, ← partsA_den fr ds l r' hr, opnd_den, hy]
      rfl
    · simp at h
def ptrsA (fr : List SV) : List Operand → Option (List (Nat × Nat × Nat))
  | [] => some []
  | x :: l =>
    match opnd fr x, ptrsA fr l with
    | .a (.one (.ptr nm b o)), some r => some ((nm, b, o) :: r)
    | _, _ => none
theorem ptrsA_den (fr : List SV) (ds : List Deferred) : ∀ (l : List Operand) (r : List (Nat × Nat × Nat)), ptrsA fr l = some r → l.map (⟨fden fr, ds⟩ : Act).eval = r.map pden
  | [], r, h => by simp [ptrsA] at h; subst h; rfl
  | x :: l, r, h => by
    unfold ptrsA at h
    split at h
    · rename_i nm b o r' hy hr
      simp at h; subst h
      rw [List.map_cons, List.map_cons, ← ptrsA_den fr ds l r' hr, opnd_den, hy]
      rfl
    · simp at h
end Go.Proofs.Ytfapicccijbanaa.Ev
