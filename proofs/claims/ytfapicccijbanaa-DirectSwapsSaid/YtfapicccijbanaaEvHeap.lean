/- What is proved: loads and stores of a heap that is described block by block. Conditions: the evaluator's own premises. -/
import Derived.Test.YtfapicccijbanaaEvPure
namespace Go.Proofs.Ytfapicccijbanaa.Ev
open Go Go.Proofs.Ytfapicccijbanaa.Sep
set_option linter.unusedVariables false
set_option linter.unusedSimpArgs false

/-- What else a block may hold: words that the statements' own proofs give. -/
class Abs (A : Type) where
  den : A → Nat → HProp
  load : (P : Program) → [Fast P] → TypeId → Nat → Nat → Nat → A → Option (List Prop × SV)
  load_ok : ∀ {P : Program} [Fast P] {t : TypeId} {b off b' : Nat} {x : A} {ps : List Prop} {v : SV}, load P t b off b' x = some (ps, v) → (∀ p ∈ ps, p) → ∀ {w : World} {R : HProp}, Holds w (den x b' * R) →
    (loadVar t ⟨b, off, none⟩).run P w = .ok v.den w
inductive SO (A : Type) where
  | cells (l : List SC) (T : TypeId)
  | row (ws : List Int) (T : TypeId)
  | abs (x : A)
abbrev SH (A : Type) := List (Nat × Nat × SO A)
def rowV (ws : List Int) : Array Value := (ws.map (Value.int .u64)).toArray
section
variable {A : Type} [Abs A]
def SO.den (b : Nat) : SO A → HProp
  | .cells l T => pt b (.cells (dens l) T (0, 0))
  | .row ws T => pt b (.cells (rowV ws) T (0, 0))
  | .abs x => Abs.den x b
def hden : SH A → HProp
  | [] => emp
  | (_, b, o) :: r => o.den b * hden r
def find : SH A → Nat → Option (Nat × SO A)
  | [], _ => none
  | (m, b, o) :: r, n => bif Nat.beq m n then some (b, o) else find r n
def del : SH A → Nat → SH A
  | [], _ => []
  | (m, b, o) :: r, n => bif Nat.beq m n then r else (m, b, o) :: del r n
def put : SH A → Nat → SO A → SH A
  | [], _, _ => []
  | (m, b, o) :: r, n, o' => bif Nat.beq m n then (m, b, o') :: r else (m, b, o) :: put r n o'
theorem find_den {n b : Nat} {o : SO A} : ∀ (H : SH A), find H n = some (b, o) → hden H = (o.den b * hden (del H n))
  | [], h => by simp [find] at h
  | (m, b', o') :: r, h => by
    unfold find at h
    unfold del
    cases hm : Nat.beq m n with
    | true => rw [hm] at h; simp at h; obtain ⟨rfl, rfl⟩ := h; rfl
    | false =>
      rw [hm] at h
      simp only [cond_false] at h ⊢
      unfold hden
      rw [find_den r h]
      ac_rfl
theorem put_den {n b : Nat} {o o1 : SO A} : ∀ (H : SH A), find H n = some (b, o) → hden (put H n o1) = (o1.den b * hden (del H n))
  | [], h => by simp [find] at h
  | (m, b', o') :: r, h => by
    unfold find at h
    unfold del put
    cases hm : Nat.beq m n with
    | true => rw [hm] at h; simp at h; obtain ⟨rfl, rfl⟩ := h; rfl
    | false =>
      rw [hm] at h
      simp only [cond_false] at h ⊢
      unfold hden
      rw [put_den r h]
      ac_rfl
variable {w : World} {R : HProp}
theorem focus {H : SH A} {n b : Nat} {o : SO A} (h : find H n = some (b, o)) (hw : Holds w (hden H * R)) : Holds w (o.den b * (hden (del H n) * R)) :=
  hw.cast (by rw [find_den H h]; ac_rfl)
theorem unfocus {H : SH A} {n b : Nat} {o o1 : SO A} (h : find H n = some (b, o)) (hw : Holds w (o1.den b * (hden (del H n) * R))) : Holds w (hden (put H n o1) * R) :=
  hw.cast (by rw [put_den H h]; ac_rfl)

/-! ### loads -/
def loadO (P : Program) [Fast P] (t : TypeId) (b off : Nat) (b' : Nat) : SO A → Option (List Prop × SV)
  | .cells l T =>
    match tyAgg P t, tySize P t with
    | some true, some n => bif Nat.ble (off + n) l.length then some ([b = b'], .a (.agg ((l.drop off).take n))) else none
    | some false, _ => (l[off]?).map fun c => ([b = b'], .c c)
    | _, _ => none
  | .row ws T =>
    match tyAgg P t with
    | some false => some ([b = b', off < ws.length], .c (.int .u64 (.sym (ws.getD off 0))))
    | _ => none
  | .abs x => Abs.load P t b off b' x
def loadV (P : Program) [Fast P] (t : TypeId) (H : SH A) (x : SV) : Option (List Prop × SV) :=
  match x with
  | .a (.one (.ptr nm b off)) =>
    match find H nm with
    | some (b', o) => loadO P t b off b' o
    | none => none
  | _ => none
theorem run_loadVar_one {P : Program} [Fast P] {t : TypeId} (ha : tyAgg P t = some false) {a : Addr} {v : Value} (hc : w.cell? a = some v) : (loadVar t a).run P w = .ok v w := by
  unfold loadVar
  simp [run_isAgg' ha, hc]
theorem run_loadVar_agg {P : Program} [Fast P] {t : TypeId} {n : Nat} (ha : tyAgg P t = some true) (hs : tySize P t = some n) {b off : Nat} {l : List SC} (hl : l.length = n)
    (hc : ∀ j c, l[j]? = some c → w.cell? ⟨b, off + j, none⟩ = some c.den) : (loadVar t ⟨b, off, none⟩).run P w = .ok (.agg (dens l)) w := by
  unfold loadVar
  have h1 := run_loadCells_list (P := P) w ⟨b, off, none⟩ (l.map SC.den) (fun j v hj => by
    rw [addr_add]
    rw [List.getElem?_map] at hj
    cases hlj : l[j]? with
    | none => rw [hlj] at hj; simp at hj
    | some c => rw [hlj] at hj; simp at hj; subst hj; exact hc j c hlj)
  rw [List.length_map, hl] at h1
  simp only [Sem.run_bind, run_isAgg' ha, Result.andThen_ok, if_true, run_sizeOf' hs, h1, Sem.run_pure]
  rfl
theorem run_loadO {P : Program} [Fast P] {t : TypeId} {b off b' : Nat} {o : SO A} {ps : List Prop} {v : SV} (h : loadO P t b off b' o = some (ps, v)) (hp : ∀ p ∈ ps, p) (hw : Holds w (o.den b' * R)) :
    (loadVar t ⟨b, off, none⟩).run P w = .ok v.den w := by
  unfold loadO at h
  split at h
  · rename_i l T
    have hcell := Holds.cells (by exact hw : Holds w (pt b' (.cells (dens l) T (0, 0)) * R))
    split at h
    · rename_i n ha hs
      cases hb : Nat.ble (off + n) l.length with
      | false => rw [hb] at h; simp at h
      | true =>
        rw [hb] at h
        simp at h hb
        obtain ⟨rfl, rfl⟩ := h
        have he : b = b' := hp _ (List.mem_singleton.2 rfl)
        subst he
        refine run_loadVar_agg ha hs (by simp; omega) ?_
        intro j c hj
        rw [hcell]
        have : l[off + j]? = some c := by
          rw [List.getElem?_take] at hj
          split at hj
          · rw [List.getElem?_drop] at hj; exact hj
          · simp at hj
        simp [dens, this]
    · rename_i ha
      cases hl : l[off]? with
      | none => rw [hl] at h; simp at h
      | some c =>
        rw [hl] at h
        simp at h
        obtain ⟨rfl, rfl⟩ := h
        have he : b = b' := hp _ (List.mem_singleton.2 rfl)
        subst he
        exact run_loadVar_one ha (by rw [hcell]; simp [dens, hl]; rfl)
    · simp at h
  · rename_i ws T
    have hcell := Holds.cells (by exact hw : Holds w (pt b' (.cells (rowV ws) T (0, 0)) * R))
    split at h
    · rename_i ha
      simp at h
      obtain ⟨rfl, rfl⟩ := h
      have he : b = b' := hp _ (by simp)
      have hlt : off < ws.length := hp _ (by simp)
      subst he
      exact run_loadVar_one ha (by rw [hcell]; simp [rowV, hlt, SV.den, SA.den, SC.den, SI.v])
    · simp at h
  · rename_i x
    exact Abs.load_ok h hp hw
theorem run_loadV {P : Program} [Fast P] {t : TypeId} {H : SH A} {x : SV} {ps : List Prop} {v : SV} (h : loadV P t H x = some (ps, v)) (hp : ∀ p ∈ ps, p) (hw : Holds w (hden H * R)) :
    (Instr.loadAt t x.den).run P w = .ok v.den w := by
  unfold loadV at h
  split at h
  · rename_i nm b off
    split at h
    · rename_i b' o hf
      have := run_loadO h hp (focus hf hw)
      unfold Instr.loadAt
      simp [SV.den, SA.den, SC.den, Instr.sureAddr]
      exact this
    · simp at h
  · simp at h

/-! ### stores -/
def SC.okc : SC → Bool
  | .raw _ => false
  | _ => true
theorem SC.okc_one {c : SC} (h : c.okc = true) : c.den.oneCell' = true := by
  cases c <;> first | rfl | cases h
theorem run_storeCells {P : Program} {b T : Nat} : ∀ (cs : List SC) (l : List SC) (off : Nat) (w : World) (i : Nat), Holds w (pt b (.cells (dens l) T (0, 0)) * R) → off + i + cs.length ≤ l.length → (∀ c ∈ cs, c.okc = true) →
    ∃ w', (storeCells ⟨b, off, none⟩ (cs.map SC.den) i).run P w = .ok () w' ∧ Holds w' (pt b (.cells (dens (over l (off + i) cs)) T (0, 0)) * R) ∧ Strm w w'
  | [], l, off, w, i, hw, hl, hc => by
    refine ⟨w, by simp [storeCells], ?_, Strm.refl w⟩
    simpa [over] using hw
  | c :: cs, l, off, w, i, hw, hl, hc => by
    simp only [List.length_cons] at hl
    have hlt : off + i < l.length := by omega
    have hcell : w.cell? ⟨b, off + i, none⟩ = some (l[off + i]).den := by rw [hw.cells]; simp [dens, hlt]
    have hfr := hw.frees (off + i)
    have h1 := hw.set (off + i) c.den
    have e1 : (dens l).setIfInBounds (off + i) c.den = dens (l.set (off + i) c) := by simp [dens, List.map_set]
    rw [e1] at h1
    obtain ⟨w', h2, h3, h4⟩ := run_storeCells (P := P) cs (l.set (off + i) c) off _ (i + 1) h1 (by simp; omega) (fun x hx => hc x (List.mem_cons_of_mem _ hx))
    refine ⟨w', ?_, ?_, ((Strm.refl w).set _ _).trans h4⟩
    · rw [List.map_cons, storeCells]
      simp only [Sem.run_bind, addr_add, run_store P w _ _ _ (SC.okc_one (hc c (List.mem_cons_self ..))), hcell, hfr, Bool.false_eq_true, if_false, Result.andThen_ok]
      exact h2
    · have e2 : over (l.set (off + i) c) (off + (i + 1)) cs = over l (off + i) (c :: cs) := by
        unfold over
        have e5 : (l.set (off + i) c).take (off + (i + 1)) = l.take (off + i) ++ [c] := by
          rw [show off + (i + 1) = off + i + 1 by omega, List.take_succ_eq_append_getElem (by simpa using hlt)]
          simp only [List.getElem_set_self]
          congr 1
          apply List.ext_getElem?
          intro k
          rw [List.getElem?_take, List.getElem?_take]
          split
          · rw [List.getElem?_set_ne (by omega)]
          · rfl
        rw [e5, List.length_cons, show off + (i + 1) + cs.length = off + i + (cs.length + 1) by omega, List.drop_set_of_lt (by omega)]
        simp
      rw [e2] at h3
      exact h3
def storeV (P : Program) [Fast P] (t : TypeId) (H : SH A) (x y : SV) : Option (List Prop × SH A) :=
  match x, y with
  | .a (.one (.ptr nm b off)), .a y =>
    match find H nm, tySize P t with
    | some (b', .cells l T), some n =>
      bif y.cells.all SC.okc && (Nat.beq y.cells.length n && Nat.ble (off + n) l.length) then some ([b = b'], put H nm (.cells (over l off y.cells) T)) else none
    | some (b', .row ws T), some 1 =>
      match y with
      | .one (.int .u64 v) => some ([b = b', off < ws.length], put H nm (.row (ws.set off v.v) T))
      | _ => none
    | _, _ => none
  | _, _ => none
theorem all_okc_plain {y : SA} (h : y.cells.all SC.okc = true) : y.plain = true := by
  cases y with
  | agg l => rfl
  | one c => cases c <;> first | rfl | (simp [SA.cells, SC.okc] at h)
theorem run_storeV {P : Program} [Fast P] {t : TypeId} {H H' : SH A} {x y : SV} {ps : List Prop} (h : storeV P t H x y = some (ps, H')) (hp : ∀ p ∈ ps, p) (hw : Holds w (hden H * R)) :
    ∃ w', (Instr.storeAt t x.den y.den).run P w = .ok () w' ∧ Holds w' (hden H' * R) ∧ Strm w w' := by
  unfold storeV at h
  split at h
  · rename_i nm b off y
    split at h
    · rename_i b' l T n hf hs
      cases hb : (y.cells.all SC.okc && (Nat.beq y.cells.length n && Nat.ble (off + n) l.length)) with
      | false => rw [hb] at h; simp at h
      | true =>
        rw [hb] at h
        rw [Bool.and_eq_true, Bool.and_eq_true] at hb
        obtain ⟨h1, h2, h3⟩ := hb
        simp at h
        obtain ⟨rfl, rfl⟩ := h
        have he : b = b' := hp _ (List.mem_singleton.2 rfl)
        subst he
        have h2' : y.cells.length = n := Nat.eq_of_beq_eq_true h2
        have h3' : off + n ≤ l.length := Nat.le_of_ble_eq_true h3
        obtain ⟨w', r1, r2, r3⟩ := run_storeCells (P := P) y.cells l off w 0 (focus hf hw) (by omega) (fun c hc => List.all_eq_true.1 h1 c hc)
        refine ⟨w', ?_, unfocus hf r2, r3⟩
        have hy : y.den.cells = dens y.cells := SA.cells_den y (all_okc_plain h1)
        have hsz : (dens y.cells).size = n := by simp [dens, h2']
        show (Instr.storeAt t (.pointer (some ⟨b, off, none⟩)) y.den).run P w = _
        generalize y.den = yv at hy
        unfold Instr.storeAt storeVar
        simp only [Sem.run_bind, Instr.sureAddr, Sem.run_pure, Result.andThen_ok, run_sizeOf' hs]
        rw [hy, if_neg (by rw [hsz]; simp)]
        simpa [dens] using r1
    · rename_i b' ws T hf hs
      split at h
      · rename_i v
        simp at h
        obtain ⟨rfl, rfl⟩ := h
        have he : b = b' := hp _ (by simp)
        have hlt : off < ws.length := hp _ (by simp)
        subst he
        have hw1 : Holds w (pt b (.cells (rowV ws) T (0, 0)) * (hden (del H nm) * R)) := focus hf hw
        have hcell : w.cell? ⟨b, off, none⟩ = some (.int .u64 ws[off]) := by rw [hw1.cells]; simp [rowV, hlt]
        have hfr := hw1.frees off
        have h1 := hw1.set off (.int .u64 v.v)
        have e1 : (rowV ws).setIfInBounds off (.int .u64 v.v) = rowV (ws.set off v.v) := by simp [rowV, List.map_set]
        rw [e1] at h1
        refine ⟨_, ?_, unfocus hf h1, (Strm.refl w).set _ _⟩
        show (Instr.storeAt t (.pointer (some ⟨b, off, none⟩)) (.int .u64 v.v)).run P w = _
        unfold Instr.storeAt storeVar
        have hz : ¬ ((Value.int .u64 v.v).cells.size ≠ 1) := by simp [Value.cells]
        simp only [Sem.run_bind, Instr.sureAddr, Sem.run_pure, Result.andThen_ok, run_sizeOf' hs, if_neg hz]
        simp [Value.cells, storeCells, addr_add, run_store P w _ (.int .u64 v.v) _ rfl, hcell, hfr]
      · simp at h
    · simp at h
  · simp at h

/-! ### new blocks -/
theorem alloc_holds {H : SH A} (hw : Holds w (hden H * R)) (l : List SC) (T n : Nat) : Holds (w.alloc (.cells (dens l) T)) (hden ((n, w.heap.size, SO.cells l T) :: H) * R) :=
  (hw.alloc (.cells (dens l) T)).cast (by
    show _ = (pt w.heap.size (.cells (dens l) T (0, 0)) * hden H) * R
    ac_rfl)
theorem run_alloc' {P : Program} [Fast P] {t : TypeId} {l : List SC} (h : zeroC P t = some l) : (Instr.alloc t true (.tuple #[])).run P w = .ok (.pointer (some ⟨w.heap.size, 0, none⟩)) (w.alloc (.cells (dens l) t)) := by
  unfold zeroC at h
  split at h
  · rename_i v hv
    simp only [Option.some.injEq] at h
    subst h
    unfold Instr.alloc newVar newRow
    simp [run_zeroValue' hv, dens_of]
  · cases h
theorem run_box' {P : Program} {t : TypeId} {x : SA} (h : x.plain = true) : (Instr.box t x.den).run P w = .ok (.pointer (some ⟨w.heap.size, 0, none⟩)) (w.alloc (.cells (dens x.cells) t)) := by
  unfold Instr.box newVar newRow
  simp [SA.cells_den x h]
def rowOf (z : List SC) (k : Nat) : List SC := (List.range (k * z.length)).map fun i => (z[i % z.length]?).getD .nil
def sliceC (P : Program) [Fast P] (t : TypeId) (len : Nat) (parts : List (Nat × SA)) : Option (TypeId × List SC) :=
  match Fast.und P t with
  | some (.slice e) =>
    match tySize P e, zeroC P e with
    | some n, some z =>
      bif Nat.beq z.length n && (Nat.blt 0 (len * n) && Nat.ble (len * n) 4096) then (fillC (fun i => some (i * n, n)) (rowOf z len) parts).map fun l => (e, l) else none
    | _, _ => none
  | _ => none
theorem run_sliceC {P : Program} [Fast P] {t : TypeId} {len : Nat} {parts : List (Nat × SA)} {e : TypeId} {l : List SC} (h : sliceC P t len parts = some (e, l)) :
    (Instr.buildSlice t len (parts.map fun p => (p.1, p.2.den)).toArray).run P w = .ok (.slice (some ⟨w.heap.size, 0, none⟩) len len) (w.alloc (.cells (dens l) e)) := by
  unfold sliceC at h
  split at h
  · rename_i e' hu
    split at h
    · rename_i n z hs hz
      cases hc : (Nat.beq z.length n && (Nat.blt 0 (len * n) && Nat.ble (len * n) 4096)) with
      | false => rw [hc] at h; cases h
      | true =>
        rw [hc] at h
        simp only [cond_true] at h
        rw [Bool.and_eq_true, Bool.and_eq_true] at hc
        have c1 := Nat.eq_of_beq_eq_true hc.1
        have c2 : 0 < len * n := Nat.le_of_ble_eq_true hc.2.1
        have c3 := Nat.le_of_ble_eq_true hc.2.2
        cases hf : fillC (fun i => some (i * n, n)) (rowOf z len) parts with
        | none => rw [hf] at h; cases h
        | some l' =>
          rw [hf] at h
          simp only [Option.map_some, Option.some.injEq, Prod.mk.injEq] at h
          obtain ⟨rfl, rfl⟩ := h
          have hfd := fillC_den _ _ _ _ hf
          unfold zeroC at hz
          split at hz
          · rename_i v hv
            · simp only [Option.some.injEq] at hz
              have hzv : dens z = v.cells := by rw [← hz]; exact dens_of _
              have hz0 : z.length = v.cells.size := by rw [← hz]; simp
              have hrow : dens (rowOf z len) = (Array.range (len * n)).map (v.cells[· % v.cells.size]!) := by
                unfold dens rowOf
                rw [← hzv, List.map_map, c1]
                apply Array.ext'
                simp only [Array.toList_map, Array.toList_range]
                apply List.map_congr_left
                intro i hi'
                have hpos : 0 < z.length := by
                  rcases Nat.eq_zero_or_pos z.length with h | h
                  · rw [c1] at h; rw [h] at c2; simp at c2
                  · exact h
                have hlt : i % n < z.length := by rw [← c1]; exact Nat.mod_lt _ hpos
                have hsz : (dens z).size = n := by simp [dens, c1]
                simp only [Function.comp]
                rw [hsz]
                have e1 : (dens z)[i % n]! = z[i % n].den := by
                  rw [getElem!_pos (dens z) (i % n) (by simpa [dens] using hlt)]
                  simp [dens]
                rw [e1, List.getElem?_eq_getElem hlt]
                rfl
              have hn0 : ¬ (len * n > 2 ^ 24) := by omega
              have hn1 : ¬ (len * n = 0) := by omega
              unfold Instr.buildSlice
              have hzr : (zeroValue e').run P w = .ok v w := run_zeroValue' hv w
              simp only [Sem.run_bind, run_underlying' hu, Result.andThen_ok, run_sizeOf' hs, if_neg hn0, if_neg hn1, hzr, Sem.run_pure]
              rw [← hrow]
              simp only [hfd]
              unfold newRow
              simp
          · cases hz
    · cases h
  · cases h
end
end Go.Proofs.Ytfapicccijbanaa.Ev
