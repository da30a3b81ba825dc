/- What is proved: an argument that can be read, all of whose cells are whole numbers, or a slice of such, is one as the walks want it. Conditions: that it can be read. -/
import Derived.Test.YtmmpnjcmaodkcaaOpen
import Derived.Test.YtmmpnjcmaodkcaaTr
namespace Go.Proofs.Ytmmpnjcmaodkcaa.Mem
open Go Go.RowKit Go.ChangeShapes Go.WideShapes Go.ChangeAt Go.Joins Go.Deep
set_option maxRecDepth 100000
set_option linter.unusedVariables false
set_option linter.unusedSimpArgs false
noncomputable def flatF (go : TypeId → Bool) (t : TypeId) : Bool :=
  match Try.prog.underlying t with
  | some (.int .i64) => true
  | some (.struct fs) => (List.range (Try.prog.cellsOf t)).all fun j => fs.toList.any fun f => decide (f.offset ≤ j) && (decide (j < f.offset + Try.prog.cellsOf f.type) && go f.type)
  | some (.array m e) => go e && (decide (0 < Try.prog.cellsOf e) && decide (Try.prog.cellsOf t = m * Try.prog.cellsOf e))
  | _ => false
noncomputable def flatB : Nat → TypeId → Bool
  | 0 => fun _ => false
  | d + 1 => flatF (flatB d)
abbrev isInt (c : Value) : Prop := ∃ n : Int, c = .int .i64 n ∧ (Lit.int .i64 n).wf = true
section
variable {H : Type} {enc : TypeId × Value → H} {w : World} {base : Nat} {spare : Nat → Bool} {held : Bool}
theorem trod_flat : ∀ (d : Nat) {t : TypeId} {fuel : Nat} {cs : List Value} {x : DataW H × List MemPlace}, flatB d t = true → DataW.trod enc Try.prog w base spare held fuel t cs = some x → ∀ c ∈ cs, isInt c
  | 0, t, fuel, cs, x, h, _ => by cases h
  | d + 1, t, fuel, cs, x, h, hx => by
    have h : flatF (flatB d) t = true := h
    unfold flatF at h
    split at h
    · rename_i ht
      obtain ⟨n, rfl, _, hw⟩ := DataW.trod_int ht hx
      intro c hc
      rcases List.mem_singleton.1 hc with rfl
      exact ⟨n, rfl, hw⟩
    · rename_i fs ht
      obtain ⟨xs, n, _, _, hl, hlen, hf⟩ := DataW.trod_struct ht hx
      intro c hc
      obtain ⟨j, hj, rfl⟩ := List.mem_iff_getElem.1 hc
      have h1 := List.all_eq_true.1 h j (List.mem_range.2 (by omega))
      obtain ⟨f, hfm, h2⟩ := List.any_eq_true.1 h1
      rw [Bool.and_eq_true, Bool.and_eq_true, decide_eq_true_eq, decide_eq_true_eq] at h2
      obtain ⟨a1, a2, a3⟩ := h2
      obtain ⟨i, hi, rfl⟩ := List.mem_iff_getElem.1 hfm
      have hi' : i < fs.size := by simpa using hi
      have hfi := hf i _ (by simp [hi'] : fs[i]? = some fs.toList[i])
      have hxi : xs[i]? = some (xs[i]'(by omega)) := by simp [hlen, hi']
      rw [hxi] at hfi
      refine trod_flat d a3 hfi _ ?_
      rw [List.mem_iff_getElem]
      refine ⟨j - fs.toList[i].offset, ?_, ?_⟩
      · simp only [List.length_take, List.length_drop]; omega
      · rw [List.getElem_take, List.getElem_drop]
        congr 1; omega
    · rename_i m e ht
      rw [Bool.and_eq_true, Bool.and_eq_true, decide_eq_true_eq, decide_eq_true_eq] at h
      obtain ⟨a1, a2, a3⟩ := h
      obtain ⟨xs, n, _, _, hl, hlen, hf⟩ := DataW.trod_array ht hx
      intro c hc
      obtain ⟨j, hj, rfl⟩ := List.mem_iff_getElem.1 hc
      have hjm : j / Try.prog.cellsOf e < m := by
        rw [Nat.div_lt_iff_lt_mul a2]; omega
      have hfi := hf (j / Try.prog.cellsOf e) hjm
      have hxi : xs[j / Try.prog.cellsOf e]? = some (xs[j / Try.prog.cellsOf e]'(by omega)) := by simp [hlen, hjm]
      rw [hxi] at hfi
      refine trod_flat d a1 hfi _ ?_
      rw [List.mem_iff_getElem]
      have e1 := Nat.div_add_mod j (Try.prog.cellsOf e)
      have e2 := Nat.mod_lt j a2
      have e3 : j / Try.prog.cellsOf e * Try.prog.cellsOf e = Try.prog.cellsOf e * (j / Try.prog.cellsOf e) := Nat.mul_comm _ _
      refine ⟨j % Try.prog.cellsOf e, ?_, ?_⟩
      · simp only [List.length_take, List.length_drop]
        rw [e3]
        have : j < Try.prog.cellsOf t := by omega
        omega
      · rw [List.getElem_take, List.getElem_drop]
        congr 1
        rw [e3]; exact e1
    · cases h
theorem ints_list : ∀ {cs : List Value}, (∀ c ∈ cs, isInt c) → ∃ l : List Int, cs = l.map (Value.int .i64) ∧ ∀ x ∈ l, -9223372036854775808 ≤ x ∧ x ≤ 9223372036854775807
  | [], _ => ⟨[], rfl, fun x hx => (by cases hx)⟩
  | c :: r, h => by
    obtain ⟨n, rfl, hn⟩ := h c (List.mem_cons_self ..)
    obtain ⟨l, rfl, hl⟩ := ints_list fun c hc => h c (List.mem_cons_of_mem _ hc)
    refine ⟨n :: l, rfl, fun x hx => ?_⟩
    rcases List.mem_cons.1 hx with rfl | hx
    · exact rng_i64 hn
    · exact hl x hx
end
/-- So many whole numbers. -/
def FlatIs (v : Value) (n : Nat) (l : List Int) : Prop := v = .agg (l.map (Value.int .i64)).toArray ∧ l.length = n ∧ ∀ x ∈ l, -9223372036854775808 ≤ x ∧ x ≤ 9223372036854775807
/-- A slice of elements of so many whole numbers each. -/
def FlatAt (w : World) (v : Value) (st : Nat) (l : List Int) (len : Nat) : Prop := ∃ ao cap, v = .slice ao len cap ∧ len ≤ cap ∧ l.length = len * st ∧ (∀ x ∈ l, -9223372036854775808 ≤ x ∧ x ≤ 9223372036854775807) ∧
  (len = 0 ∨ ∃ b off, ao = some ⟨b, off, none⟩ ∧ ∀ j, j < l.length → w.cell? ⟨b, off + j, none⟩ = some (.int .i64 (l.getD j 0)))
section
variable {H : Type} {enc : TypeId × Value → H} {W : World} {base : Nat} {d : DataW H} {p : List MemPlace} {v : Value}
/-- A struct or an array of whole numbers. -/
theorem flat_cell {t : TypeId} {fuel : Nat} {cs : Array Value} {x : DataW H × List MemPlace} {n : Nat} (hB : flatB 6 t = true) (hn : Try.prog.cellsOf t = n) (hs : cs.size = n) (h : DataW.trod enc Try.prog W 0 (fun _ => true) true fuel t cs.toList = some x) :
    ∃ l, FlatIs (.agg cs) n l := by
  obtain ⟨l, h1, h2⟩ := ints_list (trod_flat 6 hB h)
  refine ⟨l, ?_, ?_, h2⟩
  · rw [← h1]
  · have := congrArg List.length h1
    simp at this
    omega
theorem flat_struct {r : Reach} {t : TypeId} {fs : Array Field} {n : Nat} (ht : Try.prog.underlying t = some (.struct fs)) (hB : flatB 6 t = true) (hn : Try.prog.cellsOf t = n) (hv : Value.okWide Try.prog W r base t v) (h : DataW.Trod enc Try.prog W 0 (fun _ => true) true t v d p) :
    ∃ l, FlatIs v n l := by
  simp only [Value.okWide, ht] at hv
  obtain ⟨cs, rfl, hsz, _⟩ := hv
  obtain ⟨fuel, hf⟩ := h
  simp only [Value.cells] at hf
  exact flat_cell hB hn (by omega) hf
theorem flat_array {r : Reach} {t e : TypeId} {m n : Nat} (ht : Try.prog.underlying t = some (.array m e)) (hB : flatB 6 t = true) (hn : Try.prog.cellsOf t = n) (hv : Value.okWide Try.prog W r base t v) (h : DataW.Trod enc Try.prog W 0 (fun _ => true) true t v d p) :
    ∃ l, FlatIs v n l := by
  simp only [Value.okWide, ht] at hv
  obtain ⟨cs, rfl, hsz, _⟩ := hv
  obtain ⟨fuel, hf⟩ := h
  simp only [Value.cells] at hf
  exact flat_cell hB hn (by omega) hf
theorem cells_len {w : World} {base : Nat} {a : Addr} : ∀ {n : Nat} {cs : List Value}, w.cells? base a n = some cs → cs.length = n ∧ ∀ j, j < n → w.cell? (a.add j) = cs[j]? := by
  intro n cs h
  unfold World.cells? at h
  split at h
  · have key : ∀ (l : List Nat) (cs : List Value), (l.mapM fun i => w.cell? (a.add i)) = some cs → cs.length = l.length ∧ ∀ j, j < l.length → w.cell? (a.add (l.getD j 0)) = cs[j]? := by
      intro l
      induction l with
      | nil => intro cs h; simp at h; subst h; exact ⟨rfl, fun j hj => by simp at hj⟩
      | cons i r ih =>
        intro cs h
        rw [List.mapM_cons] at h
        cases h0 : w.cell? (a.add i) with
        | none => rw [h0] at h; simp at h
        | some c =>
          cases h1 : (r.mapM fun i => w.cell? (a.add i)) with
          | none => rw [h0, h1] at h; simp at h
          | some cr =>
            rw [h0, h1] at h
            have h : c :: cr = cs := by simpa using h
            subst h
            obtain ⟨e1, e2⟩ := ih cr h1
            refine ⟨by simp [e1], fun j hj => ?_⟩
            cases j with
            | zero => simpa using h0
            | succ j => simpa using e2 j (by simpa using hj)
    obtain ⟨e1, e2⟩ := key _ _ h
    rw [List.length_range] at e1 e2
    refine ⟨e1, fun j hj => ?_⟩
    have := e2 j hj
    rwa [show (List.range n).getD j 0 = j by simp [List.getD_eq_getElem?_getD, hj]] at this
  · cases h
/-- A slice of structs of whole numbers. -/
theorem flats_cell {t e : TypeId} {fuel st : Nat} {x : DataW H × List MemPlace} (ht : Try.prog.underlying t = some (.slice e)) (hB : flatB 6 e = true) (hc : Try.prog.cellsOf e = st) (hst : 0 < st)
    (hf : DataW.trod enc Try.prog W 0 (fun _ => true) true fuel t [v] = some x) : ∃ l len, FlatAt W v st l len := by
  rcases open_slice ht hf with ⟨hcs, _⟩ | ⟨a, len, cap, m, n, D, Pl, hcs, _, hl, hm, hmm, _, hel⟩
  · simp at hcs
    subst hcs
    exact ⟨[], 0, none, 0, rfl, by omega, by simp, by simp, Or.inl rfl⟩
  · simp at hcs
    subst hcs
    have hm' : m = cap := by simpa using hmm
    subst hm'
    rw [hc] at hel
    have key : ∀ j, j < len * st → ∃ q : Int, W.cell? (a.add j) = some (.int .i64 q) ∧ (Lit.int .i64 q).wf = true := by
      intro j hj
      have hi : j / st < len := by rw [Nat.div_lt_iff_lt_mul hst]; exact hj
      obtain ⟨cs', h1, h2⟩ := hel (j / st) (by omega)
      obtain ⟨g1, g2⟩ := cells_len h1
      have g := g2 (j % st) (Nat.mod_lt _ hst)
      have hlt : j % st < cs'.length := by rw [g1]; exact Nat.mod_lt _ hst
      obtain ⟨q, hq, hw⟩ := trod_flat 6 hB h2 cs'[j % st] (List.getElem_mem _)
      refine ⟨q, ?_, hw⟩
      have e : ((a.add (j / st * st)).add (j % st)) = a.add j := by
        rw [Addr.add_add]
        have h1 := Nat.div_add_mod j st
        have h2 : j / st * st = st * (j / st) := Nat.mul_comm _ _
        congr 1
        rw [h2]; exact h1
      rw [← e, g, List.getElem?_eq_getElem hlt, hq]
    obtain ⟨q, hq⟩ : ∃ q : Nat → Int, ∀ j, j < len * st → W.cell? (a.add j) = some (.int .i64 (q j)) ∧ (Lit.int .i64 (q j)).wf = true := by
      refine ⟨fun j => if h : j < len * st then Classical.choose (key j h) else 0, fun j hj => ?_⟩
      have e : (if h : j < len * st then Classical.choose (key j h) else 0) = Classical.choose (key j hj) := dif_pos hj
      simp only [e]
      exact Classical.choose_spec (key j hj)
    refine ⟨(List.range (len * st)).map q, len, some a, m, rfl, hl, by simp, fun x hx => ?_, ?_⟩
    · obtain ⟨i, hi, rfl⟩ := List.mem_map.1 hx
      exact rng_i64 (hq i (by simpa using hi)).2
    · rcases Nat.eq_zero_or_pos len with h0 | h0
      · left; exact h0
      · right
        have hp : 0 < len * st := Nat.mul_pos h0 hst
        obtain ⟨b, off, spot⟩ := a
        have hspot : spot = none := by simpa [Addr.add] using World.cell?_spot (hq 0 hp).1
        subst hspot
        refine ⟨b, off, rfl, fun j hj => ?_⟩
        have hj' : j < len * st := by simpa using hj
        have e : ((List.range (len * st)).map q).getD j 0 = q j := by simp [List.getD_eq_getElem?_getD, hj']
        rw [e]
        have := (hq j hj').1
        rwa [add_plain] at this
theorem flats_of {r : Reach} {t e : TypeId} {st : Nat} (ht : Try.prog.underlying t = some (.slice e)) (hB : flatB 6 e = true) (hc : Try.prog.cellsOf e = st) (hst : 0 < st) (hv : Value.okWide Try.prog W r base t v) (h : DataW.Trod enc Try.prog W 0 (fun _ => true) true t v d p) :
    ∃ l len, FlatAt W v st l len := by
  obtain ⟨a0, len, cap, rfl⟩ := okWide_slice ht hv
  obtain ⟨fuel, hf⟩ := h
  exact flats_cell ht hB hc hst hf
end
end Go.Proofs.Ytmmpnjcmaodkcaa.Mem
namespace Go.Proofs.Ytmmpnjcmaodkcaa.Ef
open Go Go.Proofs.Ytmmpnjcmaodkcaa.Sep Go.Proofs.Ytmmpnjcmaodkcaa.Mem
theorem flats_row {w : World} {v : Value} {st : Nat} {l : List Int} {len : Nat} (h : FlatAt w v st l len) (hst : 0 < st) (i : Nat) : ∃ (off : Int) (cap b : Nat) (ao : Option Addr), len ≤ cap ∧ RowAt w v l len st i off cap b ao := by
  obtain ⟨ao, cap, rfl, hcap, hl, hr, hc⟩ := h
  by_cases hx : len = 0
  · subst hx
    have : l = [] := List.length_eq_zero_iff.1 (by omega)
    subst this
    exact ⟨i, cap, 0, ao, hcap, ⟨by simp, fun _ => rfl, ⟨by omega, by simp, .inr (by simp), fun j hj => by simp at hj, fun x hx => by cases hx⟩⟩⟩
  · rcases hc with hc | ⟨b, off, rfl, hc⟩
    · exact absurd hc hx
    · have hp : 0 < l.length := by rw [hl]; exact Nat.mul_pos (by omega) hst
      refine ⟨off, cap, b, none, hcap, ⟨?_, fun h => by omega, ⟨by omega, by rw [hl]; simp, .inl ?_, fun j hj => ?_, hr⟩⟩⟩
      · rw [if_neg (by omega)]; simp
      · exact World.block_lt_of_cell? w _ (hc 0 hp)
      · simpa using hc j hj
end Go.Proofs.Ytmmpnjcmaodkcaa.Ef
