/- What is proved: a small separation logic over the model's heap: what a part of the memory holds, and how it stands behind a new block, a store, a draw, an append. Conditions: stated with each lemma. -/
import Derived.Below
import Derived.OneCell
import Derived.Laws.AppendOwn
import Derived.Laws.NewBlocks
import Derived.WalkKit
import Derived.Deep.Draws
namespace Go.Proofs.Ytmmpnjcmaodkcaa.Sep
open Go Go.RowKit

abbrev Hp := Nat → Option Obj
def HProp := Hp → Prop
abbrev exP {α : Sort _} (F : α → HProp) : HProp := fun h => ∃ x, F x h
abbrev andP (p : Prop) (P : HProp) : HProp := fun h => p ∧ P h
def emp : HProp := fun h => ∀ b, h b = none
def pt (b : Nat) (o : Obj) : HProp := fun h => ∀ k, h k = if k = b then some o else none
def star (P Q : HProp) : HProp := fun h => ∃ h1 h2 : Hp, (∀ b, h1 b = none ∨ h2 b = none) ∧ (∀ b, h b = (h1 b).or (h2 b)) ∧ P h1 ∧ Q h2
instance : Mul HProp := ⟨star⟩

theorem star_comm (P Q : HProp) : (P * Q) = (Q * P) := by
  have key : ∀ (P Q : HProp) h, (P * Q) h → (Q * P) h := by
    rintro P Q h ⟨h1, h2, d, e, p, q⟩
    refine ⟨h2, h1, fun b => (d b).symm, fun b => ?_, q, p⟩
    rw [e b]; rcases d b with x | x <;> rw [x] <;> cases (h1 b) <;> cases (h2 b) <;> simp_all
  funext h; exact propext ⟨key P Q h, key Q P h⟩
theorem star_assoc (P Q R : HProp) : ((P * Q) * R) = (P * (Q * R)) := by
  funext h; apply propext; constructor
  · rintro ⟨h12, h3, d, e, ⟨h1, h2, d', e', p, q⟩, r⟩
    refine ⟨h1, fun b => (h2 b).or (h3 b), fun b => ?_, fun b => ?_, p, h2, h3, fun b => ?_, fun _ => rfl, q, r⟩
    · have a := d b; have c := d' b; have f := e' b
      rcases c with c | c
      · exact Or.inl c
      · rcases a with a | a
        · rw [f] at a; left; cases hx : h1 b <;> simp_all
        · right; simp [c, a]
    · rw [e b, e' b]; cases h1 b <;> simp
    · have a := d b; have f := e' b
      rcases a with a | a
      · left; rw [f] at a; cases hx : h1 b <;> simp_all
      · exact Or.inr a
  · rintro ⟨h1, h23, d, e, p, h2, h3, d', e', q, r⟩
    refine ⟨fun b => (h1 b).or (h2 b), h3, fun b => ?_, fun b => ?_, ⟨h1, h2, fun b => ?_, fun _ => rfl, p, q⟩, r⟩
    · have a := d b; have c := d' b; have f := e' b
      rcases c with c | c
      · rcases a with a | a
        · left; simp [a, c]
        · rw [f] at a; right; cases hx : h2 b <;> simp_all
      · exact Or.inr c
    · show h b = ((h1 b).or (h2 b)).or (h3 b)
      rw [e b, e' b]; cases h1 b <;> simp
    · have a := d b; have f := e' b
      rcases a with a | a
      · exact Or.inl a
      · rw [f] at a; right; cases hx : h2 b <;> simp_all
instance : Std.Commutative (α := HProp) HMul.hMul := ⟨star_comm⟩
instance : Std.Associative (α := HProp) HMul.hMul := ⟨star_assoc⟩
theorem star_emp (P : HProp) : (P * emp) = P := by
  funext h; apply propext; constructor
  · rintro ⟨h1, h2, _, e, p, q⟩
    have : h = h1 := by funext b; rw [e b, q b]; cases h1 b <;> rfl
    rw [this]; exact p
  · intro p
    exact ⟨h, fun _ => none, fun b => Or.inr rfl, fun b => by cases h b <;> rfl, p, fun _ => rfl⟩
theorem star_mono {P P' Q Q' : HProp} (p : ∀ h, P h → P' h) (q : ∀ h, Q h → Q' h) : ∀ h, (P * Q) h → (P' * Q') h :=
  fun _ ⟨h1, h2, d, e, x, y⟩ => ⟨h1, h2, d, e, p _ x, q _ y⟩

/-- What a part of the heap of w holds. (The rest may be anything.) -/
def Holds (w : World) (P : HProp) : Prop := ∃ h : Hp, (∀ b o, h b = some o → w.heap[b]? = some o) ∧ P h

section
variable {w : World} {P Q R : HProp}
theorem Holds.mono (H : Holds w P) (f : ∀ h, P h → Q h) : Holds w Q := let ⟨h, a, p⟩ := H; ⟨h, a, f h p⟩
theorem Holds.cast (H : Holds w P) (e : P = Q) : Holds w Q := e ▸ H
theorem Holds.drop (H : Holds w (P * Q)) : Holds w Q := by
  obtain ⟨h, a, h1, h2, d, e, _, q⟩ := H
  refine ⟨h2, fun b o hb => a b o ?_, q⟩
  rw [e b]
  rcases d b with x | x
  · rw [x, hb]; rfl
  · rw [x] at hb; cases hb
theorem Holds.left (H : Holds w (P * Q)) : Holds w P := (H.cast (star_comm P Q)).drop
theorem Holds.block {b : Nat} {o : Obj} (H : Holds w (pt b o * R)) : w.heap[b]? = some o := by
  obtain ⟨h, a, h1, h2, d, e, p, _⟩ := H
  refine a b o ?_
  rw [e b, p b]; simp
theorem Holds.block' {b : Nat} {o : Obj} (H : Holds w (pt b o)) : w.heap[b]? = some o := (H.cast (star_emp (pt b o)).symm).block
theorem Holds.lt {b : Nat} {o : Obj} (H : Holds w (pt b o * R)) : b < w.heap.size := lt_of_block H.block
theorem Holds.ne {b b' : Nat} {o o' : Obj} (H : Holds w (pt b o * (pt b' o' * R))) : b ≠ b' := by
  obtain ⟨h, a, h1, h2, d, e, p, h3, h4, d', e', p', _⟩ := H
  rintro rfl
  have x := p b; have y := p' b; have z := e' b; have t := d b
  simp at x y
  rw [y] at z; simp at z
  rw [x, z] at t; simp at t
theorem Holds.pure {p : Prop} (H : Holds w (fun h => p ∧ P h)) : p ∧ Holds w P := let ⟨h, a, x, y⟩ := H; ⟨x, h, a, y⟩
theorem holds_ex {α : Sort _} {F : α → HProp} (H : Holds w (exP F * R)) : ∃ x, Holds w (F x * R) := by
  obtain ⟨h, a, h1, h2, d, e, ⟨x, p⟩, r⟩ := H
  exact ⟨x, h, a, h1, h2, d, e, p, r⟩
theorem holds_and {p : Prop} (H : Holds w (andP p P * R)) : p ∧ Holds w (P * R) := by
  obtain ⟨h, a, h1, h2, d, e, ⟨x, q⟩, r⟩ := H
  exact ⟨x, h, a, h1, h2, d, e, q, r⟩
theorem holds_ex_mk {α : Sort _} {F : α → HProp} (x : α) (H : Holds w (F x * R)) : Holds w (exP F * R) := H.mono (star_mono (fun _ p => ⟨x, p⟩) (fun _ r => r))
theorem holds_and_mk {p : Prop} (hp : p) (H : Holds w (P * R)) : Holds w (andP p P * R) := H.mono (star_mono (fun _ q => ⟨hp, q⟩) (fun _ r => r))
theorem star_empl (P : HProp) : (emp * P) = P := by rw [star_comm, star_emp]
theorem Holds.drew (H : Holds w P) : Holds w.drew P := H
theorem Holds.alloc (H : Holds w P) (o : Obj) : Holds (w.alloc o) (pt w.heap.size o * P) := by
  obtain ⟨h, a, p⟩ := H
  have hn : h w.heap.size = none := by
    cases hx : h w.heap.size with
    | none => rfl
    | some o' => have := a _ _ hx; simp at this
  refine ⟨fun b => (if b = w.heap.size then some o else none).or (h b), ?_, fun b => if b = w.heap.size then some o else none, h, ?_, fun _ => rfl, fun _ => rfl, p⟩
  · intro b o' hb
    by_cases e : b = w.heap.size
    · subst e; simp at hb; subst hb; exact heap_alloc_new w o
    · simp [e] at hb
      have := a _ _ hb
      rw [Below.heap_alloc w o b (lt_of_block this)]; exact this
  · intro b
    by_cases e : b = w.heap.size
    · right; rw [e]; exact hn
    · left; simp [e]
theorem set_block {w : World} {b : Nat} {c : Array Value} {t : TypeId} {z : Nat × Nat} (h : w.heap[b]? = some (.cells c t z)) (i : Nat) (v : Value) :
    (w.setCell ⟨b, i, none⟩ v).heap[b]? = some (.cells (c.setIfInBounds i v) t z) := by
  have hlt := lt_of_block h
  have h' : w.heap[b] = .cells c t z := by simpa [Array.getElem?_eq_getElem hlt] using h
  show (w.heap.modify b _)[b]? = _
  rw [Array.getElem?_eq_getElem (by simpa using hlt), Array.getElem_modify_self, h']
  rfl
theorem Holds.upd {w' : World} {b : Nat} {o o' : Obj} (H : Holds w (pt b o * R)) (hb : w'.heap[b]? = some o') (hr : ∀ k, k ≠ b → w'.heap[k]? = w.heap[k]?) : Holds w' (pt b o' * R) := by
  obtain ⟨h, a, h1, h2, d, e, p, r⟩ := H
  have hn : h2 b = none := by
    rcases d b with x | x
    · rw [p b] at x; simp at x
    · exact x
  refine ⟨fun k => (if k = b then some o' else none).or (h2 k), ?_, fun k => if k = b then some o' else none, h2, ?_, fun _ => rfl, fun _ => rfl, r⟩
  · intro k x hk
    by_cases ek : k = b
    · subst ek; simp at hk; subst hk; exact hb
    · simp [ek] at hk
      rw [hr k ek]
      refine a k x ?_
      rw [e k, p k, if_neg ek, hk]; rfl
  · intro k
    by_cases ek : k = b
    · right; rw [ek]; exact hn
    · left; simp [ek]
theorem Holds.set {b : Nat} {c : Array Value} {t : TypeId} {z : Nat × Nat} (H : Holds w (pt b (.cells c t z) * R)) (i : Nat) (v : Value) :
    Holds (w.setCell ⟨b, i, none⟩ v) (pt b (.cells (c.setIfInBounds i v) t z) * R) :=
  H.upd (set_block H.block i v) fun _ hk => Below.heap_setCell _ _ _ _ hk
theorem Holds.cell {b : Nat} {c : Array Value} {t : TypeId} {z : Nat × Nat} (H : Holds w (pt b (.cells c t z) * R)) (i : Nat) (v : Value) (h : c[i]? = some v) : w.cell? ⟨b, i, none⟩ = some v := by
  simp [World.cell?, H.block, h]
theorem Holds.free {b : Nat} {c : Array Value} {t : TypeId} (H : Holds w (pt b (.cells c t (0, 0)) * R)) (i : Nat) : w.frozen? ⟨b, i, none⟩ = false := by
  simp [World.frozen?, H.block]
end

theorem cells_of {w : World} {b : Nat} {c : Array Value} {t : TypeId} {z : Nat × Nat} (h : w.heap[b]? = some (.cells c t z)) : ∀ o, w.cell? ⟨b, o, none⟩ = c[o]? := by
  intro o; simp [World.cell?, h]
theorem frees_of {w : World} {b : Nat} {c : Array Value} {t : TypeId} (h : w.heap[b]? = some (.cells c t (0, 0))) : ∀ o, w.frozen? ⟨b, o, none⟩ = false := by
  intro o; simp [World.frozen?, h]
theorem Holds.cells {w : World} {R : HProp} {b : Nat} {c : Array Value} {t : TypeId} {z : Nat × Nat} (H : Holds w (pt b (.cells c t z) * R)) : ∀ o, w.cell? ⟨b, o, none⟩ = c[o]? := cells_of H.block
theorem Holds.frees {w : World} {R : HProp} {b : Nat} {c : Array Value} {t : TypeId} (H : Holds w (pt b (.cells c t (0, 0)) * R)) : ∀ o, w.frozen? ⟨b, o, none⟩ = false := frees_of H.block
theorem blk_below {B b : Nat} {w w' : World} {o : Obj} (hb : Below B w w') (h : w.heap[b]? = some o) (hlt : b < B) : w'.heap[b]? = some o := (hb.block b hlt).trans h
theorem blk_alloc {w : World} {b : Nat} {o p : Obj} (h : w.heap[b]? = some o) : (w.alloc p).heap[b]? = some o := (Below.heap_alloc w p b (lt_of_block h)).trans h
theorem blk_new (w : World) (o : Obj) : (w.alloc o).heap[w.heap.size]? = some o := heap_alloc_new w o
/-- The streams are as they were, and no block has gone. -/
structure Strm (w w' : World) : Prop where
  os : w'.os = w.os
  tape : w'.tape = w.tape
  output : w'.output = w.output
  size : w.heap.size ≤ w'.heap.size
theorem Strm.refl (w : World) : Strm w w := ⟨rfl, rfl, rfl, Nat.le_refl _⟩
theorem Strm.trans {a b c : World} (h : Strm a b) (k : Strm b c) : Strm a c := ⟨k.os.trans h.os, k.tape.trans h.tape, k.output.trans h.output, Nat.le_trans h.size k.size⟩
theorem Strm.alloc {a w : World} (h : Strm a w) (o : Obj) : Strm a (w.alloc o) := h.trans ⟨rfl, rfl, rfl, by simp⟩
theorem Strm.set {a w : World} (h : Strm a w) (p : Addr) (v : Value) : Strm a (w.setCell p v) := h.trans ⟨rfl, rfl, rfl, by simp [World.setCell]⟩
theorem Strm.drew {a w : World} (h : Strm a w) : Strm a w.drew := ⟨h.os, h.tape, h.output, h.size⟩
theorem Strm.drewN {a w : World} (h : Strm a w) (n : Nat) : Strm a (w.drewN n) := h.trans ⟨rfl, rfl, rfl, Nat.le_refl _⟩
theorem Strm.below {B : Nat} {a w : World} (h : Below B a w) : Strm a w := ⟨h.os, h.tape, h.output, h.size⟩

/-- All that lay below block B. -/
def old (B : Nat) (w : World) : HProp := fun h => ∀ b, h b = if b < B then w.heap[b]? else none
theorem holds_old (B : Nat) (w : World) : Holds w (old B w) := by
  refine ⟨fun b => if b < B then w.heap[b]? else none, fun b o hb => ?_, fun _ => rfl⟩
  by_cases e : b < B <;> simp [e] at hb; exact hb
theorem Holds.below {B : Nat} {w w' : World} (H : Holds w' (old B w)) (hB : B ≤ w.heap.size) (s : Strm w w') : Below B w w' := by
  obtain ⟨h, a, p⟩ := H
  refine ⟨s.os, s.tape, s.output, s.size, fun k hk => ?_⟩
  have hlt : k < w.heap.size := by omega
  have e := p k
  rw [if_pos hk, Array.getElem?_eq_getElem hlt] at e
  rw [a k _ e, Array.getElem?_eq_getElem hlt]
/-- What holds holds still where nothing that was there has turned. -/
theorem Holds.kept {w w' : World} {P : HProp} (H : Holds w P) (h : Below w.heap.size w w') : Holds w' P := by
  obtain ⟨hp, a, p⟩ := H
  refine ⟨hp, fun b o hb => ?_, p⟩
  rw [h.block b (lt_of_block (a b o hb))]; exact a b o hb
theorem Holds.drewN {w : World} {P : HProp} (H : Holds w P) (n : Nat) : Holds (w.drewN n) P := H
end Go.Proofs.Ytmmpnjcmaodkcaa.Sep
