/- What is proved: arguments of a statement that lie in what was there before, as rows in the second evaluator. Conditions: that they can be read. -/
import Derived.Test.YtmmpnjcmaodkcaaTo
import Derived.Test.YtmmpnjcmaodkcaaOpen
namespace Go.Proofs.Ytmmpnjcmaodkcaa.Ef
open Go Go.RowKit Go.Proofs.Ytmmpnjcmaodkcaa.Sep Go.Proofs.Ytmmpnjcmaodkcaa.Num Go.Proofs.Ytmmpnjcmaodkcaa.Mem
set_option linter.unusedVariables false
def flat2 : List (Int × Int) → List Int
  | [] => []
  | (a, b) :: r => a :: b :: flat2 r
theorem flat2_len : ∀ l, (flat2 l).length = l.length * 2
  | [] => rfl
  | (a, b) :: r => by simp [flat2, flat2_len r]; omega
theorem flat2_get : ∀ (l : List (Int × Int)) (i : Nat), (flat2 l).getD (i * 2) 0 = (l.getD i (0, 0)).1 ∧ (flat2 l).getD (i * 2 + 1) 0 = (l.getD i (0, 0)).2
  | [], i => by simp [flat2]
  | (a, b) :: r, 0 => by simp [flat2]
  | (a, b) :: r, i + 1 => by
    have := flat2_get r i
    rw [show (i + 1) * 2 = i * 2 + 1 + 1 by omega]
    simpa [flat2] using this
theorem flat2_mem {x : Int} : ∀ {l : List (Int × Int)}, x ∈ flat2 l → ∃ p ∈ l, x = p.1 ∨ x = p.2
  | [], h => by cases h
  | (a, b) :: r, h => by
    rcases List.mem_cons.1 h with rfl | h
    · exact ⟨_, List.mem_cons_self .., .inl rfl⟩
    · rcases List.mem_cons.1 h with rfl | h
      · exact ⟨_, List.mem_cons_self .., .inr rfl⟩
      · obtain ⟨p, hp, e⟩ := flat2_mem h
        exact ⟨p, List.mem_cons_of_mem _ hp, e⟩
/-- A slice's value, its row: of no element, at any address. -/
structure RowAt (w : World) (v : Value) (l : List Int) (len st : Int) (i off : Int) (cap b : Nat) (ao : Option Addr) : Prop where
  v : v = .slice (if len ≤ 0 then ao else some ⟨b, off.toNat, none⟩) len.toNat cap
  i : len ≤ 0 → off = i
  r : RowOk w w.heap.size l off len st b
theorem ints_row {w : World} {v : Value} {xs : List Int} (h : IntsAt w v xs) (i : Nat) : ∃ (off : Int) (cap b : Nat) (ao : Option Addr), RowAt w v xs xs.length 1 i off cap b ao := by
  obtain ⟨ao, cap, rfl, hr, hc⟩ := h
  by_cases hx : xs = []
  · subst hx
    exact ⟨i, cap, 0, ao, ⟨by simp, fun _ => rfl, ⟨by omega, by simp, .inr (by simp), fun j hj => by simp at hj, fun x hx => by cases hx⟩⟩⟩
  · rcases hc with hc | ⟨b, off, rfl, hc⟩
    · exact absurd hc hx
    · have hp : 0 < xs.length := List.length_pos_iff.2 hx
      refine ⟨off, cap, b, none, ⟨?_, fun h => by omega, ⟨by omega, by omega, .inl ?_, fun j hj => ?_, hr⟩⟩⟩
      · rw [if_neg (by omega)]; simp
      · exact World.block_lt_of_cell? w _ (hc 0 hp)
      · simpa using hc j hj
theorem vals_row {w : World} {v : Value} {xs : List (Int × Int)} (h : ValsAt w v xs) (i : Nat) : ∃ (off : Int) (cap b : Nat) (ao : Option Addr), RowAt w v (flat2 xs) xs.length 2 i off cap b ao := by
  obtain ⟨ao, cap, rfl, hr, hc⟩ := h
  by_cases hx : xs = []
  · subst hx
    exact ⟨i, cap, 0, ao, ⟨by simp, fun _ => rfl, ⟨by omega, by simp [flat2], .inr (by simp), fun j hj => by simp [flat2] at hj, fun x hx => by cases hx⟩⟩⟩
  · rcases hc with hc | ⟨b, off, rfl, hc⟩
    · exact absurd hc hx
    · have hp : 0 < xs.length := List.length_pos_iff.2 hx
      refine ⟨off, cap, b, none, ⟨?_, fun h => by omega, ⟨by omega, by rw [flat2_len]; omega, .inl ?_, fun j hj => ?_, fun x hx => ?_⟩⟩⟩
      · rw [if_neg (by omega)]; simp
      · exact World.block_lt_of_cell? w _ (hc 0 hp).1
      · rw [flat2_len] at hj
        have hq : j / 2 < xs.length := by omega
        obtain ⟨c1, c2⟩ := hc (j / 2) hq
        obtain ⟨g1, g2⟩ := flat2_get xs (j / 2)
        show w.cell? ⟨b, off + j, none⟩ = _
        rcases Nat.mod_two_eq_zero_or_one j with hm | hm
        · have e : j / 2 * 2 = j := by omega
          rw [e] at g1 c1
          rw [c1, g1]
        · have e : j / 2 * 2 + 1 = j := by omega
          rw [Nat.add_assoc, e] at c2
          rw [e] at g2
          rw [c2, g2]
      · obtain ⟨p, hp, e⟩ := flat2_mem hx
        have := hr p hp
        rcases e with rfl | rfl
        · exact this.1
        · exact this.2
/-- What the start holds. -/
theorem old_start [Ext] {w : World} {u : UM} {ns : List Nat} (h1 : oldOf u.fst = some (w, w.heap.size)) (h2 : rowsOk w w.heap.size u.snd ns) : Holds w (OldO u ns) := by
  obtain ⟨h, a, p⟩ := holds_old w.heap.size w
  exact ⟨h, a, (w, w.heap.size), ⟨h1, h2⟩, p⟩
theorem old_end [Ext] {w w' : World} {u : UM} {ns : List Nat} {R : HProp} (h1 : oldOf u.fst = some (w, w.heap.size)) (H : Holds w' (OldO u ns * R)) (s : Strm w w') : Below w.heap.size w w' := by
  obtain ⟨⟨w0, B⟩, H⟩ := holds_ex H
  obtain ⟨⟨h2, _⟩, H⟩ := holds_and H
  rw [h1] at h2
  cases h2
  exact H.left.below (Nat.le_refl _) s
end Go.Proofs.Ytmmpnjcmaodkcaa.Ef
