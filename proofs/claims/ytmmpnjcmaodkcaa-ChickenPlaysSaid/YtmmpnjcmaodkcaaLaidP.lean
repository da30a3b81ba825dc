/- What is proved: the plain side of the memory that the statements of layer 12 lay: 160 words, 16 objects of three fields. Conditions: none. -/
import Derived.Test.YtmmpnjcmaodkcaaBits
namespace Go.Proofs.Ytmmpnjcmaodkcaa.Num
open Go
/-- What a value of the statements is: a scalar below 1000, nil, or one of 16 objects. -/
def opVal (k n : Int) : Int × Int := if kindOf k 2 = 0 then (0, kindOf n 1000) else if kindOf n 17 = 16 then (1, 0) else (1, 96 + 4 * kindOf n 17)
/-- Was the object i moved? -/
def tagged (tags : List Int) (i : Nat) : Bool := decide (i < 8) && (decide (i < tags.length) && decide (kindOf (tags.getD i 0) 3 = 2))
def headAt (tags : List Int) (i : Nat) : HV := ⟨1, 0, 3, 0, 0, if tagged tags i then 2 else 0, if tagged tags i then 96 + 4 * ((i : Int) + 8) else 0⟩
/-- What the field f of the object i has: kind, number. -/
def fldAt (l : List (Int × Int)) (j : Nat) : Int × Int := if j < l.length then opVal (l.getD j (0, 0)).1 (l.getD j (0, 0)).2 else (0, 0)
/-- The word a. -/
def laidAt (tags : List Int) (l : List (Int × Int)) (a : Nat) : Int :=
  if a < 96 then 0 else if (a - 96) % 4 = 0 then (headAt tags ((a - 96) / 4)).w else
    sW (fldAt l (3 * ((a - 96) / 4) + ((a - 96) % 4 - 1))).1 (fldAt l (3 * ((a - 96) / 4) + ((a - 96) % 4 - 1))).2
/-- The words when those below b are laid. -/
def laidTo (tags : List Int) (l : List (Int × Int)) (b : Nat) : List Int := (List.range 160).map fun a => if a < b then laidAt tags l a else 0
theorem laidTo_len (tags : List Int) (l : List (Int × Int)) (b : Nat) : (laidTo tags l b).length = 160 := by simp [laidTo]
theorem laidTo_start (tags : List Int) (l : List (Int × Int)) : laidTo tags l 96 = List.replicate 160 0 := by
  unfold laidTo
  apply List.ext_getElem
  · simp
  · intro i h1 h2
    simp only [List.getElem_map, List.getElem_range, List.getElem_replicate]
    by_cases h : i < 96
    · rw [if_pos h]; unfold laidAt; rw [if_pos h]
    · rw [if_neg h]
theorem laidTo_set (tags : List Int) (l : List (Int × Int)) (b : Nat) : (laidTo tags l b).set b (laidAt tags l b) = laidTo tags l (b + 1) := by
  unfold laidTo
  apply List.ext_getElem
  · simp
  · intro i h1 h2
    rw [List.getElem_set]
    simp only [List.getElem_map, List.getElem_range]
    by_cases h : b = i
    · subst h; rw [if_pos rfl, if_pos (by omega)]
    · rw [if_neg h]
      by_cases h' : i < b
      · rw [if_pos h', if_pos (by omega)]
      · rw [if_neg h', if_neg (by omega)]
theorem laidAt_head (tags : List Int) (l : List (Int × Int)) (i : Nat) : laidAt tags l (96 + 4 * i) = (headAt tags i).w := by
  unfold laidAt
  rw [if_neg (by omega), if_pos (by omega), show (96 + 4 * i - 96) / 4 = i by omega]
theorem laidAt_fld (tags : List Int) (l : List (Int × Int)) (i f : Nat) (hf : f < 3) : laidAt tags l (97 + 4 * i + f) = sW (fldAt l (3 * i + f)).1 (fldAt l (3 * i + f)).2 := by
  unfold laidAt
  rw [if_neg (by omega), if_neg (by omega), show (97 + 4 * i + f - 96) / 4 = i by omega, show (97 + 4 * i + f - 96) % 4 - 1 = f by omega]
theorem laidAt_rng (tags : List Int) (l : List (Int × Int)) (a : Nat) : 0 ≤ laidAt tags l a ∧ laidAt tags l a < 18446744073709551616 := by
  unfold laidAt
  by_cases h : a < 96
  · rw [if_pos h]; omega
  · rw [if_neg h]
    by_cases h' : (a - 96) % 4 = 0
    · rw [if_pos h']; have := HV.w_lo (headAt tags ((a - 96) / 4)); have := HV.w_hi (headAt tags ((a - 96) / 4)); omega
    · rw [if_neg h']; exact ⟨sW_lo _ _, sW_hi _ _⟩
theorem laidTo_rng (tags : List Int) (l : List (Int × Int)) (b : Nat) : ∀ x, x ∈ laidTo tags l b → 0 ≤ x ∧ x < 18446744073709551616 := by
  intro x hx
  unfold laidTo at hx
  rw [List.mem_map] at hx
  obtain ⟨a, _, rfl⟩ := hx
  by_cases h : a < b
  · simp only [if_pos h]; exact laidAt_rng tags l a
  · simp only [if_neg h]; omega
end Go.Proofs.Ytmmpnjcmaodkcaa.Num
