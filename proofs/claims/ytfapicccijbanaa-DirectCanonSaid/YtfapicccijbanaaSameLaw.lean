/- What is proved: the walk of flitlaw12.DirectSame: it returns true for every input that can be read. Conditions: stated as hypotheses. -/
import Derived.Test.YtfapicccijbanaaShown
namespace Go.Proofs.Ytfapicccijbanaa.Mem
open Go Go.RowKit Go.Proofs.Ytfapicccijbanaa.Sep Go.Proofs.Ytfapicccijbanaa.Num
set_option maxRecDepth 100000
set_option linter.unusedVariables false
set_option linter.unusedSimpArgs false
/-- An address of the statements: nil, or one of 16 objects. -/
def addrOf (n : Int) : Int := (opVal 1 n).2
theorem addrOf_eq (n : Int) : addrOf n = if kindOf n 17 = 16 then 0 else 96 + 4 * kindOf n 17 := by
  unfold addrOf opVal
  rw [if_neg (by decide)]
  split <;> rfl
theorem addrOf_cases (n : Int) : addrOf n = 0 ∨ ∃ i : Nat, i < 16 ∧ addrOf n = 96 + 4 * (i : Int) := by
  rw [addrOf_eq]
  have h0 := kindOf_lo n 17 (by omega)
  have h1 := kindOf_hi n 17 (by omega)
  by_cases h : kindOf n 17 = 16
  · left; rw [if_pos h]
  · right; refine ⟨(kindOf n 17).toNat, by omega, ?_⟩; rw [if_neg h]; omega
/-- Where the object at an address is, by the words that were laid. -/
def whereIs (tags : List Int) (a : Int) : Int := hMoved (laidAt tags [] a.toNat) a
theorem laidM_load (tags : List Int) (l : List (Int × Int)) (M : MS) (hw : M.ws = laidTo tags l 160) (a : Nat) (h : a < 160) : M.load a = laidAt tags l a := by
  have ht : M.there a = true := by rw [there_iff, hw, laidTo_len]; omega
  unfold MS.load MS.get
  rw [if_pos ht, hw]
  simp [laidTo, h]
/-- What two machines over the same two addresses come to behind two rounds of steps. -/
theorem same_two_rounds (tags : List Int) (p q : Int) (hp : p = 0 ∨ ∃ i : Nat, i < 16 ∧ p = 96 + 4 * (i : Int)) (hq : q = 0 ∨ ∃ i : Nat, i < 16 ∧ q = 96 + 4 * (i : Int)) (M : MS) (hw : M.ws = laidTo tags [] 160) :
    ∀ (N : MS), N.ws = laidTo tags [] 160 → ((sameNew p q).step M).1.step N = (⟨.fin, if p ≠ 0 ∧ q ≠ 0 then decide (whereIs tags p = whereIs tags q) else decide (p = q)⟩, (((sameNew p q).step M).1.step N).2) := by
  intro N hN
  have hl : ∀ (K : MS), K.ws = laidTo tags [] 160 → ∀ x : Int, (∃ i : Nat, i < 16 ∧ x = 96 + 4 * (i : Int)) → hMoved (K.load x) x = whereIs tags x := by
    rintro K hK x ⟨i, hi, rfl⟩
    unfold whereIs
    rw [show (96 + 4 * (i : Int)) = ((96 + 4 * i : Nat) : Int) by omega, laidM_load tags [] K hK _ (by omega), Int.toNat_natCast]
  unfold sameNew
  by_cases h : p = q ∨ p = 0 ∨ q = 0
  · rw [if_pos h]
    simp only [SS.step]
    by_cases hh : p ≠ 0 ∧ q ≠ 0
    · have e : p = q := by rcases h with h | h | h; exact h; exact absurd h hh.1; exact absurd h hh.2
      rw [if_pos hh, e]; simp
    · rw [if_neg hh]
  · rw [if_neg h]
    have hp' := hp.resolve_left (fun e => h (Or.inr (Or.inl e)))
    have hq' := hq.resolve_left (fun e => h (Or.inr (Or.inr e)))
    simp only [SS.step]
    rw [if_pos ⟨fun e => h (Or.inr (Or.inl e)), fun e => h (Or.inr (Or.inr e))⟩, hl M hw p hp', hl N hN q hq']
    congr 2
    exact decide_eq_decide.2 eq_comm
/-- A memory with the words that were laid, behind k accesses more. -/
structure Mi (tags : List Int) (l : List (Int × Int)) (k : Nat) (M : MS) : Prop where
  ws : M.ws = laidTo tags l 160
  cnt : M.cnt ≤ 64 + k
  tr : M.tr ≤ k
  n : M.n ≤ 64 + k
theorem Mi.ok {tags : List Int} {l : List (Int × Int)} {k : Nat} {M : MS} (h : Mi tags l k M) (hk : k < 1000000) : M.ok := by
  refine ⟨by rw [h.ws, laidTo_len]; omega, by rw [h.ws]; exact fun x hx => laidTo_rng tags l 160 x hx, ?_, ?_, ?_⟩
  · have := h.cnt; omega
  · have := h.tr; omega
  · have := h.n; omega
theorem Mi.loaded {tags : List Int} {l : List (Int × Int)} {k : Nat} {M : MS} (h : Mi tags l k M) (a : Int) : Mi tags l (k + 1) (M.loaded a) := by
  have h2 := h.cnt; have h3 := h.tr; have h4 := h.n
  refine ⟨h.ws, ?_, ?_, ?_⟩ <;> simp only [MS.loaded, MS.acc] <;> (try split) <;> omega
theorem Mi.succ {tags : List Int} {l : List (Int × Int)} {k : Nat} {M : MS} (h : Mi tags l k M) : Mi tags l (k + 1) M := by
  have h2 := h.cnt; have h3 := h.tr; have h4 := h.n
  exact ⟨h.ws, by omega, by omega, by omega⟩
theorem Mi.sstep {tags : List Int} {l : List (Int × Int)} {k : Nat} {M : MS} (h : Mi tags l k M) (S : SS) : Mi tags l (k + 1) (S.step M).2 := by
  obtain ⟨kk, y⟩ := S
  cases kk <;> simp only [SS.step]
  · exact h.succ
  · exact h.loaded _
  · exact h.loaded _
theorem mi_start (tags : List Int) (l : List (Int × Int)) : Mi tags l 0 (laidM tags l 64) := ⟨rfl, by simp [laidM], by simp [laidM], by simp [laidM]⟩
theorem block_old {B : Nat} {w w' : World} (H : Holds w' (old B w)) (hB : B ≤ w.heap.size) (b : Nat) (hb : b < B) : w'.heap[b]? = w.heap[b]? := by
  obtain ⟨h, a, p⟩ := H
  have hlt : b < w.heap.size := by omega
  have e := p b
  rw [if_pos hb, Array.getElem?_eq_getElem hlt] at e
  rw [a b _ e, Array.getElem?_eq_getElem hlt]
theorem cell_old {w w' : World} (H : Holds w' (old w.heap.size w)) {b i : Nat} {v : Value} (h : w.cell? ⟨b, i, none⟩ = some v) : w'.cell? ⟨b, i, none⟩ = some v := by
  rw [← h]
  exact World.cell?_of_block (w := w) (a := ⟨b, i, none⟩) (block_old H (Nat.le_refl _) b (World.block_lt_of_cell? w _ h))
theorem ints_old {w w' : World} {v : Value} {xs : List Int} (h : IntsAt w v xs) (H : Holds w' (old w.heap.size w)) : IntsAt w' v xs := by
  obtain ⟨ao, cap, e, hr, hc⟩ := h
  refine ⟨ao, cap, e, hr, ?_⟩
  rcases hc with hc | ⟨b, off, e2, hc⟩
  · exact Or.inl hc
  · exact Or.inr ⟨b, off, e2, fun i hi => cell_old H (hc i hi)⟩
theorem vals_old {w w' : World} {v : Value} {xs : List (Int × Int)} (h : ValsAt w v xs) (H : Holds w' (old w.heap.size w)) : ValsAt w' v xs := by
  obtain ⟨ao, cap, e, hr, hc⟩ := h
  refine ⟨ao, cap, e, hr, ?_⟩
  rcases hc with hc | ⟨b, off, e2, hc⟩
  · exact Or.inl hc
  · exact Or.inr ⟨b, off, e2, fun i hi => ⟨cell_old H (hc i hi).1, cell_old H (hc i hi).2⟩⟩
theorem vals_nil (w : World) : ValsAt w (.slice none 0 0) [] := ⟨none, 0, rfl, by simp, Or.inl rfl⟩
end Go.Proofs.Ytfapicccijbanaa.Mem
