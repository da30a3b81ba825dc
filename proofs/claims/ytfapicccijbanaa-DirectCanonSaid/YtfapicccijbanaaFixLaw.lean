/- What is proved: a Direct that reads, and its steps over the memory that the statements lay. Conditions: stated with each. -/
import Derived.Test.YtfapicccijbanaaSameLaw
namespace Go.Proofs.Ytfapicccijbanaa.Mem
open Go Go.RowKit Go.Proofs.Ytfapicccijbanaa.Sep Go.Proofs.Ytfapicccijbanaa.Num
set_option maxRecDepth 100000
set_option linter.unusedVariables false
set_option linter.unusedSimpArgs false
def DK.rd : DK → Bool | .fin => true | .read => true | .fix => true | _ => false
def DS.rstep (S : DS) (M : MS) : DS × MS := match S.k with
  | .read => S.off.read M
  | .fix => S.off.fixed M
  | _ => (S, M)
theorem rstep_calls (w : World) (R : HProp) (mb d : Nat) (M : MS) (S : DS) (hok : M.ok) (hk : S.k.rd = true) (H : Holds w (MemP 120 mb M * (DirP d S * R))) :
    Calls Try.prog 13 #[.pointer (some ⟨d, 0, none⟩), .pointer (some ⟨mb, 0, none⟩)] w (StepOf mb d (S.rstep M).1 (S.rstep M).2 R w) := by
  unfold DS.rstep
  cases hkk : S.k <;> rw [hkk] at hk <;> simp only [DK.rd, reduceCtorEq] at hk
  · refine (step_fin w R mb d M S hkk H).mono ?_
    rintro e w' ⟨rfl, H, s⟩
    exact ⟨by show _ = Ending.returned (.bool S.k.isFin); rw [hkk]; rfl, H, s⟩
  · exact step_read w R mb d M S hkk _ _ (fun w R kv H => read_calls w R mb d M S.off kv hok H) H
  · exact step_fix w R mb d M S hkk _ _ (fun w R kv H => fix_calls w R mb d M S.off kv hok H) H
/-- What a field of the statements has. -/
theorem opVal_cases (k n : Int) : ((opVal k n).1 = 0 ∧ 0 ≤ (opVal k n).2 ∧ (opVal k n).2 < 1000) ∨ ((opVal k n).1 = 1 ∧ (opVal k n).2 = 0) ∨ ((opVal k n).1 = 1 ∧ ∃ i : Nat, i < 16 ∧ (opVal k n).2 = 96 + 4 * (i : Int)) := by
  unfold opVal
  have a0 := kindOf_lo n 1000 (by omega)
  have a1 := kindOf_hi n 1000 (by omega)
  have h0 := kindOf_lo n 17 (by omega)
  have h1 := kindOf_hi n 17 (by omega)
  by_cases h : kindOf k 2 = 0
  · rw [if_pos h]; exact Or.inl ⟨rfl, a0, a1⟩
  · rw [if_neg h]
    by_cases h' : kindOf n 17 = 16
    · rw [if_pos h']; exact Or.inr (Or.inl ⟨rfl, rfl⟩)
    · rw [if_neg h']; exact Or.inr (Or.inr ⟨rfl, (kindOf n 17).toNat, by omega, by simp only; omega⟩)
theorem fldAt_cases (l : List (Int × Int)) (j : Nat) : ((fldAt l j).1 = 0 ∧ 0 ≤ (fldAt l j).2 ∧ (fldAt l j).2 < 1000) ∨ ((fldAt l j).1 = 1 ∧ (fldAt l j).2 = 0) ∨ ((fldAt l j).1 = 1 ∧ ∃ i : Nat, i < 16 ∧ (fldAt l j).2 = 96 + 4 * (i : Int)) := by
  unfold fldAt
  by_cases h : j < l.length
  · rw [if_pos h]; exact opVal_cases _ _
  · rw [if_neg h]; exact Or.inl ⟨rfl, by omega, by omega⟩
/-- A value of the statements: what a word tells of it. -/
structure Good (k n : Int) : Prop where
  k0 : 0 ≤ k
  k1 : k ≤ 1
  n0 : 0 ≤ n
  n1 : n < 1000
  far : farB k n = true → ∃ i : Nat, i < 16 ∧ n = 96 + 4 * (i : Int)
theorem good_of {k n : Int} (h : (k = 0 ∧ 0 ≤ n ∧ n < 1000) ∨ (k = 1 ∧ n = 0) ∨ (k = 1 ∧ ∃ i : Nat, i < 16 ∧ n = 96 + 4 * (i : Int))) : Good k n := by
  rcases h with ⟨rfl, a, b⟩ | ⟨rfl, rfl⟩ | ⟨rfl, i, hi, rfl⟩
  · exact ⟨by omega, by omega, a, b, by simp [farB]⟩
  · exact ⟨by omega, by omega, by omega, by omega, by simp [farB]⟩
  · exact ⟨by omega, by omega, by omega, by omega, fun _ => ⟨i, hi, rfl⟩⟩
theorem fldAt_good (l : List (Int × Int)) (j : Nat) : Good (fldAt l j).1 (fldAt l j).2 := good_of (fldAt_cases l j)
theorem opVal_good (k n : Int) : Good (opVal k n).1 (opVal k n).2 := good_of (opVal_cases k n)
theorem Good.vK {k n : Int} (g : Good k n) : vK (sW k n) = k := vK_sW k n g.k0 (by have := g.k1; omega)
theorem Good.vN {k n : Int} (g : Good k n) : vN (sW k n) = n := vN_sW k n g.n0 (by have := g.n1; omega)
theorem mi_fld {tags : List Int} {l : List (Int × Int)} {k : Nat} {M : MS} (h : Mi tags l k M) (i f : Nat) (hi : i < 16) (hf : f < 3) : M.load (96 + 4 * (i : Int) + 1 + f) = sW (fldAt l (3 * i + f)).1 (fldAt l (3 * i + f)).2 := by
  rw [show 96 + 4 * (i : Int) + 1 + f = ((97 + 4 * i + f : Nat) : Int) by omega, laidM_load tags l M h.ws _ (by omega), laidAt_fld _ _ _ _ hf]
theorem mi_head {tags : List Int} {l : List (Int × Int)} {k : Nat} {M : MS} (h : Mi tags l k M) (i : Nat) (hi : i < 16) : M.load (96 + 4 * (i : Int)) = laidAt tags l (96 + 4 * i) := by
  rw [show 96 + 4 * (i : Int) = ((96 + 4 * i : Nat) : Int) by omega, laidM_load tags l M h.ws _ (by omega)]
theorem Mi.rstep {tags : List Int} {l : List (Int × Int)} {k : Nat} {M : MS} (h : Mi tags l k M) (S : DS) : Mi tags l (k + 1) (S.rstep M).2 := by
  unfold DS.rstep
  cases hk : S.k <;> (first | exact h.loaded _ | exact h.succ)
/-- What a reading one is, behind two steps. -/
def rdNum (tags : List Int) (l : List (Int × Int)) (fx : Bool) (k n : Int) : Int := if fx && farB k n then hMoved (laidAt tags l n.toNat) n else n
theorem read_done (tags : List Int) (l : List (Int × Int)) (i f : Nat) (hi : i < 16) (hf : f < 3) (fx : Bool) (k1 k2 : Nat) (M N : MS) (hM : Mi tags l k1 M) (hN : Mi tags l k2 N) (S : DS) (hS : S = DS.new (96 + 4 * (i : Int)) 1 (96 + 4 * (i : Int)) f 0 0 0 0 false false fx 0) :
    (S.rstep M).1.k.rd = true ∧ ((S.rstep M).1.k.isFin = !(fx && farB (fldAt l (3 * i + f)).1 (fldAt l (3 * i + f)).2)) ∧ ((S.rstep M).1.rstep N).1.k = .fin ∧ ((S.rstep M).1.rstep N).1.result = .agg #[.int .i64 0, .int .i64 (fldAt l (3 * i + f)).1, .int .i64 (rdNum tags l fx (fldAt l (3 * i + f)).1 (fldAt l (3 * i + f)).2), .bool false] := by
  subst hS
  have g := fldAt_good l (3 * i + f)
  have e1 : (DS.new (96 + 4 * (i : Int)) 1 (96 + 4 * (i : Int)) f 0 0 0 0 false false fx 0).rstep M = ({ (DS.new (96 + 4 * (i : Int)) 1 (96 + 4 * (i : Int)) f 0 0 0 0 false false fx 0) with w := sW (fldAt l (3 * i + f)).1 (fldAt l (3 * i + f)).2, vk := (fldAt l (3 * i + f)).1, vn := (fldAt l (3 * i + f)).2, hit := true, k := if fx && farB (fldAt l (3 * i + f)).1 (fldAt l (3 * i + f)).2 then .fix else .fin }, M.loaded (96 + 4 * (i : Int) + 1 + f)) := by
    unfold DS.rstep DS.read DS.off DS.new
    simp only [dkNew, if_true, mi_fld hM i f hi hf, g.vK, g.vN]
  generalize hn : (fldAt l (3 * i + f)).1 = a at *
  generalize hb : (fldAt l (3 * i + f)).2 = b at *
  rw [e1]
  unfold rdNum
  cases hc : (fx && farB a b) with
  | true =>
    obtain ⟨j, hj, hbj⟩ := g.far (by simp at hc; exact hc.2)
    refine ⟨rfl, rfl, rfl, ?_⟩
    show DS.result (DS.fixed _ N).1 = _
    unfold DS.fixed DS.result DS.off DS.new
    simp only [DK.isFin, if_true]
    rw [hbj, mi_head hN j hj, show (96 + 4 * (j : Int)).toNat = 96 + 4 * j by omega]
  | false => exact ⟨rfl, rfl, rfl, rfl⟩
end Go.Proofs.Ytfapicccijbanaa.Mem
