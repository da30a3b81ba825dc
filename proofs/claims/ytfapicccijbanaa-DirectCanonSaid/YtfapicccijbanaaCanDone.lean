/- What is proved: what a Swap that knows of moved objects comes to, alone, over the memory that the statements lay. Conditions: stated with each. -/
import Derived.Test.YtfapicccijbanaaCanLaw
namespace Go.Proofs.Ytfapicccijbanaa.Mem
open Go Go.RowKit Go.Proofs.Ytfapicccijbanaa.Sep Go.Proofs.Ytfapicccijbanaa.Num
set_option maxRecDepth 100000
set_option linter.unusedVariables false
set_option linter.unusedSimpArgs false
theorem swapped_hit (S : DS) (M : MS) (hc : M.casOk S.fld S.w = true) : S.swapped M = ({ S with hit := true, yes := true, k := .fin }, M.cas S.fld S.w (sW S.nk S.nn)) := by
  unfold DS.swapped
  rw [if_pos hc]
theorem swapped_lost (S : DS) (M : MS) (hc : M.casOk S.fld S.w = false) : S.swapped M = ({ S with k := .look }, M.cas S.fld S.w (sW S.nk S.nn)) := by
  unfold DS.swapped
  rw [if_neg (by simp [hc])]
/-- A Swap of the first field. -/
def swS (ca : Bool) (ek en nk nn w : Int) (h y : Bool) (k : DK) : DS := ⟨k, 97, 3, 96, 0, ek, en, nk, nn, false, ca, false, 0, w, h, 0, 0, 0, y⟩
section
variable (ca : Bool) (ek en nk nn w : Int) (h y : Bool)
theorem sw_new : DS.new 96 3 96 0 ek en nk nn false ca false 0 = swS ca ek en nk nn 0 false false .look := rfl
theorem sw_look (M : MS) : (swS ca ek en nk nn w h y .look).qstep M = (swS ca ek en nk nn (M.load 97) true y (if vK (M.load 97) = ek ∧ vN (M.load 97) = en then .swap else if (ca && farB (vK (M.load 97)) (vN (M.load 97))) && farB ek en then .canA (vK (M.load 97)) (vN (M.load 97)) else .fin), M.loaded 97) := by
  unfold swS
  simp only [DS.qstep, DS.off, DS.looked, DS.saw]
  rw [shadeK2_off _ _ _ _ _ _ rfl]
  rfl
theorem sw_swap (M : MS) (hc : M.casOk 97 w = true) : (swS ca ek en nk nn w h y .swap).qstep M = (swS ca ek en nk nn w true true .fin, M.cas 97 w (sW nk nn)) :=
  swapped_hit (swS ca ek en nk nn w false y .swap) M hc
theorem sw_lost (M : MS) (hc : M.casOk 97 w = false) : (swS ca ek en nk nn w h y .swap).qstep M = (swS ca ek en nk nn w false y .look, M.cas 97 w (sW nk nn)) :=
  swapped_lost (swS ca ek en nk nn w false y .swap) M hc
theorem sw_canA (M : MS) (a b : Int) : (swS ca ek en nk nn w h y (.canA a b)).qstep M = (swS ca ek en nk nn w false y (.canB (hMoved (M.load b) b)), M.loaded b) := rfl
theorem sw_canB (M : MS) (c : Int) : (swS ca ek en nk nn w h y (.canB c)).qstep M = (swS ca ek en nk nn w false y (if hMoved (M.load en) en = c then .swap else .fin), M.loaded en) := by
  unfold swS
  simp only [DS.qstep, DS.off, DS.canned]
  rw [shadeK2_off _ _ _ _ _ _ rfl]
  rfl
end
/-- Are they the same object, by the words that were laid? -/
def canSame (tags : List Int) (l : List (Int × Int)) (a b ek en : Int) : Bool :=
  if farB a b = true ∧ farB ek en = true then decide (hMoved (laidAt tags l b.toNat) b = hMoved (laidAt tags l en.toNat) en) else decide (a = ek ∧ b = en)
theorem canon_done (tags : List Int) (l : List (Int × Int)) (a b ek en nk nn : Int) (ga : Good a b) (ge : Good ek en) (hab : fldAt l 0 = (a, b)) (M : MS) (hM : Mi tags l 0 M) :
    (qit (swS true ek en nk nn 0 false false .look) M 6).1.k = .fin ∧ (qit (swS true ek en nk nn 0 false false .look) M 6).1.result = .agg #[.int .i64 0, .int .i64 0, .int .i64 0, .bool (canSame tags l a b ek en)] ∧
    (qit (swS true ek en nk nn 0 false false .look) M 6).2.load 97 = if canSame tags l a b ek en then sW nk nn else sW a b := by
  have ld : ∀ k (N : MS), Mi tags l k N → N.load 97 = sW a b := fun k N h => by
    have := mi_fld h 0 0 (by omega) (by omega)
    simpa [hab] using this
  have hd : ∀ k (N : MS) (x : Int), Mi tags l k N → (∃ i : Nat, i < 16 ∧ x = 96 + 4 * (i : Int)) → hMoved (N.load x) x = hMoved (laidAt tags l x.toNat) x := by
    rintro k N x h ⟨i, hi, rfl⟩
    rw [mi_head h i hi, show (96 + 4 * (i : Int)).toNat = 96 + 4 * i by omega]
  have th : ∀ k (N : MS), Mi tags l k N → N.there 97 = true := fun k N h => by rw [there_iff, h.ws, laidTo_len]; omega
  have s1 : qit (swS true ek en nk nn 0 false false .look) M 1 = (swS true ek en nk nn (sW a b) true false (if a = ek ∧ b = en then .swap else if farB a b && farB ek en then .canA a b else .fin), M.loaded 97) := by
    show (swS true ek en nk nn 0 false false .look).qstep M = _
    rw [sw_look, ld 0 M hM, ga.vK, ga.vN, Bool.true_and]
  have m1 := hM.loaded 97
  have done : ∀ n (S : DS) (N : MS), n ≤ 6 → qit (swS true ek en nk nn 0 false false .look) M n = (S, N) → S.k = .fin → qit (swS true ek en nk nn 0 false false .look) M 6 = (S, N) := fun n S N hn h hk => by
    have := qit_fin (S := swS true ek en nk nn 0 false false .look) (M := M) (n := n) (by rw [h]; exact hk) (6 - n)
    rw [show n + (6 - n) = 6 by omega, h] at this
    exact this
  by_cases heq : a = ek ∧ b = en
  · rw [if_pos heq] at s1
    have s2 : qit (swS true ek en nk nn 0 false false .look) M 2 = (swS true ek en nk nn (sW a b) true true .fin, (M.loaded 97).cas 97 (sW a b) (sW nk nn)) := by
      show (qit (swS true ek en nk nn 0 false false .look) M 1).1.qstep _ = _
      rw [s1, sw_swap _ _ _ _ _ _ _ _ _ (cas_there (x := 0) (th 1 _ m1) (ld 1 _ m1)).1]
    have hs : canSame tags l a b ek en = true := by
      unfold canSame
      rw [heq.1, heq.2]; simp
    rw [done 2 _ _ (by omega) s2 rfl, hs, if_pos rfl]
    exact ⟨rfl, rfl, (cas_there (th 1 _ m1) (ld 1 _ m1)).2⟩
  · rw [if_neg heq] at s1
    by_cases hf : farB a b = true ∧ farB ek en = true
    · rw [hf.1, hf.2, Bool.and_true, if_pos rfl] at s1
      obtain ⟨c, hc⟩ : ∃ c, hMoved (laidAt tags l b.toNat) b = c := ⟨_, rfl⟩
      obtain ⟨e, he⟩ : ∃ c, hMoved (laidAt tags l en.toNat) en = c := ⟨_, rfl⟩
      have s2 : qit (swS true ek en nk nn 0 false false .look) M 2 = (swS true ek en nk nn (sW a b) false false (.canB c), (M.loaded 97).loaded b) := by
        show (qit (swS true ek en nk nn 0 false false .look) M 1).1.qstep _ = _
        rw [s1, sw_canA, hd 1 _ b m1 (ga.far hf.1), hc]
      have m2 := m1.loaded b
      have s3 : qit (swS true ek en nk nn 0 false false .look) M 3 = (swS true ek en nk nn (sW a b) false false (if e = c then .swap else .fin), ((M.loaded 97).loaded b).loaded en) := by
        show (qit (swS true ek en nk nn 0 false false .look) M 2).1.qstep _ = _
        rw [s2, sw_canB, hd 2 _ en m2 (ge.far hf.2), he]
      have m3 := m2.loaded en
      unfold canSame
      rw [if_pos hf, hc, he]
      by_cases hce : e = c
      · rw [if_pos hce] at s3
        have s4 : qit (swS true ek en nk nn 0 false false .look) M 4 = (swS true ek en nk nn (sW a b) true true .fin, (((M.loaded 97).loaded b).loaded en).cas 97 (sW a b) (sW nk nn)) := by
          show (qit (swS true ek en nk nn 0 false false .look) M 3).1.qstep _ = _
          rw [s3, sw_swap _ _ _ _ _ _ _ _ _ (cas_there (x := 0) (th 3 _ m3) (ld 3 _ m3)).1]
        rw [done 4 _ _ (by omega) s4 rfl, decide_eq_true hce.symm, if_pos rfl]
        exact ⟨rfl, rfl, (cas_there (th 3 _ m3) (ld 3 _ m3)).2⟩
      · rw [if_neg hce] at s3
        rw [done 3 _ _ (by omega) s3 rfl, decide_eq_false (fun h => hce h.symm), if_neg (by simp)]
        exact ⟨rfl, rfl, ld 3 _ m3⟩
    · rw [if_neg (by simpa using hf)] at s1
      unfold canSame
      rw [if_neg hf, decide_eq_false heq, if_neg (by simp), done 1 _ _ (by omega) s1 rfl]
      exact ⟨rfl, rfl, ld 1 _ m1⟩
theorem qi_new (ca : Bool) (ek en nk nn : Int) (c : Nat) (M : MS) (h : Mo c M) : QI c (swS ca ek en nk nn 0 false false .look) M := ⟨h, rfl, rfl, by show (0 : Int) ≤ 0; omega, by show (0 : Int) < _; omega⟩
end Go.Proofs.Ytfapicccijbanaa.Mem
