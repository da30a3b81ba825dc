/- What is proved: Directs that do not shade, and their steps over the memory that the statements lay. Conditions: stated with each. -/
import Derived.Test.YtfapicccijbanaaDirE
import Derived.Test.YtfapicccijbanaaFixLaw
namespace Go.Proofs.Ytfapicccijbanaa.Mem
open Go Go.RowKit Go.Proofs.Ytfapicccijbanaa.Sep Go.Proofs.Ytfapicccijbanaa.Num
set_option maxRecDepth 100000
set_option linter.unusedVariables false
set_option linter.unusedSimpArgs false
/-- A memory of 160 words, behind c accesses more than it was laid with. -/
structure Mo (c : Nat) (M : MS) : Prop where
  len : M.ws.length = 160
  rng : ∀ x, x ∈ M.ws → 0 ≤ x ∧ x < 18446744073709551616
  cnt : M.cnt ≤ 64 + c
  tr : M.tr ≤ c
  n : M.n ≤ 64 + c
theorem Mo.ok {c : Nat} {M : MS} (h : Mo c M) (hc : c < 1000000) : M.ok := by
  refine ⟨by rw [h.len]; omega, h.rng, ?_, ?_, ?_⟩
  · have := h.cnt; omega
  · have := h.tr; omega
  · have := h.n; omega
theorem Mo.succ {c : Nat} {M : MS} (h : Mo c M) : Mo (c + 1) M := ⟨h.len, h.rng, by have := h.cnt; omega, by have := h.tr; omega, by have := h.n; omega⟩
theorem Mo.acc {c : Nat} {M : MS} (h : Mo c M) (b : Bool) : Mo (c + 1) (M.acc b) := by
  have h2 := h.cnt; have h3 := h.tr; have h4 := h.n
  refine ⟨h.len, h.rng, ?_, ?_, ?_⟩ <;> simp only [MS.acc] <;> (try split) <;> omega
theorem Mo.set {c : Nat} {M : MS} (h : Mo c M) (i : Nat) (x : Int) (h0 : 0 ≤ x) (h1 : x < 18446744073709551616) : Mo c { M with ws := M.ws.set i x } := by
  refine ⟨by simp [h.len], fun y hy => ?_, h.cnt, h.tr, h.n⟩
  rcases List.mem_or_eq_of_mem_set hy with hy | rfl
  · exact h.rng y hy
  · exact ⟨h0, h1⟩
theorem Mo.loaded {c : Nat} {M : MS} (h : Mo c M) (a : Int) : Mo (c + 1) (M.loaded a) := h.acc _
theorem Mo.store {c : Nat} {M : MS} (h : Mo c M) (a x : Int) (h0 : 0 ≤ x) (h1 : x < 18446744073709551616) : Mo (c + 1) (M.store a x) := by
  unfold MS.store MS.put
  by_cases hh : M.there a = true
  · rw [if_pos hh]; exact (h.set _ _ h0 h1).acc _
  · rw [if_neg hh]; exact h.acc _
theorem Mo.cas {c : Nat} {M : MS} (h : Mo c M) (a o x : Int) (h0 : 0 ≤ x) (h1 : x < 18446744073709551616) : Mo (c + 1) (M.cas a o x) := by
  unfold MS.cas
  by_cases hh : M.casOk a o = true
  · rw [if_pos hh]; exact (h.set _ _ h0 h1).acc _
  · rw [if_neg hh]; exact h.acc _
theorem Mo.load {c : Nat} {M : MS} (h : Mo c M) (a : Int) : 0 ≤ M.load a ∧ M.load a < 18446744073709551616 := by
  unfold MS.load MS.get
  by_cases ht : M.there a = true
  · rw [if_pos ht]
    obtain ⟨g0, g1⟩ := (there_iff M a).1 ht
    have hl : a.toNat < M.ws.length := by omega
    rw [List.getD_eq_getElem?_getD, List.getElem?_eq_getElem hl, Option.getD_some]
    exact h.rng _ (List.getElem_mem hl)
  · rw [if_neg ht]; omega
theorem Mi.mo {tags : List Int} {l : List (Int × Int)} {k : Nat} {M : MS} (h : Mi tags l k M) : Mo k M :=
  ⟨by rw [h.ws, laidTo_len], by rw [h.ws]; exact fun x hx => laidTo_rng tags l 160 x hx, h.cnt, h.tr, h.n⟩
/-- One that does not shade, and its memory. -/
structure QI (c : Nat) (S : DS) (M : MS) : Prop where
  mo : Mo c M
  sh : S.sh = false
  qu : S.k.qu = true
  w0 : 0 ≤ S.w
  w1 : S.w < 18446744073709551616
theorem shadeK2_off (S : DS) (wr : Bool) (a b c d : Int) (h : S.sh = false) : shadeK2 S wr a b c d = thenK wr := by
  unfold shadeK2 shadeK1
  rw [h]; simp
theorem QI.step {c : Nat} {S : DS} {M : MS} (h : QI c S M) : QI (c + 1) (S.qstep M).1 (S.qstep M).2 := by
  obtain ⟨mo, sh, qu, w0, w1⟩ := h
  obtain ⟨k, fld, op, at_, rf, ek, en, nk, nn, sh, ca, fx, mark, fw, hit, code, vk, vn, yes⟩ := S
  simp only at sh qu w0 w1
  subst sh
  cases k <;> simp only [DK.qu, Bool.false_eq_true] at qu <;> simp only [DS.qstep, DS.off]
  · exact ⟨mo.succ, rfl, rfl, w0, w1⟩
  · refine ⟨mo.loaded _, rfl, ?_, (mo.load _).1, (mo.load _).2⟩
    simp only [DS.read]; split <;> rfl
  · exact ⟨mo.loaded _, rfl, rfl, w0, w1⟩
  · exact ⟨mo.store _ _ (sW_lo _ _) (sW_hi _ _), rfl, rfl, w0, w1⟩
  · refine ⟨mo.loaded _, rfl, ?_, (mo.load _).1, (mo.load _).2⟩
    simp only [DS.looked]
    split
    · rw [shadeK2_off _ _ _ _ _ _ rfl]; rfl
    · split <;> rfl
  · refine ⟨mo.cas _ _ _ (sW_lo _ _) (sW_hi _ _), ?_, ?_, ?_, ?_⟩ <;> simp only [DS.swapped] <;> split <;> first | rfl | exact w0 | exact w1
  · exact ⟨mo.loaded _, rfl, rfl, w0, w1⟩
  · refine ⟨mo.loaded _, rfl, ?_, w0, w1⟩
    simp only [DS.canned]
    split
    · rw [shadeK2_off _ _ _ _ _ _ rfl]; rfl
    · rfl
def qit (S : DS) (M : MS) : Nat → DS × MS
  | 0 => (S, M)
  | n + 1 => (qit S M n).1.qstep (qit S M n).2
theorem QI.it {c : Nat} {S : DS} {M : MS} (h : QI c S M) : ∀ n, QI (c + n) (qit S M n).1 (qit S M n).2
  | 0 => h
  | n + 1 => (QI.it h n).step
theorem qit_fin {S : DS} {M : MS} {n : Nat} (h : (qit S M n).1.k = .fin) : ∀ j, qit S M (n + j) = qit S M n
  | 0 => rfl
  | j + 1 => by
    show (qit S M (n + j)).1.qstep (qit S M (n + j)).2 = _
    rw [qit_fin h j]
    unfold DS.qstep
    rw [h]
theorem isFin_iff {k : DK} : k.isFin = true ↔ k = .fin := by cases k <;> simp [DK.isFin]
theorem loaded_ws (M : MS) (a : Int) : (M.loaded a).ws = M.ws := rfl
theorem cas_there {M : MS} {a o x : Int} (ht : M.there a = true) (hg : M.load a = o) : M.casOk a o = true ∧ (M.cas a o x).load a = x := by
  have h : M.casOk a o = true := by
    unfold MS.casOk
    unfold MS.load at hg
    rw [if_pos ht] at hg
    simp [ht, hg]
  refine ⟨h, ?_⟩
  unfold MS.cas
  rw [if_pos h]
  obtain ⟨g0, g1⟩ := (there_iff M a).1 ht
  have ht2 : (({ M with ws := M.ws.set a.toNat x } : MS).acc (M.there a)).there a = true := by
    rw [there_iff]; exact ⟨g0, by simpa [MS.acc] using g1⟩
  unfold MS.load MS.get
  rw [if_pos ht2]
  simp only [MS.acc, List.getD_eq_getElem?_getD]
  rw [List.getElem?_set_self (by omega), Option.getD_some]
end Go.Proofs.Ytfapicccijbanaa.Mem
