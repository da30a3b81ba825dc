/- What is proved: contracts of package head. Conditions: that a word is one of 64 bits. -/
import Derived.Test.YtmmpnjcmaodkcaaNum
import Derived.Test.YtmmpnjcmaodkcaaLaidP
import Derived.Test.YtmmpnjcmaodkcaaSep
namespace Go.Proofs.Ytmmpnjcmaodkcaa.Num
open Go Go.RowKit Go.Proofs.Ytmmpnjcmaodkcaa.Sep
set_option maxRecDepth 100000
set_option linter.unusedVariables false
set_option linter.unusedSimpArgs false
set_option maxHeartbeats 1000000 in
theorem headOf_calls (x : Int) (w : World) (h0 : 0 ≤ x) (h : x < 18446744073709551616) :
    Calls Try.prog 43 #[.int .u64 x] w (Ret w (HV.of x).agg) := by
  obtain ⟨v, hv⟩ : ∃ v, HV.of x = v := ⟨_, rfl⟩
  have Q : Hid (∀ w (b : Nat), w.cell? ⟨b, 0, none⟩ = some (.int .i64 2) → w.cell? ⟨b, 1, none⟩ = some (.int .i64 2) → w.cell? ⟨b, 2, none⟩ = some (.int .i64 3) → w.cell? ⟨b, 3, none⟩ = some (.int .i64 1) →
      w.cell? ⟨b, 4, none⟩ = some (.int .i64 1) → w.cell? ⟨b, 5, none⟩ = some (.int .i64 3) → w.cell? ⟨b, 6, none⟩ = some (.int .i64 12) → b < w.heap.size → Calls Try.prog 64 #[.int .u64 x, .slice (some ⟨b, 0, none⟩) 7 7] w (Ret w (.agg #[.int .i64 v.st, .int .i64 v.cl, .int .i64 v.ct, .int .i64 v.mr, .int .i64 v.gr, .int .i64 v.tg, .int .i64 v.lk]))) := fun w b c0 c1 c2 c3 c4 c5 c6 hb => by
    have := unpack_calls x b w h0 h c0 c1 c2 c3 c4 c5 c6 hb
    rw [hv] at this; exact this
  have hA : Hid ((HV.of x).agg = v.agg) := by show _ = _; rw [hv]
  clear hv
  obtain ⟨a1, a2, a3, a4, a5, a6, a7⟩ := v
  simp only at Q
  go_enter Try.func43, Try.ntmps43
  go_wp2_with (go_at_call 64; refine (Q.out _ (w.heap.size + 1) (by go_simp) (by go_simp) (by go_simp) (by go_simp) (by go_simp) (by go_simp) (by go_simp) (by simp)).mono ?_; rintro e w2 ⟨rfl, hb⟩; have hk := blk_below hb (blk_alloc (blk_new w _)) (by simp; omega); have hc := cells_of hk; have hf := frees_of hk; clear hk; have hz : w.heap.size < w2.heap.size := (by (have := hb.size; simp at this; omega)); have HB : Hid (Below w.heap.size w w2) := ((((Below.refl _ w).alloc (Nat.le_refl _) _).alloc (by simp) _).trans (hb.mono (by simp; omega))); clear hb)

  exact bodyPost_ret (v := .agg #[.int .i64 a1, .int .i64 a2, .int .i64 a3, .int .i64 a4, .int .i64 a5, .int .i64 a6, .int .i64 a7]) (by simp [results, Try.results43, go_sem, hc, hz]) rfl ⟨by rw [hA.out]; rfl, by repeat (with_reducible first | exact HB.out | refine Below.setCell ?_ (by simp) _ | refine Below.alloc ?_ (by simp; omega) _)⟩
set_option maxHeartbeats 1000000 in
theorem headMoved_calls (x a : Int) (w : World) (h0 : 0 ≤ x) (h : x < 18446744073709551616) :
    Calls Try.prog 95 #[.int .u64 x, .int .i64 a] w (Ret w (.int .i64 (hMoved x a))) := by
  obtain ⟨v, hv⟩ : ∃ v, HV.of x = v := ⟨_, rfl⟩
  have Q : Hid (∀ w, Calls Try.prog 43 #[.int .u64 x] w (Ret w (.agg #[.int .i64 v.st, .int .i64 v.cl, .int .i64 v.ct, .int .i64 v.mr, .int .i64 v.gr, .int .i64 v.tg, .int .i64 v.lk]))) := fun w => by
    have := headOf_calls x w h0 h
    rw [hv] at this; exact this
  have HM : Hid (hMoved x a = if v.st = 1 ∧ v.tg = 2 then v.lk else a) := by show _ = _; unfold hMoved; rw [hv]
  clear hv
  obtain ⟨a1, a2, a3, a4, a5, a6, a7⟩ := v
  simp only at Q HM
  by_cases c1 : a1 = 1
  · by_cases c2 : a6 = 2
    · have HM' : Hid (hMoved x a = a7) := by rw [Hid, HM.out, if_pos ⟨c1, c2⟩]
      clear HM
      go_enter Try.func95, Try.ntmps95
      go_wp2_with (go_at_call 43; refine (Q.out _).mono ?_; rintro e w2 ⟨rfl, hb⟩; have HB := (show Hid (Below w.heap.size w w2) from hb); clear hb)
      go_ret
      exact ⟨ret_int HM'.out.symm, HB.out.alloc HB.out.size _⟩
    · have HM' : Hid (hMoved x a = a) := by rw [Hid, HM.out, if_neg (fun h => c2 h.2)]
      clear HM
      go_enter Try.func95, Try.ntmps95
      go_wp2_with (go_at_call 43; refine (Q.out _).mono ?_; rintro e w2 ⟨rfl, hb⟩; have HB := (show Hid (Below w.heap.size w w2) from hb); clear hb)
      go_ret
      exact ⟨ret_int HM'.out.symm, HB.out.alloc HB.out.size _⟩
  · have HM' : Hid (hMoved x a = a) := by rw [Hid, HM.out, if_neg (fun h => c1 h.1)]
    clear HM
    go_enter Try.func95, Try.ntmps95
    go_wp2_with (go_at_call 43; refine (Q.out _).mono ?_; rintro e w2 ⟨rfl, hb⟩; have HB := (show Hid (Below w.heap.size w w2) from hb); clear hb)
    go_ret
    exact ⟨ret_int HM'.out.symm, HB.out.alloc HB.out.size _⟩
end Go.Proofs.Ytmmpnjcmaodkcaa.Num
