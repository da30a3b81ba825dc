/- What is proved: contracts of the two closures of direct.Direct's look; Step of each state that does not shade. Conditions: stated with each contract. -/
import Derived.Test.YtfapicccijbanaaDirD
namespace Go.Proofs.Ytfapicccijbanaa.Mem
open Go Go.RowKit Go.Proofs.Ytfapicccijbanaa.Sep Go.Proofs.Ytfapicccijbanaa.Num
set_option maxRecDepth 100000
set_option linter.unusedVariables false
set_option linter.unusedSimpArgs false
attribute [local go_sem] eqlF_nil neqF_nil eqlF_fn neqF_fn
set_option maxHeartbeats 4000000 in
theorem canA_calls (w : World) (R : HProp) (mb d pv px : Nat) (M : MS) (S : DS) (kv : Value) (a b : Int) (hok : M.ok) (H : Holds w (MemP 120 mb M * (pt d (.cells (S.cells kv) 99 (0, 0)) * (pt pv (.cells #[.int .i64 a, .int .i64 b] 24 (0, 0)) * (pt px (.cells #[.pointer (some ⟨d, 0, none⟩)] 33 (0, 0)) * R))))) :
    Calls Try.prog 68 #[.pointer (some ⟨mb, 0, none⟩), .pointer (some ⟨pv, 0, none⟩), .pointer (some ⟨px, 0, none⟩)] w (Left mb d kv { S with k := .canB (hMoved (M.load b) b) } (M.loaded b) R w) := by
  have MV : Hid (∀ w R, Holds w (MemP 120 mb M * R) → Calls Try.prog 48 #[.pointer (some ⟨mb, 0, none⟩), .int .i64 b] w fun e w' => e = .returned (.int .i64 (hMoved (M.load b) b)) ∧ Holds w' (MemP 120 mb (M.loaded b) * R) ∧ Strm w w') := fun w R H => moved_calls w R mb M b H hok
  generalize hMoved (M.load b) b = c at MV ⊢
  have c1 := (H.cast (Q := pt pv (.cells #[.int .i64 a, .int .i64 b] 24 (0, 0)) * (MemP 120 mb M * (pt d (.cells (S.cells kv) 99 (0, 0)) * (pt px (.cells #[.pointer (some ⟨d, 0, none⟩)] 33 (0, 0)) * R)))) (by ac_rfl)).cells
  have HH : Hid (Holds w (MemP 120 mb M * (pt d (.cells (S.cells kv) 99 (0, 0)) * (pt pv (.cells #[.int .i64 a, .int .i64 b] 24 (0, 0)) * (pt px (.cells #[.pointer (some ⟨d, 0, none⟩)] 33 (0, 0)) * R))))) := H
  clear H hok
  go_enter Try.func68, Try.ntmps68
  go_wp2_with (go_at_call 48; (refine (MV.out _ _ HH.out).mono ?_); rintro e w2 ⟨rfl, H2, s2⟩; have H3 := H2.alloc (.cells #[.int .i64 c] 3); have q3 := H3.cells; have s3 : Hid (Strm w _) := s2.alloc (.cells #[.int .i64 c] 3))
  go_ret
  refine ⟨_, rfl, ?_, s3.out⟩
  refine Holds.cast (P := DK.P d (.func (.func 69) #[] #[.pointer (some ⟨px, 0, none⟩), .pointer (some ⟨w2.heap.size, 0, none⟩)]) (.canB c) * (MemP 120 mb (M.loaded b) * (pt d (.cells (S.cells kv) 99 (0, 0)) * R))) ?_ (by simp only [DS.cells]; ac_rfl)
  refine holds_ex_mk px ?_
  refine holds_ex_mk w2.heap.size ?_
  refine holds_and_mk rfl ?_
  exact (H3.cast (Q := pt pv (.cells #[.int .i64 a, .int .i64 b] 24 (0, 0)) * (MemP 120 mb (M.loaded b) * (pt d (.cells (S.cells kv) 99 (0, 0)) * (pt px (.cells #[.pointer (some ⟨d, 0, none⟩)] 33 (0, 0)) * (pt w2.heap.size (.cells #[.int .i64 c] 3 (0, 0)) * R))))) (by ac_rfl)).drop.cast (by ac_rfl)
def DS.canned (S : DS) (M : MS) (c : Int) : DS × MS := ({ S with k := if hMoved (M.load S.en) S.en = c then shadeK2 S false (vK S.w) (vN S.w) S.nk S.nn else .fin }, M.loaded S.en)
set_option maxHeartbeats 4000000 in
theorem canB_calls (w : World) (R : HProp) (mb d px pa : Nat) (M : MS) (S : DS) (kv : Value) (c : Int) (hok : M.ok) (h0 : 0 ≤ S.w) (h1 : S.w < 18446744073709551616) (H : Holds w (MemP 120 mb M * (pt d (.cells (S.cells kv) 99 (0, 0)) * (pt px (.cells #[.pointer (some ⟨d, 0, none⟩)] 33 (0, 0)) * (pt pa (.cells #[.int .i64 c] 3 (0, 0)) * R))))) :
    Calls Try.prog 69 #[.pointer (some ⟨mb, 0, none⟩), .pointer (some ⟨px, 0, none⟩), .pointer (some ⟨pa, 0, none⟩)] w (Left mb d kv (S.canned M c).1 (S.canned M c).2 R w) := by
  unfold DS.canned
  have MV : Hid (∀ w R, Holds w (MemP 120 mb M * R) → Calls Try.prog 48 #[.pointer (some ⟨mb, 0, none⟩), .int .i64 S.en] w fun e w' => e = .returned (.int .i64 (hMoved (M.load S.en) S.en)) ∧ Holds w' (MemP 120 mb (M.loaded S.en) * R) ∧ Strm w w') := fun w R H => moved_calls w R mb M S.en H hok
  have YS : Hid (∀ w R, Holds w (pt d (.cells (S.cells kv) 99 (0, 0)) * R) → Calls Try.prog 67 #[.pointer (some ⟨d, 0, none⟩)] w (Next d kv S (shadeK2 S false (vK S.w) (vN S.w) S.nk S.nn) R w)) := fun w R H => yes_calls w R d S kv h0 h1 H
  generalize shadeK2 S false (vK S.w) (vN S.w) S.nk S.nn = K at YS ⊢
  generalize hMoved (M.load S.en) S.en = z at MV ⊢
  have HH : Hid (Holds w (MemP 120 mb M * (pt px (.cells #[.pointer (some ⟨d, 0, none⟩)] 33 (0, 0)) * (pt pa (.cells #[.int .i64 c] 3 (0, 0)) * (pt d (.cells (S.cells kv) 99 (0, 0)) * R))))) := H.cast (by ac_rfl)
  have c1 := (HH.out.cast (Q := pt px (.cells #[.pointer (some ⟨d, 0, none⟩)] 33 (0, 0)) * (pt pa (.cells #[.int .i64 c] 3 (0, 0)) * (pt d (.cells (S.cells kv) 99 (0, 0)) * (MemP 120 mb M * R)))) (by ac_rfl)).cells
  have c2 := (HH.out.cast (Q := pt pa (.cells #[.int .i64 c] 3 (0, 0)) * (pt px (.cells #[.pointer (some ⟨d, 0, none⟩)] 33 (0, 0)) * (pt d (.cells (S.cells kv) 99 (0, 0)) * (MemP 120 mb M * R)))) (by ac_rfl)).cells
  have c3 := (HH.out.cast (Q := pt d (.cells (S.cells kv) 99 (0, 0)) * (pt px (.cells #[.pointer (some ⟨d, 0, none⟩)] 33 (0, 0)) * (pt pa (.cells #[.int .i64 c] 3 (0, 0)) * (MemP 120 mb M * R)))) (by ac_rfl)).cells
  have e6 : ∀ w : World, (∀ o, w.cell? ⟨d, o, none⟩ = (S.cells kv)[o]?) → w.cell? ⟨d, 6, none⟩ = some (.int .i64 S.en) := fun w h => (h 6).trans rfl
  clear H hok h0 h1
  by_cases hz : z = c
  · have hz' : (z == c) = true := by simpa using hz
    simp only [if_pos hz]
    clear hz
    go_enter Try.func69, Try.ntmps69
    go_wp2_with fail
    go_region_held3 (fun w' => w'.cell? ⟨px, 0, none⟩ = some (.pointer (some ⟨d, 0, none⟩)) ∧ w'.cell? ⟨pa, 0, none⟩ = some (.int .i64 c) ∧ w'.cell? ⟨d, 6, none⟩ = some (.int .i64 S.en)) (first | exact ⟨c1 0, c2 0, e6 _ c3⟩ | exact ⟨d1 0, d2 0, e6 _ d3⟩)
      (first | (go_at_call 48; (refine (MV.out _ _ HH.out.drew).mono ?_); rintro e w2 ⟨rfl, H2, s2⟩; have K2 := H2.cast (Q := pt px (.cells #[.pointer (some ⟨d, 0, none⟩)] 33 (0, 0)) * (pt pa (.cells #[.int .i64 c] 3 (0, 0)) * (pt d (.cells (S.cells kv) 99 (0, 0)) * (MemP 120 mb (M.loaded S.en) * R)))) (by ac_rfl); have d1 := K2.cells; have d2 := K2.drop.cells; have d3 := K2.drop.drop.cells))
    all_goals
      go_wp2_with (go_at_call 67; (refine (YS.out _ (MemP 120 mb (M.loaded S.en) * (pt px (.cells #[.pointer (some ⟨d, 0, none⟩)] 33 (0, 0)) * (pt pa (.cells #[.int .i64 c] 3 (0, 0)) * R))) (K2.cast (by ac_rfl))).mono ?_); rintro e w3 ⟨kv', rfl, H3, s3⟩)
      go_ret
      exact ⟨kv', rfl, (H3.cast (Q := pt px (.cells #[.pointer (some ⟨d, 0, none⟩)] 33 (0, 0)) * (pt pa (.cells #[.int .i64 c] 3 (0, 0)) * (MemP 120 mb (M.loaded S.en) * (pt d (.cells (S.cells kv) 99 (0, 0)) * (DK.P d kv' K * R))))) (by ac_rfl)).drop.drop.cast (by simp only [DS.cells]), ((Strm.refl w).drew.trans s2).trans s3⟩
  · have hz' : (z == c) = false := by simpa using hz
    simp only [if_neg hz]
    clear hz
    go_enter Try.func69, Try.ntmps69
    go_wp2_with fail
    go_region_held3 (fun w' => w'.cell? ⟨px, 0, none⟩ = some (.pointer (some ⟨d, 0, none⟩)) ∧ w'.cell? ⟨pa, 0, none⟩ = some (.int .i64 c) ∧ w'.cell? ⟨d, 6, none⟩ = some (.int .i64 S.en)) (first | exact ⟨c1 0, c2 0, e6 _ c3⟩ | exact ⟨d1 0, d2 0, e6 _ d3⟩)
      (first | (go_at_call 48; (refine (MV.out _ _ HH.out.drew).mono ?_); rintro e w2 ⟨rfl, H2, s2⟩; have K2 := H2.cast (Q := pt px (.cells #[.pointer (some ⟨d, 0, none⟩)] 33 (0, 0)) * (pt pa (.cells #[.int .i64 c] 3 (0, 0)) * (pt d (.cells (S.cells kv) 99 (0, 0)) * (MemP 120 mb (M.loaded S.en) * R)))) (by ac_rfl); have d1 := K2.cells; have d2 := K2.drop.cells; have d3 := K2.drop.drop.cells))
    all_goals
      go_wp2_with fail
      go_ret
      exact left_fin rfl ((K2.drop.drop.cast (Q := MemP 120 mb (M.loaded S.en) * (pt d (.cells (S.cells kv) 99 (0, 0)) * R)) (by ac_rfl)).cast (by simp only [DS.cells])) ((Strm.refl w).drew.trans s2)
set_option maxHeartbeats 4000000 in
theorem step_write (w : World) (R : HProp) (mb d : Nat) (M : MS) (S : DS) (hk : S.k = .write) (S1 : DS) (M1 : MS)
    (HM : ∀ w R kv, Holds w (MemP 120 mb M * (pt d (.cells (S.off.cells kv) 99 (0, 0)) * R)) → Calls Try.prog 44 #[.pointer (some ⟨d, 0, none⟩), .pointer (some ⟨mb, 0, none⟩)] w (Left mb d kv S1 M1 R w))
    (H : Holds w (MemP 120 mb M * (DirP d S * R))) :
    Calls Try.prog 13 #[.pointer (some ⟨d, 0, none⟩), .pointer (some ⟨mb, 0, none⟩)] w (StepOf mb d S1 M1 R w) := by
  obtain ⟨kv, H1⟩ := dirP_open (H.cast (Q := DirP d S * (MemP 120 mb M * R)) (by ac_rfl))
  rw [hk] at H1
  have HK := (dk_method (k := .write) rfl).1 (H1.cast (Q := DK.P d kv .write * (pt d (.cells (S.cells kv) 99 (0, 0)) * (MemP 120 mb M * R))) (by ac_rfl))
  obtain ⟨rfl, H2⟩ := HK
  have c1 := H2.cells
  have f1 := H2.frees
  have H3 := H2.set 14 (.bool false)
  obtain ⟨S1k, S1r⟩ : ∃ k : DK, S1.k = k := ⟨_, rfl⟩
  have HH : Hid (Holds (w.setCell ⟨d, 14, none⟩ (.bool false)) (MemP 120 mb M * (pt d (.cells (S.off.cells (method 44 d)) 99 (0, 0)) * R))) := H3.cast (by simp only [DS.cells, DS.off, List.setIfInBounds_toArray, List.set_cons_succ, List.set_cons_zero]; ac_rfl)
  have HM' : Hid (∀ w R kv, Holds w (MemP 120 mb M * (pt d (.cells (S.off.cells kv) 99 (0, 0)) * R)) → Calls Try.prog 44 #[.pointer (some ⟨d, 0, none⟩), .pointer (some ⟨mb, 0, none⟩)] w (Left mb d kv S1 M1 R w)) := HM
  clear H H1 H2 H3 HM hk S1r
  simp only [DS.cells, method] at c1
  go_enter Try.func13, Try.ntmps13
  go_wp2_with (go_at_call 44; (refine (HM'.out _ _ _ HH.out).mono ?_); rintro e w2 ⟨kv', rfl, H4, s4⟩; have H5 := H4.cast (Q := pt d (.cells (S1.cells (method 44 d)) 99 (0, 0)) * (DK.P d kv' S1.k * (MemP 120 mb M1 * R))) (by ac_rfl); have c2 := H5.cells; have f2 := H5.frees; simp only [DS.cells] at c2; have hcase := dk_nil H5.drop; have H6 := H5.set 0 kv'; rcases hcase with ⟨hk1, rfl⟩ | ⟨hk1, fn, a, b, rfl⟩)
  · go_ret
    refine ⟨by rw [hk1]; rfl, ?_, ((((Strm.refl w).set _ _).trans s4).set _ _)⟩
    exact (dirP_close (d := d) (S := S1) (R := MemP 120 mb M1 * R) (kv := .nilFunc) (H6.cast (by simp only [DS.cells, List.setIfInBounds_toArray, List.set_cons_zero]))).cast (by ac_rfl)
  · go_ret
    refine ⟨by rw [hk1]; rfl, ?_, ((((Strm.refl w).set _ _).trans s4).set _ _)⟩
    exact (dirP_close (d := d) (S := S1) (R := MemP 120 mb M1 * R) (kv := .func fn a b) (H6.cast (by simp only [DS.cells, List.setIfInBounds_toArray, List.set_cons_zero]))).cast (by ac_rfl)
set_option maxHeartbeats 4000000 in
theorem step_look (w : World) (R : HProp) (mb d : Nat) (M : MS) (S : DS) (hk : S.k = .look) (S1 : DS) (M1 : MS)
    (HM : ∀ w R kv, Holds w (MemP 120 mb M * (pt d (.cells (S.off.cells kv) 99 (0, 0)) * R)) → Calls Try.prog 45 #[.pointer (some ⟨d, 0, none⟩), .pointer (some ⟨mb, 0, none⟩)] w (Left mb d kv S1 M1 R w))
    (H : Holds w (MemP 120 mb M * (DirP d S * R))) :
    Calls Try.prog 13 #[.pointer (some ⟨d, 0, none⟩), .pointer (some ⟨mb, 0, none⟩)] w (StepOf mb d S1 M1 R w) := by
  obtain ⟨kv, H1⟩ := dirP_open (H.cast (Q := DirP d S * (MemP 120 mb M * R)) (by ac_rfl))
  rw [hk] at H1
  have HK := (dk_method (k := .look) rfl).1 (H1.cast (Q := DK.P d kv .look * (pt d (.cells (S.cells kv) 99 (0, 0)) * (MemP 120 mb M * R))) (by ac_rfl))
  obtain ⟨rfl, H2⟩ := HK
  have c1 := H2.cells
  have f1 := H2.frees
  have H3 := H2.set 14 (.bool false)
  obtain ⟨S1k, S1r⟩ : ∃ k : DK, S1.k = k := ⟨_, rfl⟩
  have HH : Hid (Holds (w.setCell ⟨d, 14, none⟩ (.bool false)) (MemP 120 mb M * (pt d (.cells (S.off.cells (method 45 d)) 99 (0, 0)) * R))) := H3.cast (by simp only [DS.cells, DS.off, List.setIfInBounds_toArray, List.set_cons_succ, List.set_cons_zero]; ac_rfl)
  have HM' : Hid (∀ w R kv, Holds w (MemP 120 mb M * (pt d (.cells (S.off.cells kv) 99 (0, 0)) * R)) → Calls Try.prog 45 #[.pointer (some ⟨d, 0, none⟩), .pointer (some ⟨mb, 0, none⟩)] w (Left mb d kv S1 M1 R w)) := HM
  clear H H1 H2 H3 HM hk S1r
  simp only [DS.cells, method] at c1
  go_enter Try.func13, Try.ntmps13
  go_wp2_with (go_at_call 45; (refine (HM'.out _ _ _ HH.out).mono ?_); rintro e w2 ⟨kv', rfl, H4, s4⟩; have H5 := H4.cast (Q := pt d (.cells (S1.cells (method 45 d)) 99 (0, 0)) * (DK.P d kv' S1.k * (MemP 120 mb M1 * R))) (by ac_rfl); have c2 := H5.cells; have f2 := H5.frees; simp only [DS.cells] at c2; have hcase := dk_nil H5.drop; have H6 := H5.set 0 kv'; rcases hcase with ⟨hk1, rfl⟩ | ⟨hk1, fn, a, b, rfl⟩)
  · go_ret
    refine ⟨by rw [hk1]; rfl, ?_, ((((Strm.refl w).set _ _).trans s4).set _ _)⟩
    exact (dirP_close (d := d) (S := S1) (R := MemP 120 mb M1 * R) (kv := .nilFunc) (H6.cast (by simp only [DS.cells, List.setIfInBounds_toArray, List.set_cons_zero]))).cast (by ac_rfl)
  · go_ret
    refine ⟨by rw [hk1]; rfl, ?_, ((((Strm.refl w).set _ _).trans s4).set _ _)⟩
    exact (dirP_close (d := d) (S := S1) (R := MemP 120 mb M1 * R) (kv := .func fn a b) (H6.cast (by simp only [DS.cells, List.setIfInBounds_toArray, List.set_cons_zero]))).cast (by ac_rfl)
set_option maxHeartbeats 4000000 in
theorem step_swap (w : World) (R : HProp) (mb d : Nat) (M : MS) (S : DS) (hk : S.k = .swap) (S1 : DS) (M1 : MS)
    (HM : ∀ w R kv, Holds w (MemP 120 mb M * (pt d (.cells (S.off.cells kv) 99 (0, 0)) * R)) → Calls Try.prog 83 #[.pointer (some ⟨d, 0, none⟩), .pointer (some ⟨mb, 0, none⟩)] w (Left mb d kv S1 M1 R w))
    (H : Holds w (MemP 120 mb M * (DirP d S * R))) :
    Calls Try.prog 13 #[.pointer (some ⟨d, 0, none⟩), .pointer (some ⟨mb, 0, none⟩)] w (StepOf mb d S1 M1 R w) := by
  obtain ⟨kv, H1⟩ := dirP_open (H.cast (Q := DirP d S * (MemP 120 mb M * R)) (by ac_rfl))
  rw [hk] at H1
  have HK := (dk_method (k := .swap) rfl).1 (H1.cast (Q := DK.P d kv .swap * (pt d (.cells (S.cells kv) 99 (0, 0)) * (MemP 120 mb M * R))) (by ac_rfl))
  obtain ⟨rfl, H2⟩ := HK
  have c1 := H2.cells
  have f1 := H2.frees
  have H3 := H2.set 14 (.bool false)
  obtain ⟨S1k, S1r⟩ : ∃ k : DK, S1.k = k := ⟨_, rfl⟩
  have HH : Hid (Holds (w.setCell ⟨d, 14, none⟩ (.bool false)) (MemP 120 mb M * (pt d (.cells (S.off.cells (method 83 d)) 99 (0, 0)) * R))) := H3.cast (by simp only [DS.cells, DS.off, List.setIfInBounds_toArray, List.set_cons_succ, List.set_cons_zero]; ac_rfl)
  have HM' : Hid (∀ w R kv, Holds w (MemP 120 mb M * (pt d (.cells (S.off.cells kv) 99 (0, 0)) * R)) → Calls Try.prog 83 #[.pointer (some ⟨d, 0, none⟩), .pointer (some ⟨mb, 0, none⟩)] w (Left mb d kv S1 M1 R w)) := HM
  clear H H1 H2 H3 HM hk S1r
  simp only [DS.cells, method] at c1
  go_enter Try.func13, Try.ntmps13
  go_wp2_with (go_at_call 83; (refine (HM'.out _ _ _ HH.out).mono ?_); rintro e w2 ⟨kv', rfl, H4, s4⟩; have H5 := H4.cast (Q := pt d (.cells (S1.cells (method 83 d)) 99 (0, 0)) * (DK.P d kv' S1.k * (MemP 120 mb M1 * R))) (by ac_rfl); have c2 := H5.cells; have f2 := H5.frees; simp only [DS.cells] at c2; have hcase := dk_nil H5.drop; have H6 := H5.set 0 kv'; rcases hcase with ⟨hk1, rfl⟩ | ⟨hk1, fn, a, b, rfl⟩)
  · go_ret
    refine ⟨by rw [hk1]; rfl, ?_, ((((Strm.refl w).set _ _).trans s4).set _ _)⟩
    exact (dirP_close (d := d) (S := S1) (R := MemP 120 mb M1 * R) (kv := .nilFunc) (H6.cast (by simp only [DS.cells, List.setIfInBounds_toArray, List.set_cons_zero]))).cast (by ac_rfl)
  · go_ret
    refine ⟨by rw [hk1]; rfl, ?_, ((((Strm.refl w).set _ _).trans s4).set _ _)⟩
    exact (dirP_close (d := d) (S := S1) (R := MemP 120 mb M1 * R) (kv := .func fn a b) (H6.cast (by simp only [DS.cells, List.setIfInBounds_toArray, List.set_cons_zero]))).cast (by ac_rfl)
set_option maxHeartbeats 4000000 in
theorem step_canA (w : World) (R : HProp) (mb d : Nat) (M : MS) (S : DS) (a b : Int) (hk : S.k = .canA a b) (S1 : DS) (M1 : MS)
    (HM : ∀ w R kv pv px, Holds w (MemP 120 mb M * (pt d (.cells (S.off.cells kv) 99 (0, 0)) * (pt pv (.cells #[.int .i64 a, .int .i64 b] 24 (0, 0)) * (pt px (.cells #[.pointer (some ⟨d, 0, none⟩)] 33 (0, 0)) * R)))) → Calls Try.prog 68 #[.pointer (some ⟨mb, 0, none⟩), .pointer (some ⟨pv, 0, none⟩), .pointer (some ⟨px, 0, none⟩)] w (Left mb d kv S1 M1 R w))
    (H : Holds w (MemP 120 mb M * (DirP d S * R))) :
    Calls Try.prog 13 #[.pointer (some ⟨d, 0, none⟩), .pointer (some ⟨mb, 0, none⟩)] w (StepOf mb d S1 M1 R w) := by
  obtain ⟨kv, H1⟩ := dirP_open (H.cast (Q := DirP d S * (MemP 120 mb M * R)) (by ac_rfl))
  rw [hk] at H1
  have HK := H1.cast (Q := DK.P d kv (.canA a b) * (pt d (.cells (S.cells kv) 99 (0, 0)) * (MemP 120 mb M * R))) (by ac_rfl)
  obtain ⟨pv, HK⟩ := holds_ex HK
  obtain ⟨px, HK⟩ := holds_ex HK
  obtain ⟨rfl, HK⟩ := holds_and HK
  have H2 := HK.cast (Q := pt d (.cells (S.cells (.func (.func 68) #[] #[.pointer (some ⟨pv, 0, none⟩), .pointer (some ⟨px, 0, none⟩)])) 99 (0, 0)) * (MemP 120 mb M * (pt pv (.cells #[.int .i64 a, .int .i64 b] 24 (0, 0)) * (pt px (.cells #[.pointer (some ⟨d, 0, none⟩)] 33 (0, 0)) * R)))) (by ac_rfl)
  have c1 := H2.cells
  have f1 := H2.frees
  have H3 := H2.set 14 (.bool false)
  have HH : Hid (Holds (w.setCell ⟨d, 14, none⟩ (.bool false)) (MemP 120 mb M * (pt d (.cells (S.off.cells (.func (.func 68) #[] #[.pointer (some ⟨pv, 0, none⟩), .pointer (some ⟨px, 0, none⟩)])) 99 (0, 0)) * (pt pv (.cells #[.int .i64 a, .int .i64 b] 24 (0, 0)) * (pt px (.cells #[.pointer (some ⟨d, 0, none⟩)] 33 (0, 0)) * R))))) := H3.cast (by simp only [DS.cells, DS.off, List.setIfInBounds_toArray, List.set_cons_succ, List.set_cons_zero]; ac_rfl)
  have HM' : Hid (∀ w R kv pv px, Holds w (MemP 120 mb M * (pt d (.cells (S.off.cells kv) 99 (0, 0)) * (pt pv (.cells #[.int .i64 a, .int .i64 b] 24 (0, 0)) * (pt px (.cells #[.pointer (some ⟨d, 0, none⟩)] 33 (0, 0)) * R)))) → Calls Try.prog 68 #[.pointer (some ⟨mb, 0, none⟩), .pointer (some ⟨pv, 0, none⟩), .pointer (some ⟨px, 0, none⟩)] w (Left mb d kv S1 M1 R w)) := HM
  clear H H1 H2 H3 HM hk HK
  simp only [DS.cells] at c1
  go_enter Try.func13, Try.ntmps13
  go_wp2_with (go_at_call 68; (refine (HM'.out _ _ _ _ _ HH.out).mono ?_); rintro e w2 ⟨kv', rfl, H4, s4⟩; have H5 := H4.cast (Q := pt d (.cells (S1.cells (.func (.func 68) #[] #[.pointer (some ⟨pv, 0, none⟩), .pointer (some ⟨px, 0, none⟩)])) 99 (0, 0)) * (DK.P d kv' S1.k * (MemP 120 mb M1 * R))) (by ac_rfl); have c2 := H5.cells; have f2 := H5.frees; simp only [DS.cells] at c2; have hcase := dk_nil H5.drop; have H6 := H5.set 0 kv'; rcases hcase with ⟨hk1, rfl⟩ | ⟨hk1, fn, x, y, rfl⟩)
  · go_ret
    refine ⟨by rw [hk1]; rfl, ?_, ((((Strm.refl w).set _ _).trans s4).set _ _)⟩
    exact (dirP_close (d := d) (S := S1) (R := MemP 120 mb M1 * R) (kv := .nilFunc) (H6.cast (by simp only [DS.cells, List.setIfInBounds_toArray, List.set_cons_zero]))).cast (by ac_rfl)
  · go_ret
    refine ⟨by rw [hk1]; rfl, ?_, ((((Strm.refl w).set _ _).trans s4).set _ _)⟩
    exact (dirP_close (d := d) (S := S1) (R := MemP 120 mb M1 * R) (kv := .func fn x y) (H6.cast (by simp only [DS.cells, List.setIfInBounds_toArray, List.set_cons_zero]))).cast (by ac_rfl)
set_option maxHeartbeats 4000000 in
theorem step_canB (w : World) (R : HProp) (mb d : Nat) (M : MS) (S : DS) (c : Int) (hk : S.k = .canB c) (S1 : DS) (M1 : MS)
    (HM : ∀ w R kv px pa, Holds w (MemP 120 mb M * (pt d (.cells (S.off.cells kv) 99 (0, 0)) * (pt px (.cells #[.pointer (some ⟨d, 0, none⟩)] 33 (0, 0)) * (pt pa (.cells #[.int .i64 c] 3 (0, 0)) * R)))) → Calls Try.prog 69 #[.pointer (some ⟨mb, 0, none⟩), .pointer (some ⟨px, 0, none⟩), .pointer (some ⟨pa, 0, none⟩)] w (Left mb d kv S1 M1 R w))
    (H : Holds w (MemP 120 mb M * (DirP d S * R))) :
    Calls Try.prog 13 #[.pointer (some ⟨d, 0, none⟩), .pointer (some ⟨mb, 0, none⟩)] w (StepOf mb d S1 M1 R w) := by
  obtain ⟨kv, H1⟩ := dirP_open (H.cast (Q := DirP d S * (MemP 120 mb M * R)) (by ac_rfl))
  rw [hk] at H1
  have HK := H1.cast (Q := DK.P d kv (.canB c) * (pt d (.cells (S.cells kv) 99 (0, 0)) * (MemP 120 mb M * R))) (by ac_rfl)
  obtain ⟨px, HK⟩ := holds_ex HK
  obtain ⟨pa, HK⟩ := holds_ex HK
  obtain ⟨rfl, HK⟩ := holds_and HK
  have H2 := HK.cast (Q := pt d (.cells (S.cells (.func (.func 69) #[] #[.pointer (some ⟨px, 0, none⟩), .pointer (some ⟨pa, 0, none⟩)])) 99 (0, 0)) * (MemP 120 mb M * (pt px (.cells #[.pointer (some ⟨d, 0, none⟩)] 33 (0, 0)) * (pt pa (.cells #[.int .i64 c] 3 (0, 0)) * R)))) (by ac_rfl)
  have c1 := H2.cells
  have f1 := H2.frees
  have H3 := H2.set 14 (.bool false)
  have HH : Hid (Holds (w.setCell ⟨d, 14, none⟩ (.bool false)) (MemP 120 mb M * (pt d (.cells (S.off.cells (.func (.func 69) #[] #[.pointer (some ⟨px, 0, none⟩), .pointer (some ⟨pa, 0, none⟩)])) 99 (0, 0)) * (pt px (.cells #[.pointer (some ⟨d, 0, none⟩)] 33 (0, 0)) * (pt pa (.cells #[.int .i64 c] 3 (0, 0)) * R))))) := H3.cast (by simp only [DS.cells, DS.off, List.setIfInBounds_toArray, List.set_cons_succ, List.set_cons_zero]; ac_rfl)
  have HM' : Hid (∀ w R kv px pa, Holds w (MemP 120 mb M * (pt d (.cells (S.off.cells kv) 99 (0, 0)) * (pt px (.cells #[.pointer (some ⟨d, 0, none⟩)] 33 (0, 0)) * (pt pa (.cells #[.int .i64 c] 3 (0, 0)) * R)))) → Calls Try.prog 69 #[.pointer (some ⟨mb, 0, none⟩), .pointer (some ⟨px, 0, none⟩), .pointer (some ⟨pa, 0, none⟩)] w (Left mb d kv S1 M1 R w)) := HM
  clear H H1 H2 H3 HM hk HK
  simp only [DS.cells] at c1
  go_enter Try.func13, Try.ntmps13
  go_wp2_with (go_at_call 69; (refine (HM'.out _ _ _ _ _ HH.out).mono ?_); rintro e w2 ⟨kv', rfl, H4, s4⟩; have H5 := H4.cast (Q := pt d (.cells (S1.cells (.func (.func 69) #[] #[.pointer (some ⟨px, 0, none⟩), .pointer (some ⟨pa, 0, none⟩)])) 99 (0, 0)) * (DK.P d kv' S1.k * (MemP 120 mb M1 * R))) (by ac_rfl); have c2 := H5.cells; have f2 := H5.frees; simp only [DS.cells] at c2; have hcase := dk_nil H5.drop; have H6 := H5.set 0 kv'; rcases hcase with ⟨hk1, rfl⟩ | ⟨hk1, fn, x, y, rfl⟩)
  · go_ret
    refine ⟨by rw [hk1]; rfl, ?_, ((((Strm.refl w).set _ _).trans s4).set _ _)⟩
    exact (dirP_close (d := d) (S := S1) (R := MemP 120 mb M1 * R) (kv := .nilFunc) (H6.cast (by simp only [DS.cells, List.setIfInBounds_toArray, List.set_cons_zero]))).cast (by ac_rfl)
  · go_ret
    refine ⟨by rw [hk1]; rfl, ?_, ((((Strm.refl w).set _ _).trans s4).set _ _)⟩
    exact (dirP_close (d := d) (S := S1) (R := MemP 120 mb M1 * R) (kv := .func fn x y) (H6.cast (by simp only [DS.cells, List.setIfInBounds_toArray, List.set_cons_zero]))).cast (by ac_rfl)
def DK.qu : DK → Bool | .old => false | .shadeA _ _ _ _ => false | .shadeB _ _ => false | _ => true
/-- A step of one that does not shade. -/
def DS.qstep (S : DS) (M : MS) : DS × MS := match S.k with
  | .read => S.off.read M
  | .fix => S.off.fixed M
  | .write => S.off.wrote M
  | .look => S.off.looked M
  | .swap => S.off.swapped M
  | .canA _ b => ({ S.off with k := .canB (hMoved (M.load b) b) }, M.loaded b)
  | .canB c => S.off.canned M c
  | _ => (S, M)
theorem qstep_calls (w : World) (R : HProp) (mb d : Nat) (M : MS) (S : DS) (hok : M.ok) (hk : S.k.qu = true) (h0 : 0 ≤ S.w) (h1 : S.w < 18446744073709551616) (H : Holds w (MemP 120 mb M * (DirP d S * R))) :
    Calls Try.prog 13 #[.pointer (some ⟨d, 0, none⟩), .pointer (some ⟨mb, 0, none⟩)] w (StepOf mb d (S.qstep M).1 (S.qstep M).2 R w) := by
  unfold DS.qstep
  cases hkk : S.k <;> rw [hkk] at hk <;> simp only [DK.qu, Bool.false_eq_true, reduceCtorEq] at hk
  · refine (step_fin w R mb d M S hkk H).mono ?_
    rintro e w' ⟨rfl, H, s⟩
    exact ⟨by show _ = Ending.returned (.bool S.k.isFin); rw [hkk]; rfl, H, s⟩
  · exact step_read w R mb d M S hkk _ _ (fun w R kv H => read_calls w R mb d M S.off kv hok H) H
  · exact step_fix w R mb d M S hkk _ _ (fun w R kv H => fix_calls w R mb d M S.off kv hok H) H
  · exact step_write w R mb d M S hkk _ _ (fun w R kv H => write_calls w R mb d M S.off kv hok H) H
  · exact step_look w R mb d M S hkk _ _ (fun w R kv H => look_calls w R mb d M S.off kv hok H) H
  · exact step_swap w R mb d M S hkk _ _ (fun w R kv H => swap_calls w R mb d M S.off kv hok H) H
  · exact step_canA w R mb d M S _ _ hkk _ _ (fun w R kv pv px H => canA_calls w R mb d pv px M S.off kv _ _ hok H) H
  · exact step_canB w R mb d M S _ hkk _ _ (fun w R kv px pa H => canB_calls w R mb d px pa M S.off kv _ hok h0 h1 H) H
end Go.Proofs.Ytfapicccijbanaa.Mem
