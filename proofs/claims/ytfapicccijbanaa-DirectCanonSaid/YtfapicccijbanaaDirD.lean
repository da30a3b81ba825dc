/- What is proved: contracts of direct.Direct's look, its two closures, old. Conditions: stated with each contract. -/
import Derived.Test.YtfapicccijbanaaDirC
namespace Go.Proofs.Ytfapicccijbanaa.Mem
open Go Go.RowKit Go.Proofs.Ytfapicccijbanaa.Sep Go.Proofs.Ytfapicccijbanaa.Num
set_option maxRecDepth 100000
set_option linter.unusedVariables false
set_option linter.unusedSimpArgs false
attribute [local go_sem] eqlF_nil neqF_nil eqlF_fn neqF_fn
/-- Behind a look: what was loaded. -/
def DS.saw (S : DS) (M : MS) : DS := { S with w := M.load S.fld, hit := true }
def DS.looked (S : DS) (M : MS) : DS × MS :=
  ({ S.saw M with k := if vK (M.load S.fld) = S.ek ∧ vN (M.load S.fld) = S.en then shadeK2 (S.saw M) false (vK (M.load S.fld)) (vN (M.load S.fld)) S.nk S.nn else if (S.ca && farB (vK (M.load S.fld)) (vN (M.load S.fld))) && farB S.ek S.en then .canA (vK (M.load S.fld)) (vN (M.load S.fld)) else .fin }, M.loaded S.fld)
set_option maxHeartbeats 4000000 in
theorem look_eq (w : World) (R : HProp) (mb d : Nat) (M : MS) (S : DS) (kv : Value) (hok : M.ok) (H : Holds w (MemP 120 mb M * (pt d (.cells (S.cells kv) 99 (0, 0)) * R))) (he : vK (M.load S.fld) = S.ek ∧ vN (M.load S.fld) = S.en) :
    Calls Try.prog 45 #[.pointer (some ⟨d, 0, none⟩), .pointer (some ⟨mb, 0, none⟩)] w (Left mb d kv { S.saw M with k := shadeK2 (S.saw M) false (vK (M.load S.fld)) (vN (M.load S.fld)) S.nk S.nn } (M.loaded S.fld) R w) := by
  obtain ⟨k, fld, op, at_, rf, ek, en, nk, nn, sh, ca, fx, mark, fw, hit, code, vk, vn, yes⟩ := S
  simp only [DS.cells, DS.saw] at H ⊢
  have xr := load_rng M hok fld
  have LD : Hid (∀ w R, Holds w (MemP 120 mb M * (pt d (.cells #[kv, .int .i64 fld, .int .i64 op, .int .i64 at_, .int .i64 rf, .int .i64 ek, .int .i64 en, .int .i64 nk, .int .i64 nn, .bool sh, .bool ca, .bool fx, .int .i64 mark, .int .u64 fw, .bool hit, .int .i64 code, .int .i64 vk, .int .i64 vn, .bool yes] 99 (0, 0)) * R)) → Calls Try.prog 62 #[.pointer (some ⟨d, 0, none⟩), .pointer (some ⟨mb, 0, none⟩)] w fun e w' => e = .returned (.agg #[.int .i64 (vK (M.load fld)), .int .i64 (vN (M.load fld))]) ∧ Holds w' (MemP 120 mb (M.loaded fld) * (pt d (.cells #[kv, .int .i64 fld, .int .i64 op, .int .i64 at_, .int .i64 rf, .int .i64 ek, .int .i64 en, .int .i64 nk, .int .i64 nn, .bool sh, .bool ca, .bool fx, .int .i64 mark, .int .u64 (M.load fld), .bool hit, .int .i64 code, .int .i64 vk, .int .i64 vn, .bool yes] 99 (0, 0)) * R)) ∧ Strm w w') := fun w R H => load_dcalls w R mb d M ⟨k, fld, op, at_, rf, ek, en, nk, nn, sh, ca, fx, mark, fw, hit, code, vk, vn, yes⟩ kv hok H
  have YS : Hid (∀ w R, Holds w (pt d (.cells #[kv, .int .i64 fld, .int .i64 op, .int .i64 at_, .int .i64 rf, .int .i64 ek, .int .i64 en, .int .i64 nk, .int .i64 nn, .bool sh, .bool ca, .bool fx, .int .i64 mark, .int .u64 (M.load fld), .bool true, .int .i64 code, .int .i64 vk, .int .i64 vn, .bool yes] 99 (0, 0)) * R) → Calls Try.prog 67 #[.pointer (some ⟨d, 0, none⟩)] w (Next d kv ⟨k, fld, op, at_, rf, ek, en, nk, nn, sh, ca, fx, mark, M.load fld, true, code, vk, vn, yes⟩ (shadeK2 ⟨k, fld, op, at_, rf, ek, en, nk, nn, sh, ca, fx, mark, M.load fld, true, code, vk, vn, yes⟩ false (vK (M.load fld)) (vN (M.load fld)) nk nn) R w)) := fun w R H => yes_calls w R d ⟨k, fld, op, at_, rf, ek, en, nk, nn, sh, ca, fx, mark, M.load fld, true, code, vk, vn, yes⟩ kv xr.1 xr.2 H
  have FV : Hid (∀ w, Calls Try.prog 63 #[.agg #[.int .i64 (vK (M.load fld)), .int .i64 (vN (M.load fld))]] w (Ret w (.bool (farB (vK (M.load fld)) (vN (M.load fld)))))) := fun w => far_calls _ _ w
  have FE : Hid (∀ w, Calls Try.prog 63 #[.agg #[.int .i64 ek, .int .i64 en]] w (Ret w (.bool (farB ek en)))) := fun w => far_calls _ _ w
  clear xr
  generalize shadeK2 _ false (vK (M.load fld)) (vN (M.load fld)) nk nn = K at YS ⊢
  generalize vK (M.load fld) = a at LD FV YS he ⊢
  generalize vN (M.load fld) = b at LD FV YS he ⊢
  generalize M.load fld = x at LD YS ⊢
  have hq1 : (a == ek) = true := by simp [he.1]
  have hq2 : (b == en) = true := by simp [he.2]
  clear he
  have H0 := H.alloc (.cells #[.pointer (some ⟨d, 0, none⟩)] 33)
  have HH : Hid (Holds _ (MemP 120 mb M * (pt d (.cells #[kv, .int .i64 fld, .int .i64 op, .int .i64 at_, .int .i64 rf, .int .i64 ek, .int .i64 en, .int .i64 nk, .int .i64 nn, .bool sh, .bool ca, .bool fx, .int .i64 mark, .int .u64 fw, .bool hit, .int .i64 code, .int .i64 vk, .int .i64 vn, .bool yes] 99 (0, 0)) * (pt w.heap.size (.cells #[.pointer (some ⟨d, 0, none⟩)] 33 (0, 0)) * R)))) := H0.cast (by ac_rfl)
  have hd : d < w.heap.size := (H.cast (Q := pt d (.cells #[kv, .int .i64 fld, .int .i64 op, .int .i64 at_, .int .i64 rf, .int .i64 ek, .int .i64 en, .int .i64 nk, .int .i64 nn, .bool sh, .bool ca, .bool fx, .int .i64 mark, .int .u64 fw, .bool hit, .int .i64 code, .int .i64 vk, .int .i64 vn, .bool yes] 99 (0, 0)) * (MemP 120 mb M * R)) (by ac_rfl)).lt
  clear H H0 hok
  go_enter Try.func45, Try.ntmps45
  go_wp2_with (first | (go_at_call 62; (refine (LD.out _ _ HH.out).mono ?_); rintro e w2 ⟨rfl, H2, s2⟩; have H3 := (H2.cast (Q := pt d (.cells #[kv, .int .i64 fld, .int .i64 op, .int .i64 at_, .int .i64 rf, .int .i64 ek, .int .i64 en, .int .i64 nk, .int .i64 nn, .bool sh, .bool ca, .bool fx, .int .i64 mark, .int .u64 x, .bool hit, .int .i64 code, .int .i64 vk, .int .i64 vn, .bool yes] 99 (0, 0)) * (pt w.heap.size (.cells #[.pointer (some ⟨d, 0, none⟩)] 33 (0, 0)) * (MemP 120 mb (M.loaded fld) * R))) (by ac_rfl)).alloc (.cells #[.int .i64 a, .int .i64 b] 24); have hpx := H3.drop.drop.lt; have hpd := H3.drop.lt; have q0 := H3.cells; have q1 := H3.drop.cells; have q2 := H3.drop.drop.cells; have f1 := H3.drop.frees; have H4 := (H3.cast (Q := pt d (.cells #[kv, .int .i64 fld, .int .i64 op, .int .i64 at_, .int .i64 rf, .int .i64 ek, .int .i64 en, .int .i64 nk, .int .i64 nn, .bool sh, .bool ca, .bool fx, .int .i64 mark, .int .u64 x, .bool hit, .int .i64 code, .int .i64 vk, .int .i64 vn, .bool yes] 99 (0, 0)) * (pt w2.heap.size (.cells #[.int .i64 a, .int .i64 b] 24 (0, 0)) * (pt w.heap.size (.cells #[.pointer (some ⟨d, 0, none⟩)] 33 (0, 0)) * (MemP 120 mb (M.loaded fld) * R)))) (by ac_rfl)).set 14 (.bool true); have p0 := H4.drop.cells; have p1 := H4.cells; have p2 := H4.drop.drop.cells; have s4 : Hid (Strm w _) := ((((Strm.refl w).alloc _).trans s2).alloc (.cells #[.int .i64 a, .int .i64 b] 24)).set ⟨d, 14, none⟩ (.bool true)))
  go_quiet (fail)
  have H5 : Hid (Holds _ (pt d (.cells #[kv, .int .i64 fld, .int .i64 op, .int .i64 at_, .int .i64 rf, .int .i64 ek, .int .i64 en, .int .i64 nk, .int .i64 nn, .bool sh, .bool ca, .bool fx, .int .i64 mark, .int .u64 x, .bool true, .int .i64 code, .int .i64 vk, .int .i64 vn, .bool yes] 99 (0, 0)) * (pt w2.heap.size (.cells #[.int .i64 a, .int .i64 b] 24 (0, 0)) * (pt w.heap.size (.cells #[.pointer (some ⟨d, 0, none⟩)] 33 (0, 0)) * (MemP 120 mb (M.loaded fld) * R))))) := (H4.cast (Q := pt d (.cells #[kv, .int .i64 fld, .int .i64 op, .int .i64 at_, .int .i64 rf, .int .i64 ek, .int .i64 en, .int .i64 nk, .int .i64 nn, .bool sh, .bool ca, .bool fx, .int .i64 mark, .int .u64 x, .bool true, .int .i64 code, .int .i64 vk, .int .i64 vn, .bool yes] 99 (0, 0)) * (pt w2.heap.size (.cells #[.int .i64 a, .int .i64 b] 24 (0, 0)) * (pt w.heap.size (.cells #[.pointer (some ⟨d, 0, none⟩)] 33 (0, 0)) * (MemP 120 mb (M.loaded fld) * R)))) (by simp only [List.setIfInBounds_toArray, List.set_cons_succ, List.set_cons_zero])).drewN nq
  have u0 := H5.out.drop.cells
  have u1 := H5.out.cells
  have u2 := H5.out.drop.drop.cells
  have s5 : Hid (Strm w _) := s4.out.drewN nq
  go_wp2_with (first | (go_at_call 67; (refine (YS.out _ _ H5.out).mono ?_); rintro e w6 ⟨kv', rfl, H6, s6⟩))
  go_ret
  exact ⟨kv', rfl, (H6.cast (Q := pt w2.heap.size (.cells #[.int .i64 a, .int .i64 b] 24 (0, 0)) * (pt w.heap.size (.cells #[.pointer (some ⟨d, 0, none⟩)] 33 (0, 0)) * (MemP 120 mb (M.loaded fld) * (pt d (.cells #[kv, .int .i64 fld, .int .i64 op, .int .i64 at_, .int .i64 rf, .int .i64 ek, .int .i64 en, .int .i64 nk, .int .i64 nn, .bool sh, .bool ca, .bool fx, .int .i64 mark, .int .u64 x, .bool true, .int .i64 code, .int .i64 vk, .int .i64 vn, .bool yes] 99 (0, 0)) * (DK.P d kv' K * R))))) (by simp only [DS.cells]; ac_rfl)).drop.drop, s5.out.trans s6⟩
set_option maxHeartbeats 8000000 in
theorem look_ne (w : World) (R : HProp) (mb d : Nat) (M : MS) (S : DS) (kv : Value) (hok : M.ok) (H : Holds w (MemP 120 mb M * (pt d (.cells (S.cells kv) 99 (0, 0)) * R))) (he : ¬ (vK (M.load S.fld) = S.ek ∧ vN (M.load S.fld) = S.en)) :
    Calls Try.prog 45 #[.pointer (some ⟨d, 0, none⟩), .pointer (some ⟨mb, 0, none⟩)] w (Left mb d kv { S.saw M with k := if (S.ca && farB (vK (M.load S.fld)) (vN (M.load S.fld))) && farB S.ek S.en then .canA (vK (M.load S.fld)) (vN (M.load S.fld)) else .fin } (M.loaded S.fld) R w) := by
  obtain ⟨k, fld, op, at_, rf, ek, en, nk, nn, sh, ca, fx, mark, fw, hit, code, vk, vn, yes⟩ := S
  simp only [DS.cells, DS.saw] at H ⊢
  have xr := load_rng M hok fld
  have LD : Hid (∀ w R, Holds w (MemP 120 mb M * (pt d (.cells #[kv, .int .i64 fld, .int .i64 op, .int .i64 at_, .int .i64 rf, .int .i64 ek, .int .i64 en, .int .i64 nk, .int .i64 nn, .bool sh, .bool ca, .bool fx, .int .i64 mark, .int .u64 fw, .bool hit, .int .i64 code, .int .i64 vk, .int .i64 vn, .bool yes] 99 (0, 0)) * R)) → Calls Try.prog 62 #[.pointer (some ⟨d, 0, none⟩), .pointer (some ⟨mb, 0, none⟩)] w fun e w' => e = .returned (.agg #[.int .i64 (vK (M.load fld)), .int .i64 (vN (M.load fld))]) ∧ Holds w' (MemP 120 mb (M.loaded fld) * (pt d (.cells #[kv, .int .i64 fld, .int .i64 op, .int .i64 at_, .int .i64 rf, .int .i64 ek, .int .i64 en, .int .i64 nk, .int .i64 nn, .bool sh, .bool ca, .bool fx, .int .i64 mark, .int .u64 (M.load fld), .bool hit, .int .i64 code, .int .i64 vk, .int .i64 vn, .bool yes] 99 (0, 0)) * R)) ∧ Strm w w') := fun w R H => load_dcalls w R mb d M ⟨k, fld, op, at_, rf, ek, en, nk, nn, sh, ca, fx, mark, fw, hit, code, vk, vn, yes⟩ kv hok H
  have YS : Hid (∀ w R, Holds w (pt d (.cells #[kv, .int .i64 fld, .int .i64 op, .int .i64 at_, .int .i64 rf, .int .i64 ek, .int .i64 en, .int .i64 nk, .int .i64 nn, .bool sh, .bool ca, .bool fx, .int .i64 mark, .int .u64 (M.load fld), .bool true, .int .i64 code, .int .i64 vk, .int .i64 vn, .bool yes] 99 (0, 0)) * R) → Calls Try.prog 67 #[.pointer (some ⟨d, 0, none⟩)] w (Next d kv ⟨k, fld, op, at_, rf, ek, en, nk, nn, sh, ca, fx, mark, M.load fld, true, code, vk, vn, yes⟩ (shadeK2 ⟨k, fld, op, at_, rf, ek, en, nk, nn, sh, ca, fx, mark, M.load fld, true, code, vk, vn, yes⟩ false (vK (M.load fld)) (vN (M.load fld)) nk nn) R w)) := fun w R H => yes_calls w R d ⟨k, fld, op, at_, rf, ek, en, nk, nn, sh, ca, fx, mark, M.load fld, true, code, vk, vn, yes⟩ kv xr.1 xr.2 H
  have FV : Hid (∀ w, Calls Try.prog 63 #[.agg #[.int .i64 (vK (M.load fld)), .int .i64 (vN (M.load fld))]] w (Ret w (.bool (farB (vK (M.load fld)) (vN (M.load fld)))))) := fun w => far_calls _ _ w
  have FE : Hid (∀ w, Calls Try.prog 63 #[.agg #[.int .i64 ek, .int .i64 en]] w (Ret w (.bool (farB ek en)))) := fun w => far_calls _ _ w
  clear xr
  generalize shadeK2 _ false (vK (M.load fld)) (vN (M.load fld)) nk nn = K at YS
  generalize vK (M.load fld) = a at LD FV YS he ⊢
  generalize vN (M.load fld) = b at LD FV YS he ⊢
  generalize M.load fld = x at LD YS ⊢
  have H0 := H.alloc (.cells #[.pointer (some ⟨d, 0, none⟩)] 33)
  have HH : Hid (Holds _ (MemP 120 mb M * (pt d (.cells #[kv, .int .i64 fld, .int .i64 op, .int .i64 at_, .int .i64 rf, .int .i64 ek, .int .i64 en, .int .i64 nk, .int .i64 nn, .bool sh, .bool ca, .bool fx, .int .i64 mark, .int .u64 fw, .bool hit, .int .i64 code, .int .i64 vk, .int .i64 vn, .bool yes] 99 (0, 0)) * (pt w.heap.size (.cells #[.pointer (some ⟨d, 0, none⟩)] 33 (0, 0)) * R)))) := H0.cast (by ac_rfl)
  have hd : d < w.heap.size := (H.cast (Q := pt d (.cells #[kv, .int .i64 fld, .int .i64 op, .int .i64 at_, .int .i64 rf, .int .i64 ek, .int .i64 en, .int .i64 nk, .int .i64 nn, .bool sh, .bool ca, .bool fx, .int .i64 mark, .int .u64 fw, .bool hit, .int .i64 code, .int .i64 vk, .int .i64 vn, .bool yes] 99 (0, 0)) * (MemP 120 mb M * R)) (by ac_rfl)).lt
  clear H H0 hok
  clear YS
  generalize hkk : (if ((ca && farB a b) && farB ek en) = true then DK.canA a b else DK.fin) = kq
  by_cases h1 : a = ek
  · have hq1 : (a == ek) = true := by simp [h1]
    have hq2 : (b == en) = false := by simp; exact fun h => he ⟨h1, h⟩
    clear he h1
    cases hca : ca with
    | false =>
      subst hca
      have HK : Hid (kq = .fin) := by rw [Hid, ← hkk]; simp [*]
      clear hkk
      go_enter Try.func45, Try.ntmps45
      go_wp2_with (first | (go_at_call 62; (refine (LD.out _ _ HH.out).mono ?_); rintro e w2 ⟨rfl, H2, s2⟩; have H3 := (H2.cast (Q := pt d (.cells #[kv, .int .i64 fld, .int .i64 op, .int .i64 at_, .int .i64 rf, .int .i64 ek, .int .i64 en, .int .i64 nk, .int .i64 nn, .bool sh, .bool false, .bool fx, .int .i64 mark, .int .u64 x, .bool hit, .int .i64 code, .int .i64 vk, .int .i64 vn, .bool yes] 99 (0, 0)) * (pt w.heap.size (.cells #[.pointer (some ⟨d, 0, none⟩)] 33 (0, 0)) * (MemP 120 mb (M.loaded fld) * R))) (by ac_rfl)).alloc (.cells #[.int .i64 a, .int .i64 b] 24); have hpx := H3.drop.drop.lt; have hpd := H3.drop.lt; have q0 := H3.cells; have q1 := H3.drop.cells; have q2 := H3.drop.drop.cells; have f1 := H3.drop.frees; have H4 := (H3.cast (Q := pt d (.cells #[kv, .int .i64 fld, .int .i64 op, .int .i64 at_, .int .i64 rf, .int .i64 ek, .int .i64 en, .int .i64 nk, .int .i64 nn, .bool sh, .bool false, .bool fx, .int .i64 mark, .int .u64 x, .bool hit, .int .i64 code, .int .i64 vk, .int .i64 vn, .bool yes] 99 (0, 0)) * (pt w2.heap.size (.cells #[.int .i64 a, .int .i64 b] 24 (0, 0)) * (pt w.heap.size (.cells #[.pointer (some ⟨d, 0, none⟩)] 33 (0, 0)) * (MemP 120 mb (M.loaded fld) * R)))) (by ac_rfl)).set 14 (.bool true); have p0 := H4.drop.cells; have p1 := H4.cells; have p2 := H4.drop.drop.cells; have s4 : Hid (Strm w _) := ((((Strm.refl w).alloc _).trans s2).alloc (.cells #[.int .i64 a, .int .i64 b] 24)).set ⟨d, 14, none⟩ (.bool true)))
      go_quiet (fail)
      have H5 : Hid (Holds _ (pt d (.cells #[kv, .int .i64 fld, .int .i64 op, .int .i64 at_, .int .i64 rf, .int .i64 ek, .int .i64 en, .int .i64 nk, .int .i64 nn, .bool sh, .bool false, .bool fx, .int .i64 mark, .int .u64 x, .bool true, .int .i64 code, .int .i64 vk, .int .i64 vn, .bool yes] 99 (0, 0)) * (pt w2.heap.size (.cells #[.int .i64 a, .int .i64 b] 24 (0, 0)) * (pt w.heap.size (.cells #[.pointer (some ⟨d, 0, none⟩)] 33 (0, 0)) * (MemP 120 mb (M.loaded fld) * R))))) := (H4.cast (Q := pt d (.cells #[kv, .int .i64 fld, .int .i64 op, .int .i64 at_, .int .i64 rf, .int .i64 ek, .int .i64 en, .int .i64 nk, .int .i64 nn, .bool sh, .bool false, .bool fx, .int .i64 mark, .int .u64 x, .bool true, .int .i64 code, .int .i64 vk, .int .i64 vn, .bool yes] 99 (0, 0)) * (pt w2.heap.size (.cells #[.int .i64 a, .int .i64 b] 24 (0, 0)) * (pt w.heap.size (.cells #[.pointer (some ⟨d, 0, none⟩)] 33 (0, 0)) * (MemP 120 mb (M.loaded fld) * R)))) (by simp only [List.setIfInBounds_toArray, List.set_cons_succ, List.set_cons_zero])).drewN nq
      have u0 := H5.out.drop.cells
      have u1 := H5.out.cells
      have u2 := H5.out.drop.drop.cells
      have s5 : Hid (Strm w _) := s4.out.drewN nq
      have t1 : True := trivial
      go_wp2_with (first | (go_at_call 63; have _t := t1; (with_reducible refine (FV.out _).mono ?_); rintro e w6 ⟨rfl, hb⟩; have H6 := H5.out.kept hb; have u0 := H6.drop.cells; have u1 := H6.cells; have u2 := H6.drop.drop.cells; have s6 : Hid (Strm w w6) := s5.out.trans (Strm.below hb); clear hb t1) | (go_at_call 63; (with_reducible refine (FE.out _).mono ?_); rintro e w7 ⟨rfl, hb⟩; have H7 := H6.kept hb; have u0 := H7.drop.cells; have u1 := H7.cells; have u2 := H7.drop.drop.cells; have s7 : Hid (Strm w w7) := s6.out.trans (Strm.below hb); clear hb))
      go_ret
      exact left_fin HK.out ((H5.out.cast (Q := pt w2.heap.size (.cells #[.int .i64 a, .int .i64 b] 24 (0, 0)) * (pt w.heap.size (.cells #[.pointer (some ⟨d, 0, none⟩)] 33 (0, 0)) * (MemP 120 mb (M.loaded fld) * (pt d (.cells #[kv, .int .i64 fld, .int .i64 op, .int .i64 at_, .int .i64 rf, .int .i64 ek, .int .i64 en, .int .i64 nk, .int .i64 nn, .bool sh, .bool false, .bool fx, .int .i64 mark, .int .u64 x, .bool true, .int .i64 code, .int .i64 vk, .int .i64 vn, .bool yes] 99 (0, 0)) * R)))) (by ac_rfl)).drop.drop) s5.out
    | true =>
      subst hca
      cases hfa : farB a b with
      | false =>
        rw [hfa] at FV
        have HK : Hid (kq = .fin) := by rw [Hid, ← hkk]; simp [*]
        clear hkk
        go_enter Try.func45, Try.ntmps45
        go_wp2_with (first | (go_at_call 62; (refine (LD.out _ _ HH.out).mono ?_); rintro e w2 ⟨rfl, H2, s2⟩; have H3 := (H2.cast (Q := pt d (.cells #[kv, .int .i64 fld, .int .i64 op, .int .i64 at_, .int .i64 rf, .int .i64 ek, .int .i64 en, .int .i64 nk, .int .i64 nn, .bool sh, .bool true, .bool fx, .int .i64 mark, .int .u64 x, .bool hit, .int .i64 code, .int .i64 vk, .int .i64 vn, .bool yes] 99 (0, 0)) * (pt w.heap.size (.cells #[.pointer (some ⟨d, 0, none⟩)] 33 (0, 0)) * (MemP 120 mb (M.loaded fld) * R))) (by ac_rfl)).alloc (.cells #[.int .i64 a, .int .i64 b] 24); have hpx := H3.drop.drop.lt; have hpd := H3.drop.lt; have q0 := H3.cells; have q1 := H3.drop.cells; have q2 := H3.drop.drop.cells; have f1 := H3.drop.frees; have H4 := (H3.cast (Q := pt d (.cells #[kv, .int .i64 fld, .int .i64 op, .int .i64 at_, .int .i64 rf, .int .i64 ek, .int .i64 en, .int .i64 nk, .int .i64 nn, .bool sh, .bool true, .bool fx, .int .i64 mark, .int .u64 x, .bool hit, .int .i64 code, .int .i64 vk, .int .i64 vn, .bool yes] 99 (0, 0)) * (pt w2.heap.size (.cells #[.int .i64 a, .int .i64 b] 24 (0, 0)) * (pt w.heap.size (.cells #[.pointer (some ⟨d, 0, none⟩)] 33 (0, 0)) * (MemP 120 mb (M.loaded fld) * R)))) (by ac_rfl)).set 14 (.bool true); have p0 := H4.drop.cells; have p1 := H4.cells; have p2 := H4.drop.drop.cells; have s4 : Hid (Strm w _) := ((((Strm.refl w).alloc _).trans s2).alloc (.cells #[.int .i64 a, .int .i64 b] 24)).set ⟨d, 14, none⟩ (.bool true)))
        go_quiet (fail)
        have H5 : Hid (Holds _ (pt d (.cells #[kv, .int .i64 fld, .int .i64 op, .int .i64 at_, .int .i64 rf, .int .i64 ek, .int .i64 en, .int .i64 nk, .int .i64 nn, .bool sh, .bool true, .bool fx, .int .i64 mark, .int .u64 x, .bool true, .int .i64 code, .int .i64 vk, .int .i64 vn, .bool yes] 99 (0, 0)) * (pt w2.heap.size (.cells #[.int .i64 a, .int .i64 b] 24 (0, 0)) * (pt w.heap.size (.cells #[.pointer (some ⟨d, 0, none⟩)] 33 (0, 0)) * (MemP 120 mb (M.loaded fld) * R))))) := (H4.cast (Q := pt d (.cells #[kv, .int .i64 fld, .int .i64 op, .int .i64 at_, .int .i64 rf, .int .i64 ek, .int .i64 en, .int .i64 nk, .int .i64 nn, .bool sh, .bool true, .bool fx, .int .i64 mark, .int .u64 x, .bool true, .int .i64 code, .int .i64 vk, .int .i64 vn, .bool yes] 99 (0, 0)) * (pt w2.heap.size (.cells #[.int .i64 a, .int .i64 b] 24 (0, 0)) * (pt w.heap.size (.cells #[.pointer (some ⟨d, 0, none⟩)] 33 (0, 0)) * (MemP 120 mb (M.loaded fld) * R)))) (by simp only [List.setIfInBounds_toArray, List.set_cons_succ, List.set_cons_zero])).drewN nq
        have u0 := H5.out.drop.cells
        have u1 := H5.out.cells
        have u2 := H5.out.drop.drop.cells
        have s5 : Hid (Strm w _) := s4.out.drewN nq
        have t1 : True := trivial
        go_wp2_with (first | (go_at_call 63; have _t := t1; (with_reducible refine (FV.out _).mono ?_); rintro e w6 ⟨rfl, hb⟩; have H6 := H5.out.kept hb; have u0 := H6.drop.cells; have u1 := H6.cells; have u2 := H6.drop.drop.cells; have s6 : Hid (Strm w w6) := s5.out.trans (Strm.below hb); clear hb t1) | (go_at_call 63; (with_reducible refine (FE.out _).mono ?_); rintro e w7 ⟨rfl, hb⟩; have H7 := H6.kept hb; have u0 := H7.drop.cells; have u1 := H7.cells; have u2 := H7.drop.drop.cells; have s7 : Hid (Strm w w7) := s6.out.trans (Strm.below hb); clear hb))
        go_ret
        exact left_fin HK.out ((H6.cast (Q := pt w2.heap.size (.cells #[.int .i64 a, .int .i64 b] 24 (0, 0)) * (pt w.heap.size (.cells #[.pointer (some ⟨d, 0, none⟩)] 33 (0, 0)) * (MemP 120 mb (M.loaded fld) * (pt d (.cells #[kv, .int .i64 fld, .int .i64 op, .int .i64 at_, .int .i64 rf, .int .i64 ek, .int .i64 en, .int .i64 nk, .int .i64 nn, .bool sh, .bool true, .bool fx, .int .i64 mark, .int .u64 x, .bool true, .int .i64 code, .int .i64 vk, .int .i64 vn, .bool yes] 99 (0, 0)) * R)))) (by ac_rfl)).drop.drop) s6.out
      | true =>
        rw [hfa] at FV
        cases hfe : farB ek en with
        | false =>
          rw [hfe] at FE
          have HK : Hid (kq = .fin) := by rw [Hid, ← hkk]; simp [*]
          clear hkk
          go_enter Try.func45, Try.ntmps45
          go_wp2_with (first | (go_at_call 62; (refine (LD.out _ _ HH.out).mono ?_); rintro e w2 ⟨rfl, H2, s2⟩; have H3 := (H2.cast (Q := pt d (.cells #[kv, .int .i64 fld, .int .i64 op, .int .i64 at_, .int .i64 rf, .int .i64 ek, .int .i64 en, .int .i64 nk, .int .i64 nn, .bool sh, .bool true, .bool fx, .int .i64 mark, .int .u64 x, .bool hit, .int .i64 code, .int .i64 vk, .int .i64 vn, .bool yes] 99 (0, 0)) * (pt w.heap.size (.cells #[.pointer (some ⟨d, 0, none⟩)] 33 (0, 0)) * (MemP 120 mb (M.loaded fld) * R))) (by ac_rfl)).alloc (.cells #[.int .i64 a, .int .i64 b] 24); have hpx := H3.drop.drop.lt; have hpd := H3.drop.lt; have q0 := H3.cells; have q1 := H3.drop.cells; have q2 := H3.drop.drop.cells; have f1 := H3.drop.frees; have H4 := (H3.cast (Q := pt d (.cells #[kv, .int .i64 fld, .int .i64 op, .int .i64 at_, .int .i64 rf, .int .i64 ek, .int .i64 en, .int .i64 nk, .int .i64 nn, .bool sh, .bool true, .bool fx, .int .i64 mark, .int .u64 x, .bool hit, .int .i64 code, .int .i64 vk, .int .i64 vn, .bool yes] 99 (0, 0)) * (pt w2.heap.size (.cells #[.int .i64 a, .int .i64 b] 24 (0, 0)) * (pt w.heap.size (.cells #[.pointer (some ⟨d, 0, none⟩)] 33 (0, 0)) * (MemP 120 mb (M.loaded fld) * R)))) (by ac_rfl)).set 14 (.bool true); have p0 := H4.drop.cells; have p1 := H4.cells; have p2 := H4.drop.drop.cells; have s4 : Hid (Strm w _) := ((((Strm.refl w).alloc _).trans s2).alloc (.cells #[.int .i64 a, .int .i64 b] 24)).set ⟨d, 14, none⟩ (.bool true)))
          go_quiet (fail)
          have H5 : Hid (Holds _ (pt d (.cells #[kv, .int .i64 fld, .int .i64 op, .int .i64 at_, .int .i64 rf, .int .i64 ek, .int .i64 en, .int .i64 nk, .int .i64 nn, .bool sh, .bool true, .bool fx, .int .i64 mark, .int .u64 x, .bool true, .int .i64 code, .int .i64 vk, .int .i64 vn, .bool yes] 99 (0, 0)) * (pt w2.heap.size (.cells #[.int .i64 a, .int .i64 b] 24 (0, 0)) * (pt w.heap.size (.cells #[.pointer (some ⟨d, 0, none⟩)] 33 (0, 0)) * (MemP 120 mb (M.loaded fld) * R))))) := (H4.cast (Q := pt d (.cells #[kv, .int .i64 fld, .int .i64 op, .int .i64 at_, .int .i64 rf, .int .i64 ek, .int .i64 en, .int .i64 nk, .int .i64 nn, .bool sh, .bool true, .bool fx, .int .i64 mark, .int .u64 x, .bool true, .int .i64 code, .int .i64 vk, .int .i64 vn, .bool yes] 99 (0, 0)) * (pt w2.heap.size (.cells #[.int .i64 a, .int .i64 b] 24 (0, 0)) * (pt w.heap.size (.cells #[.pointer (some ⟨d, 0, none⟩)] 33 (0, 0)) * (MemP 120 mb (M.loaded fld) * R)))) (by simp only [List.setIfInBounds_toArray, List.set_cons_succ, List.set_cons_zero])).drewN nq
          have u0 := H5.out.drop.cells
          have u1 := H5.out.cells
          have u2 := H5.out.drop.drop.cells
          have s5 : Hid (Strm w _) := s4.out.drewN nq
          have t1 : True := trivial
          go_wp2_with (first | (go_at_call 63; have _t := t1; (with_reducible refine (FV.out _).mono ?_); rintro e w6 ⟨rfl, hb⟩; have H6 := H5.out.kept hb; have u0 := H6.drop.cells; have u1 := H6.cells; have u2 := H6.drop.drop.cells; have s6 : Hid (Strm w w6) := s5.out.trans (Strm.below hb); clear hb t1) | (go_at_call 63; (with_reducible refine (FE.out _).mono ?_); rintro e w7 ⟨rfl, hb⟩; have H7 := H6.kept hb; have u0 := H7.drop.cells; have u1 := H7.cells; have u2 := H7.drop.drop.cells; have s7 : Hid (Strm w w7) := s6.out.trans (Strm.below hb); clear hb))
          go_ret
          exact left_fin HK.out ((H7.cast (Q := pt w2.heap.size (.cells #[.int .i64 a, .int .i64 b] 24 (0, 0)) * (pt w.heap.size (.cells #[.pointer (some ⟨d, 0, none⟩)] 33 (0, 0)) * (MemP 120 mb (M.loaded fld) * (pt d (.cells #[kv, .int .i64 fld, .int .i64 op, .int .i64 at_, .int .i64 rf, .int .i64 ek, .int .i64 en, .int .i64 nk, .int .i64 nn, .bool sh, .bool true, .bool fx, .int .i64 mark, .int .u64 x, .bool true, .int .i64 code, .int .i64 vk, .int .i64 vn, .bool yes] 99 (0, 0)) * R)))) (by ac_rfl)).drop.drop) s7.out
        | true =>
          rw [hfe] at FE
          have HK : Hid (kq = .canA a b) := by rw [Hid, ← hkk]; simp [*]
          clear hkk
          go_enter Try.func45, Try.ntmps45
          go_wp2_with (first | (go_at_call 62; (refine (LD.out _ _ HH.out).mono ?_); rintro e w2 ⟨rfl, H2, s2⟩; have H3 := (H2.cast (Q := pt d (.cells #[kv, .int .i64 fld, .int .i64 op, .int .i64 at_, .int .i64 rf, .int .i64 ek, .int .i64 en, .int .i64 nk, .int .i64 nn, .bool sh, .bool true, .bool fx, .int .i64 mark, .int .u64 x, .bool hit, .int .i64 code, .int .i64 vk, .int .i64 vn, .bool yes] 99 (0, 0)) * (pt w.heap.size (.cells #[.pointer (some ⟨d, 0, none⟩)] 33 (0, 0)) * (MemP 120 mb (M.loaded fld) * R))) (by ac_rfl)).alloc (.cells #[.int .i64 a, .int .i64 b] 24); have hpx := H3.drop.drop.lt; have hpd := H3.drop.lt; have q0 := H3.cells; have q1 := H3.drop.cells; have q2 := H3.drop.drop.cells; have f1 := H3.drop.frees; have H4 := (H3.cast (Q := pt d (.cells #[kv, .int .i64 fld, .int .i64 op, .int .i64 at_, .int .i64 rf, .int .i64 ek, .int .i64 en, .int .i64 nk, .int .i64 nn, .bool sh, .bool true, .bool fx, .int .i64 mark, .int .u64 x, .bool hit, .int .i64 code, .int .i64 vk, .int .i64 vn, .bool yes] 99 (0, 0)) * (pt w2.heap.size (.cells #[.int .i64 a, .int .i64 b] 24 (0, 0)) * (pt w.heap.size (.cells #[.pointer (some ⟨d, 0, none⟩)] 33 (0, 0)) * (MemP 120 mb (M.loaded fld) * R)))) (by ac_rfl)).set 14 (.bool true); have p0 := H4.drop.cells; have p1 := H4.cells; have p2 := H4.drop.drop.cells; have s4 : Hid (Strm w _) := ((((Strm.refl w).alloc _).trans s2).alloc (.cells #[.int .i64 a, .int .i64 b] 24)).set ⟨d, 14, none⟩ (.bool true)))
          go_quiet (fail)
          have H5 : Hid (Holds _ (pt d (.cells #[kv, .int .i64 fld, .int .i64 op, .int .i64 at_, .int .i64 rf, .int .i64 ek, .int .i64 en, .int .i64 nk, .int .i64 nn, .bool sh, .bool true, .bool fx, .int .i64 mark, .int .u64 x, .bool true, .int .i64 code, .int .i64 vk, .int .i64 vn, .bool yes] 99 (0, 0)) * (pt w2.heap.size (.cells #[.int .i64 a, .int .i64 b] 24 (0, 0)) * (pt w.heap.size (.cells #[.pointer (some ⟨d, 0, none⟩)] 33 (0, 0)) * (MemP 120 mb (M.loaded fld) * R))))) := (H4.cast (Q := pt d (.cells #[kv, .int .i64 fld, .int .i64 op, .int .i64 at_, .int .i64 rf, .int .i64 ek, .int .i64 en, .int .i64 nk, .int .i64 nn, .bool sh, .bool true, .bool fx, .int .i64 mark, .int .u64 x, .bool true, .int .i64 code, .int .i64 vk, .int .i64 vn, .bool yes] 99 (0, 0)) * (pt w2.heap.size (.cells #[.int .i64 a, .int .i64 b] 24 (0, 0)) * (pt w.heap.size (.cells #[.pointer (some ⟨d, 0, none⟩)] 33 (0, 0)) * (MemP 120 mb (M.loaded fld) * R)))) (by simp only [List.setIfInBounds_toArray, List.set_cons_succ, List.set_cons_zero])).drewN nq
          have u0 := H5.out.drop.cells
          have u1 := H5.out.cells
          have u2 := H5.out.drop.drop.cells
          have s5 : Hid (Strm w _) := s4.out.drewN nq
          have t1 : True := trivial
          go_wp2_with (first | (go_at_call 63; have _t := t1; (with_reducible refine (FV.out _).mono ?_); rintro e w6 ⟨rfl, hb⟩; have H6 := H5.out.kept hb; have u0 := H6.drop.cells; have u1 := H6.cells; have u2 := H6.drop.drop.cells; have s6 : Hid (Strm w w6) := s5.out.trans (Strm.below hb); clear hb t1) | (go_at_call 63; (with_reducible refine (FE.out _).mono ?_); rintro e w7 ⟨rfl, hb⟩; have H7 := H6.kept hb; have u0 := H7.drop.cells; have u1 := H7.cells; have u2 := H7.drop.drop.cells; have s7 : Hid (Strm w w7) := s6.out.trans (Strm.below hb); clear hb))
          go_ret
          refine ⟨_, rfl, ?_, s7.out⟩
          refine Holds.cast (P := DK.P d (.func (.func 68) #[] #[.pointer (some ⟨w2.heap.size, 0, none⟩), .pointer (some ⟨w.heap.size, 0, none⟩)]) (.canA a b) * (MemP 120 mb (M.loaded fld) * (pt d (.cells #[kv, .int .i64 fld, .int .i64 op, .int .i64 at_, .int .i64 rf, .int .i64 ek, .int .i64 en, .int .i64 nk, .int .i64 nn, .bool sh, .bool true, .bool fx, .int .i64 mark, .int .u64 x, .bool true, .int .i64 code, .int .i64 vk, .int .i64 vn, .bool yes] 99 (0, 0)) * R))) ?_ (by rw [← HK.out]; simp only [DS.cells]; ac_rfl)
          refine holds_ex_mk w2.heap.size ?_
          refine holds_ex_mk w.heap.size ?_
          refine holds_and_mk rfl ?_
          exact H7.cast (by ac_rfl)
  · have hq1 : (a == ek) = false := by simpa using h1
    clear he h1
    cases hca : ca with
    | false =>
      subst hca
      have HK : Hid (kq = .fin) := by rw [Hid, ← hkk]; simp [*]
      clear hkk
      go_enter Try.func45, Try.ntmps45
      go_wp2_with (first | (go_at_call 62; (refine (LD.out _ _ HH.out).mono ?_); rintro e w2 ⟨rfl, H2, s2⟩; have H3 := (H2.cast (Q := pt d (.cells #[kv, .int .i64 fld, .int .i64 op, .int .i64 at_, .int .i64 rf, .int .i64 ek, .int .i64 en, .int .i64 nk, .int .i64 nn, .bool sh, .bool false, .bool fx, .int .i64 mark, .int .u64 x, .bool hit, .int .i64 code, .int .i64 vk, .int .i64 vn, .bool yes] 99 (0, 0)) * (pt w.heap.size (.cells #[.pointer (some ⟨d, 0, none⟩)] 33 (0, 0)) * (MemP 120 mb (M.loaded fld) * R))) (by ac_rfl)).alloc (.cells #[.int .i64 a, .int .i64 b] 24); have hpx := H3.drop.drop.lt; have hpd := H3.drop.lt; have q0 := H3.cells; have q1 := H3.drop.cells; have q2 := H3.drop.drop.cells; have f1 := H3.drop.frees; have H4 := (H3.cast (Q := pt d (.cells #[kv, .int .i64 fld, .int .i64 op, .int .i64 at_, .int .i64 rf, .int .i64 ek, .int .i64 en, .int .i64 nk, .int .i64 nn, .bool sh, .bool false, .bool fx, .int .i64 mark, .int .u64 x, .bool hit, .int .i64 code, .int .i64 vk, .int .i64 vn, .bool yes] 99 (0, 0)) * (pt w2.heap.size (.cells #[.int .i64 a, .int .i64 b] 24 (0, 0)) * (pt w.heap.size (.cells #[.pointer (some ⟨d, 0, none⟩)] 33 (0, 0)) * (MemP 120 mb (M.loaded fld) * R)))) (by ac_rfl)).set 14 (.bool true); have p0 := H4.drop.cells; have p1 := H4.cells; have p2 := H4.drop.drop.cells; have s4 : Hid (Strm w _) := ((((Strm.refl w).alloc _).trans s2).alloc (.cells #[.int .i64 a, .int .i64 b] 24)).set ⟨d, 14, none⟩ (.bool true)))
      go_quiet (fail)
      have H5 : Hid (Holds _ (pt d (.cells #[kv, .int .i64 fld, .int .i64 op, .int .i64 at_, .int .i64 rf, .int .i64 ek, .int .i64 en, .int .i64 nk, .int .i64 nn, .bool sh, .bool false, .bool fx, .int .i64 mark, .int .u64 x, .bool true, .int .i64 code, .int .i64 vk, .int .i64 vn, .bool yes] 99 (0, 0)) * (pt w2.heap.size (.cells #[.int .i64 a, .int .i64 b] 24 (0, 0)) * (pt w.heap.size (.cells #[.pointer (some ⟨d, 0, none⟩)] 33 (0, 0)) * (MemP 120 mb (M.loaded fld) * R))))) := (H4.cast (Q := pt d (.cells #[kv, .int .i64 fld, .int .i64 op, .int .i64 at_, .int .i64 rf, .int .i64 ek, .int .i64 en, .int .i64 nk, .int .i64 nn, .bool sh, .bool false, .bool fx, .int .i64 mark, .int .u64 x, .bool true, .int .i64 code, .int .i64 vk, .int .i64 vn, .bool yes] 99 (0, 0)) * (pt w2.heap.size (.cells #[.int .i64 a, .int .i64 b] 24 (0, 0)) * (pt w.heap.size (.cells #[.pointer (some ⟨d, 0, none⟩)] 33 (0, 0)) * (MemP 120 mb (M.loaded fld) * R)))) (by simp only [List.setIfInBounds_toArray, List.set_cons_succ, List.set_cons_zero])).drewN nq
      have u0 := H5.out.drop.cells
      have u1 := H5.out.cells
      have u2 := H5.out.drop.drop.cells
      have s5 : Hid (Strm w _) := s4.out.drewN nq
      have t1 : True := trivial
      go_wp2_with (first | (go_at_call 63; have _t := t1; (with_reducible refine (FV.out _).mono ?_); rintro e w6 ⟨rfl, hb⟩; have H6 := H5.out.kept hb; have u0 := H6.drop.cells; have u1 := H6.cells; have u2 := H6.drop.drop.cells; have s6 : Hid (Strm w w6) := s5.out.trans (Strm.below hb); clear hb t1) | (go_at_call 63; (with_reducible refine (FE.out _).mono ?_); rintro e w7 ⟨rfl, hb⟩; have H7 := H6.kept hb; have u0 := H7.drop.cells; have u1 := H7.cells; have u2 := H7.drop.drop.cells; have s7 : Hid (Strm w w7) := s6.out.trans (Strm.below hb); clear hb))
      go_ret
      exact left_fin HK.out ((H5.out.cast (Q := pt w2.heap.size (.cells #[.int .i64 a, .int .i64 b] 24 (0, 0)) * (pt w.heap.size (.cells #[.pointer (some ⟨d, 0, none⟩)] 33 (0, 0)) * (MemP 120 mb (M.loaded fld) * (pt d (.cells #[kv, .int .i64 fld, .int .i64 op, .int .i64 at_, .int .i64 rf, .int .i64 ek, .int .i64 en, .int .i64 nk, .int .i64 nn, .bool sh, .bool false, .bool fx, .int .i64 mark, .int .u64 x, .bool true, .int .i64 code, .int .i64 vk, .int .i64 vn, .bool yes] 99 (0, 0)) * R)))) (by ac_rfl)).drop.drop) s5.out
    | true =>
      subst hca
      cases hfa : farB a b with
      | false =>
        rw [hfa] at FV
        have HK : Hid (kq = .fin) := by rw [Hid, ← hkk]; simp [*]
        clear hkk
        go_enter Try.func45, Try.ntmps45
        go_wp2_with (first | (go_at_call 62; (refine (LD.out _ _ HH.out).mono ?_); rintro e w2 ⟨rfl, H2, s2⟩; have H3 := (H2.cast (Q := pt d (.cells #[kv, .int .i64 fld, .int .i64 op, .int .i64 at_, .int .i64 rf, .int .i64 ek, .int .i64 en, .int .i64 nk, .int .i64 nn, .bool sh, .bool true, .bool fx, .int .i64 mark, .int .u64 x, .bool hit, .int .i64 code, .int .i64 vk, .int .i64 vn, .bool yes] 99 (0, 0)) * (pt w.heap.size (.cells #[.pointer (some ⟨d, 0, none⟩)] 33 (0, 0)) * (MemP 120 mb (M.loaded fld) * R))) (by ac_rfl)).alloc (.cells #[.int .i64 a, .int .i64 b] 24); have hpx := H3.drop.drop.lt; have hpd := H3.drop.lt; have q0 := H3.cells; have q1 := H3.drop.cells; have q2 := H3.drop.drop.cells; have f1 := H3.drop.frees; have H4 := (H3.cast (Q := pt d (.cells #[kv, .int .i64 fld, .int .i64 op, .int .i64 at_, .int .i64 rf, .int .i64 ek, .int .i64 en, .int .i64 nk, .int .i64 nn, .bool sh, .bool true, .bool fx, .int .i64 mark, .int .u64 x, .bool hit, .int .i64 code, .int .i64 vk, .int .i64 vn, .bool yes] 99 (0, 0)) * (pt w2.heap.size (.cells #[.int .i64 a, .int .i64 b] 24 (0, 0)) * (pt w.heap.size (.cells #[.pointer (some ⟨d, 0, none⟩)] 33 (0, 0)) * (MemP 120 mb (M.loaded fld) * R)))) (by ac_rfl)).set 14 (.bool true); have p0 := H4.drop.cells; have p1 := H4.cells; have p2 := H4.drop.drop.cells; have s4 : Hid (Strm w _) := ((((Strm.refl w).alloc _).trans s2).alloc (.cells #[.int .i64 a, .int .i64 b] 24)).set ⟨d, 14, none⟩ (.bool true)))
        go_quiet (fail)
        have H5 : Hid (Holds _ (pt d (.cells #[kv, .int .i64 fld, .int .i64 op, .int .i64 at_, .int .i64 rf, .int .i64 ek, .int .i64 en, .int .i64 nk, .int .i64 nn, .bool sh, .bool true, .bool fx, .int .i64 mark, .int .u64 x, .bool true, .int .i64 code, .int .i64 vk, .int .i64 vn, .bool yes] 99 (0, 0)) * (pt w2.heap.size (.cells #[.int .i64 a, .int .i64 b] 24 (0, 0)) * (pt w.heap.size (.cells #[.pointer (some ⟨d, 0, none⟩)] 33 (0, 0)) * (MemP 120 mb (M.loaded fld) * R))))) := (H4.cast (Q := pt d (.cells #[kv, .int .i64 fld, .int .i64 op, .int .i64 at_, .int .i64 rf, .int .i64 ek, .int .i64 en, .int .i64 nk, .int .i64 nn, .bool sh, .bool true, .bool fx, .int .i64 mark, .int .u64 x, .bool true, .int .i64 code, .int .i64 vk, .int .i64 vn, .bool yes] 99 (0, 0)) * (pt w2.heap.size (.cells #[.int .i64 a, .int .i64 b] 24 (0, 0)) * (pt w.heap.size (.cells #[.pointer (some ⟨d, 0, none⟩)] 33 (0, 0)) * (MemP 120 mb (M.loaded fld) * R)))) (by simp only [List.setIfInBounds_toArray, List.set_cons_succ, List.set_cons_zero])).drewN nq
        have u0 := H5.out.drop.cells
        have u1 := H5.out.cells
        have u2 := H5.out.drop.drop.cells
        have s5 : Hid (Strm w _) := s4.out.drewN nq
        have t1 : True := trivial
        go_wp2_with (first | (go_at_call 63; have _t := t1; (with_reducible refine (FV.out _).mono ?_); rintro e w6 ⟨rfl, hb⟩; have H6 := H5.out.kept hb; have u0 := H6.drop.cells; have u1 := H6.cells; have u2 := H6.drop.drop.cells; have s6 : Hid (Strm w w6) := s5.out.trans (Strm.below hb); clear hb t1) | (go_at_call 63; (with_reducible refine (FE.out _).mono ?_); rintro e w7 ⟨rfl, hb⟩; have H7 := H6.kept hb; have u0 := H7.drop.cells; have u1 := H7.cells; have u2 := H7.drop.drop.cells; have s7 : Hid (Strm w w7) := s6.out.trans (Strm.below hb); clear hb))
        go_ret
        exact left_fin HK.out ((H6.cast (Q := pt w2.heap.size (.cells #[.int .i64 a, .int .i64 b] 24 (0, 0)) * (pt w.heap.size (.cells #[.pointer (some ⟨d, 0, none⟩)] 33 (0, 0)) * (MemP 120 mb (M.loaded fld) * (pt d (.cells #[kv, .int .i64 fld, .int .i64 op, .int .i64 at_, .int .i64 rf, .int .i64 ek, .int .i64 en, .int .i64 nk, .int .i64 nn, .bool sh, .bool true, .bool fx, .int .i64 mark, .int .u64 x, .bool true, .int .i64 code, .int .i64 vk, .int .i64 vn, .bool yes] 99 (0, 0)) * R)))) (by ac_rfl)).drop.drop) s6.out
      | true =>
        rw [hfa] at FV
        cases hfe : farB ek en with
        | false =>
          rw [hfe] at FE
          have HK : Hid (kq = .fin) := by rw [Hid, ← hkk]; simp [*]
          clear hkk
          go_enter Try.func45, Try.ntmps45
          go_wp2_with (first | (go_at_call 62; (refine (LD.out _ _ HH.out).mono ?_); rintro e w2 ⟨rfl, H2, s2⟩; have H3 := (H2.cast (Q := pt d (.cells #[kv, .int .i64 fld, .int .i64 op, .int .i64 at_, .int .i64 rf, .int .i64 ek, .int .i64 en, .int .i64 nk, .int .i64 nn, .bool sh, .bool true, .bool fx, .int .i64 mark, .int .u64 x, .bool hit, .int .i64 code, .int .i64 vk, .int .i64 vn, .bool yes] 99 (0, 0)) * (pt w.heap.size (.cells #[.pointer (some ⟨d, 0, none⟩)] 33 (0, 0)) * (MemP 120 mb (M.loaded fld) * R))) (by ac_rfl)).alloc (.cells #[.int .i64 a, .int .i64 b] 24); have hpx := H3.drop.drop.lt; have hpd := H3.drop.lt; have q0 := H3.cells; have q1 := H3.drop.cells; have q2 := H3.drop.drop.cells; have f1 := H3.drop.frees; have H4 := (H3.cast (Q := pt d (.cells #[kv, .int .i64 fld, .int .i64 op, .int .i64 at_, .int .i64 rf, .int .i64 ek, .int .i64 en, .int .i64 nk, .int .i64 nn, .bool sh, .bool true, .bool fx, .int .i64 mark, .int .u64 x, .bool hit, .int .i64 code, .int .i64 vk, .int .i64 vn, .bool yes] 99 (0, 0)) * (pt w2.heap.size (.cells #[.int .i64 a, .int .i64 b] 24 (0, 0)) * (pt w.heap.size (.cells #[.pointer (some ⟨d, 0, none⟩)] 33 (0, 0)) * (MemP 120 mb (M.loaded fld) * R)))) (by ac_rfl)).set 14 (.bool true); have p0 := H4.drop.cells; have p1 := H4.cells; have p2 := H4.drop.drop.cells; have s4 : Hid (Strm w _) := ((((Strm.refl w).alloc _).trans s2).alloc (.cells #[.int .i64 a, .int .i64 b] 24)).set ⟨d, 14, none⟩ (.bool true)))
          go_quiet (fail)
          have H5 : Hid (Holds _ (pt d (.cells #[kv, .int .i64 fld, .int .i64 op, .int .i64 at_, .int .i64 rf, .int .i64 ek, .int .i64 en, .int .i64 nk, .int .i64 nn, .bool sh, .bool true, .bool fx, .int .i64 mark, .int .u64 x, .bool true, .int .i64 code, .int .i64 vk, .int .i64 vn, .bool yes] 99 (0, 0)) * (pt w2.heap.size (.cells #[.int .i64 a, .int .i64 b] 24 (0, 0)) * (pt w.heap.size (.cells #[.pointer (some ⟨d, 0, none⟩)] 33 (0, 0)) * (MemP 120 mb (M.loaded fld) * R))))) := (H4.cast (Q := pt d (.cells #[kv, .int .i64 fld, .int .i64 op, .int .i64 at_, .int .i64 rf, .int .i64 ek, .int .i64 en, .int .i64 nk, .int .i64 nn, .bool sh, .bool true, .bool fx, .int .i64 mark, .int .u64 x, .bool true, .int .i64 code, .int .i64 vk, .int .i64 vn, .bool yes] 99 (0, 0)) * (pt w2.heap.size (.cells #[.int .i64 a, .int .i64 b] 24 (0, 0)) * (pt w.heap.size (.cells #[.pointer (some ⟨d, 0, none⟩)] 33 (0, 0)) * (MemP 120 mb (M.loaded fld) * R)))) (by simp only [List.setIfInBounds_toArray, List.set_cons_succ, List.set_cons_zero])).drewN nq
          have u0 := H5.out.drop.cells
          have u1 := H5.out.cells
          have u2 := H5.out.drop.drop.cells
          have s5 : Hid (Strm w _) := s4.out.drewN nq
          have t1 : True := trivial
          go_wp2_with (first | (go_at_call 63; have _t := t1; (with_reducible refine (FV.out _).mono ?_); rintro e w6 ⟨rfl, hb⟩; have H6 := H5.out.kept hb; have u0 := H6.drop.cells; have u1 := H6.cells; have u2 := H6.drop.drop.cells; have s6 : Hid (Strm w w6) := s5.out.trans (Strm.below hb); clear hb t1) | (go_at_call 63; (with_reducible refine (FE.out _).mono ?_); rintro e w7 ⟨rfl, hb⟩; have H7 := H6.kept hb; have u0 := H7.drop.cells; have u1 := H7.cells; have u2 := H7.drop.drop.cells; have s7 : Hid (Strm w w7) := s6.out.trans (Strm.below hb); clear hb))
          go_ret
          exact left_fin HK.out ((H7.cast (Q := pt w2.heap.size (.cells #[.int .i64 a, .int .i64 b] 24 (0, 0)) * (pt w.heap.size (.cells #[.pointer (some ⟨d, 0, none⟩)] 33 (0, 0)) * (MemP 120 mb (M.loaded fld) * (pt d (.cells #[kv, .int .i64 fld, .int .i64 op, .int .i64 at_, .int .i64 rf, .int .i64 ek, .int .i64 en, .int .i64 nk, .int .i64 nn, .bool sh, .bool true, .bool fx, .int .i64 mark, .int .u64 x, .bool true, .int .i64 code, .int .i64 vk, .int .i64 vn, .bool yes] 99 (0, 0)) * R)))) (by ac_rfl)).drop.drop) s7.out
        | true =>
          rw [hfe] at FE
          have HK : Hid (kq = .canA a b) := by rw [Hid, ← hkk]; simp [*]
          clear hkk
          go_enter Try.func45, Try.ntmps45
          go_wp2_with (first | (go_at_call 62; (refine (LD.out _ _ HH.out).mono ?_); rintro e w2 ⟨rfl, H2, s2⟩; have H3 := (H2.cast (Q := pt d (.cells #[kv, .int .i64 fld, .int .i64 op, .int .i64 at_, .int .i64 rf, .int .i64 ek, .int .i64 en, .int .i64 nk, .int .i64 nn, .bool sh, .bool true, .bool fx, .int .i64 mark, .int .u64 x, .bool hit, .int .i64 code, .int .i64 vk, .int .i64 vn, .bool yes] 99 (0, 0)) * (pt w.heap.size (.cells #[.pointer (some ⟨d, 0, none⟩)] 33 (0, 0)) * (MemP 120 mb (M.loaded fld) * R))) (by ac_rfl)).alloc (.cells #[.int .i64 a, .int .i64 b] 24); have hpx := H3.drop.drop.lt; have hpd := H3.drop.lt; have q0 := H3.cells; have q1 := H3.drop.cells; have q2 := H3.drop.drop.cells; have f1 := H3.drop.frees; have H4 := (H3.cast (Q := pt d (.cells #[kv, .int .i64 fld, .int .i64 op, .int .i64 at_, .int .i64 rf, .int .i64 ek, .int .i64 en, .int .i64 nk, .int .i64 nn, .bool sh, .bool true, .bool fx, .int .i64 mark, .int .u64 x, .bool hit, .int .i64 code, .int .i64 vk, .int .i64 vn, .bool yes] 99 (0, 0)) * (pt w2.heap.size (.cells #[.int .i64 a, .int .i64 b] 24 (0, 0)) * (pt w.heap.size (.cells #[.pointer (some ⟨d, 0, none⟩)] 33 (0, 0)) * (MemP 120 mb (M.loaded fld) * R)))) (by ac_rfl)).set 14 (.bool true); have p0 := H4.drop.cells; have p1 := H4.cells; have p2 := H4.drop.drop.cells; have s4 : Hid (Strm w _) := ((((Strm.refl w).alloc _).trans s2).alloc (.cells #[.int .i64 a, .int .i64 b] 24)).set ⟨d, 14, none⟩ (.bool true)))
          go_quiet (fail)
          have H5 : Hid (Holds _ (pt d (.cells #[kv, .int .i64 fld, .int .i64 op, .int .i64 at_, .int .i64 rf, .int .i64 ek, .int .i64 en, .int .i64 nk, .int .i64 nn, .bool sh, .bool true, .bool fx, .int .i64 mark, .int .u64 x, .bool true, .int .i64 code, .int .i64 vk, .int .i64 vn, .bool yes] 99 (0, 0)) * (pt w2.heap.size (.cells #[.int .i64 a, .int .i64 b] 24 (0, 0)) * (pt w.heap.size (.cells #[.pointer (some ⟨d, 0, none⟩)] 33 (0, 0)) * (MemP 120 mb (M.loaded fld) * R))))) := (H4.cast (Q := pt d (.cells #[kv, .int .i64 fld, .int .i64 op, .int .i64 at_, .int .i64 rf, .int .i64 ek, .int .i64 en, .int .i64 nk, .int .i64 nn, .bool sh, .bool true, .bool fx, .int .i64 mark, .int .u64 x, .bool true, .int .i64 code, .int .i64 vk, .int .i64 vn, .bool yes] 99 (0, 0)) * (pt w2.heap.size (.cells #[.int .i64 a, .int .i64 b] 24 (0, 0)) * (pt w.heap.size (.cells #[.pointer (some ⟨d, 0, none⟩)] 33 (0, 0)) * (MemP 120 mb (M.loaded fld) * R)))) (by simp only [List.setIfInBounds_toArray, List.set_cons_succ, List.set_cons_zero])).drewN nq
          have u0 := H5.out.drop.cells
          have u1 := H5.out.cells
          have u2 := H5.out.drop.drop.cells
          have s5 : Hid (Strm w _) := s4.out.drewN nq
          have t1 : True := trivial
          go_wp2_with (first | (go_at_call 63; have _t := t1; (with_reducible refine (FV.out _).mono ?_); rintro e w6 ⟨rfl, hb⟩; have H6 := H5.out.kept hb; have u0 := H6.drop.cells; have u1 := H6.cells; have u2 := H6.drop.drop.cells; have s6 : Hid (Strm w w6) := s5.out.trans (Strm.below hb); clear hb t1) | (go_at_call 63; (with_reducible refine (FE.out _).mono ?_); rintro e w7 ⟨rfl, hb⟩; have H7 := H6.kept hb; have u0 := H7.drop.cells; have u1 := H7.cells; have u2 := H7.drop.drop.cells; have s7 : Hid (Strm w w7) := s6.out.trans (Strm.below hb); clear hb))
          go_ret
          refine ⟨_, rfl, ?_, s7.out⟩
          refine Holds.cast (P := DK.P d (.func (.func 68) #[] #[.pointer (some ⟨w2.heap.size, 0, none⟩), .pointer (some ⟨w.heap.size, 0, none⟩)]) (.canA a b) * (MemP 120 mb (M.loaded fld) * (pt d (.cells #[kv, .int .i64 fld, .int .i64 op, .int .i64 at_, .int .i64 rf, .int .i64 ek, .int .i64 en, .int .i64 nk, .int .i64 nn, .bool sh, .bool true, .bool fx, .int .i64 mark, .int .u64 x, .bool true, .int .i64 code, .int .i64 vk, .int .i64 vn, .bool yes] 99 (0, 0)) * R))) ?_ (by rw [← HK.out]; simp only [DS.cells]; ac_rfl)
          refine holds_ex_mk w2.heap.size ?_
          refine holds_ex_mk w.heap.size ?_
          refine holds_and_mk rfl ?_
          exact H7.cast (by ac_rfl)
theorem look_calls (w : World) (R : HProp) (mb d : Nat) (M : MS) (S : DS) (kv : Value) (hok : M.ok) (H : Holds w (MemP 120 mb M * (pt d (.cells (S.cells kv) 99 (0, 0)) * R))) :
    Calls Try.prog 45 #[.pointer (some ⟨d, 0, none⟩), .pointer (some ⟨mb, 0, none⟩)] w (Left mb d kv (S.looked M).1 (S.looked M).2 R w) := by
  unfold DS.looked
  by_cases he : vK (M.load S.fld) = S.ek ∧ vN (M.load S.fld) = S.en
  · rw [if_pos he]; exact look_eq w R mb d M S kv hok H he
  · rw [if_neg he]; exact look_ne w R mb d M S kv hok H he
end Go.Proofs.Ytfapicccijbanaa.Mem
