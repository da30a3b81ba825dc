/- What is proved: contracts of direct.Direct's write, yes, swap. Conditions: stated with each contract. -/
import Derived.Test.YtfapicccijbanaaDirB
import Derived.Test.YtfapicccijbanaaCas
namespace Go.Proofs.Ytfapicccijbanaa.Mem
open Go Go.RowKit Go.Proofs.Ytfapicccijbanaa.Sep Go.Proofs.Ytfapicccijbanaa.Num
set_option maxRecDepth 100000
set_option linter.unusedVariables false
set_option linter.unusedSimpArgs false
attribute [local go_sem] eqlF_nil neqF_nil eqlF_fn neqF_fn
def DS.wrote (S : DS) (M : MS) : DS × MS := ({ S with hit := true, k := .fin }, M.store S.fld (sW S.nk S.nn))
set_option maxHeartbeats 4000000 in
theorem write_calls (w : World) (R : HProp) (mb d : Nat) (M : MS) (S : DS) (kv : Value) (hok : M.ok) (H : Holds w (MemP 120 mb M * (pt d (.cells (S.cells kv) 99 (0, 0)) * R))) :
    Calls Try.prog 44 #[.pointer (some ⟨d, 0, none⟩), .pointer (some ⟨mb, 0, none⟩)] w (Left mb d kv (S.wrote M).1 (S.wrote M).2 R w) := by
  obtain ⟨k, fld, op, at_, rf, ek, en, nk, nn, sh, ca, fx, mark, fw, hit, code, vk, vn, yes⟩ := S
  simp only [DS.cells, DS.wrote] at H ⊢
  have SW : Hid (∀ w, Calls Try.prog 66 #[.agg #[.int .i64 nk, .int .i64 nn]] w (Ret w (.int .u64 (sW nk nn)))) := fun w => slotWord_calls nk nn w
  have ST : Hid (∀ w R, Holds w (MemP 120 mb M * R) → Calls Try.prog 31 #[.pointer (some ⟨mb, 0, none⟩), .int .i64 fld, .int .u64 (sW nk nn)] w fun e w' => e = .returned (.tuple #[]) ∧ Holds w' (MemP 120 mb (M.store fld (sW nk nn)) * R) ∧ Strm w w') := fun w R H => store_calls w R mb M fld _ H hok
  generalize sW nk nn = x at SW ST ⊢
  have c1 := (H.cast (Q := pt d (.cells #[kv, .int .i64 fld, .int .i64 op, .int .i64 at_, .int .i64 rf, .int .i64 ek, .int .i64 en, .int .i64 nk, .int .i64 nn, .bool sh, .bool ca, .bool fx, .int .i64 mark, .int .u64 fw, .bool hit, .int .i64 code, .int .i64 vk, .int .i64 vn, .bool yes] 99 (0, 0)) * (MemP 120 mb M * R)) (by ac_rfl)).cells
  have HH : Hid (Holds w (MemP 120 mb M * (pt d (.cells #[kv, .int .i64 fld, .int .i64 op, .int .i64 at_, .int .i64 rf, .int .i64 ek, .int .i64 en, .int .i64 nk, .int .i64 nn, .bool sh, .bool ca, .bool fx, .int .i64 mark, .int .u64 fw, .bool hit, .int .i64 code, .int .i64 vk, .int .i64 vn, .bool yes] 99 (0, 0)) * R))) := H
  clear H hok
  go_enter Try.func44, Try.ntmps44
  go_wp2_with fail
  go_region_held3 (fun w' => w'.cell? ⟨d, 1, none⟩ = some (.int .i64 fld) ∧ w'.cell? ⟨d, 7, none⟩ = some (.int .i64 nk) ∧ w'.cell? ⟨d, 8, none⟩ = some (.int .i64 nn)) (first | exact ⟨c1 1, c1 7, c1 8⟩ | exact ⟨c2 1, c2 7, c2 8⟩ | exact ⟨c3 1, c3 7, c3 8⟩)
    (first | (go_at_call 66; (with_reducible refine (SW.out _).mono ?_); rintro e w2 ⟨rfl, hb⟩; have H2 := HH.out.drew.kept hb; have c2 := (H2.cast (Q := pt d (.cells #[kv, .int .i64 fld, .int .i64 op, .int .i64 at_, .int .i64 rf, .int .i64 ek, .int .i64 en, .int .i64 nk, .int .i64 nn, .bool sh, .bool ca, .bool fx, .int .i64 mark, .int .u64 fw, .bool hit, .int .i64 code, .int .i64 vk, .int .i64 vn, .bool yes] 99 (0, 0)) * (MemP 120 mb M * R)) (by ac_rfl)).cells; have s2 := Strm.below hb; clear hb) | (go_at_call 31; (refine (ST.out _ _ H2).mono ?_); rintro e w3 ⟨rfl, H3, s3⟩; have H4 := H3.cast (Q := pt d (.cells #[kv, .int .i64 fld, .int .i64 op, .int .i64 at_, .int .i64 rf, .int .i64 ek, .int .i64 en, .int .i64 nk, .int .i64 nn, .bool sh, .bool ca, .bool fx, .int .i64 mark, .int .u64 fw, .bool hit, .int .i64 code, .int .i64 vk, .int .i64 vn, .bool yes] 99 (0, 0)) * (MemP 120 mb (M.store fld x) * R)) (by ac_rfl); have c3 := H4.cells; have f3 := H4.frees; have H5 := H4.set 14 (.bool true)))
  go_wp2_with fail
  go_ret
  exact left_fin rfl (H5.cast (by simp only [List.setIfInBounds_toArray, List.set_cons_succ, List.set_cons_zero]; ac_rfl)) ((((Strm.refl w).drew.trans s2).trans s3).set _ _)
set_option maxHeartbeats 4000000 in
theorem yes_calls (w : World) (R : HProp) (d : Nat) (S : DS) (kv : Value) (h0 : 0 ≤ S.w) (h1 : S.w < 18446744073709551616) (H : Holds w (pt d (.cells (S.cells kv) 99 (0, 0)) * R)) :
    Calls Try.prog 67 #[.pointer (some ⟨d, 0, none⟩)] w (Next d kv S (shadeK2 S false (vK S.w) (vN S.w) S.nk S.nn) R w) := by
  have SH : Hid (∀ w R lb, Holds w (pt d (.cells (S.cells kv) 99 (0, 0)) * (pt lb (.cells #[.int .i64 (vK S.w), .int .i64 (vN S.w), .int .i64 S.nk, .int .i64 S.nn] 24 (0, 0)) * R)) → Calls Try.prog 65 #[.pointer (some ⟨d, 0, none⟩), .func (.func 83) #[.pointer (some ⟨d, 0, none⟩)] #[], .slice (some ⟨lb, 0, none⟩) 2 2] w (Next d kv S (shadeK2 S false (vK S.w) (vN S.w) S.nk S.nn) R w)) := fun w R lb H => shade_two w R d lb S kv false _ _ _ _ H
  have V : Hid (∀ w, Calls Try.prog 79 #[.int .u64 S.w] w (Ret w (.agg #[.int .i64 (vK S.w), .int .i64 (vN S.w)]))) := fun w => slotOf_calls _ w h0 h1
  generalize shadeK2 S false (vK S.w) (vN S.w) S.nk S.nn = K at SH ⊢
  generalize vK S.w = a at SH V
  generalize vN S.w = b at SH V
  have c1 := H.cells
  have HH : Hid (Holds w (pt d (.cells (S.cells kv) 99 (0, 0)) * R)) := H
  clear H h0 h1
  have e13 : ∀ w : World, (∀ o, w.cell? ⟨d, o, none⟩ = (S.cells kv)[o]?) → w.cell? ⟨d, 13, none⟩ = some (.int .u64 S.w) ∧ w.cell? ⟨d, 7, none⟩ = some (.int .i64 S.nk) ∧ w.cell? ⟨d, 8, none⟩ = some (.int .i64 S.nn) := fun w h => ⟨(h 13).trans rfl, (h 7).trans rfl, (h 8).trans rfl⟩
  go_enter Try.func67, Try.ntmps67
  go_wp2_with fail
  go_region_held3 (fun w' => w'.cell? ⟨d, 13, none⟩ = some (.int .u64 S.w) ∧ w'.cell? ⟨d, 7, none⟩ = some (.int .i64 S.nk) ∧ w'.cell? ⟨d, 8, none⟩ = some (.int .i64 S.nn)) (first | exact e13 _ c1 | exact e13 _ c2 | exact e13 _ c3 | exact e13 _ c4)
    (first | (go_at_call 79; (with_reducible refine (V.out _).mono ?_); rintro e w2 ⟨rfl, hb⟩; have H2 := HH.out.drew.kept hb; have c2 := H2.cells; have H3 := H2.alloc (.cells #[.int .i64 a, .int .i64 b, .int .i64 S.nk, .int .i64 S.nn] 24); have c3 := H3.drop.cells; have s2 := Strm.below hb; clear hb) | (go_at_call 65; (refine (SH.out _ R _ (H3.cast (by ac_rfl))).mono ?_); rintro e w3 ⟨kv', rfl, H4, s4⟩; have c4 := H4.cells))
  all_goals
    go_wp2_with fail
    try go_ret
    exact ⟨kv', rfl, H4, (((Strm.refl w).drew.trans s2).alloc _).trans s4⟩
def DS.swapped (S : DS) (M : MS) : DS × MS := (if M.casOk S.fld S.w then { S with hit := true, yes := true, k := .fin } else { S with k := .look }, M.cas S.fld S.w (sW S.nk S.nn))
set_option maxHeartbeats 4000000 in
theorem swap_calls (w : World) (R : HProp) (mb d : Nat) (M : MS) (S : DS) (kv : Value) (hok : M.ok) (H : Holds w (MemP 120 mb M * (pt d (.cells (S.cells kv) 99 (0, 0)) * R))) :
    Calls Try.prog 83 #[.pointer (some ⟨d, 0, none⟩), .pointer (some ⟨mb, 0, none⟩)] w (Left mb d kv (S.swapped M).1 (S.swapped M).2 R w) := by
  obtain ⟨k, fld, op, at_, rf, ek, en, nk, nn, sh, ca, fx, mark, fw, hit, code, vk, vn, yes⟩ := S
  simp only [DS.cells, DS.swapped] at H ⊢
  have SW : Hid (∀ w, Calls Try.prog 66 #[.agg #[.int .i64 nk, .int .i64 nn]] w (Ret w (.int .u64 (sW nk nn)))) := fun w => slotWord_calls nk nn w
  have ST : Hid (∀ w R, Holds w (MemP 120 mb M * R) → Calls Try.prog 87 #[.pointer (some ⟨mb, 0, none⟩), .int .i64 fld, .int .u64 fw, .int .u64 (sW nk nn)] w fun e w' => e = .returned (.bool (M.casOk fld fw)) ∧ Holds w' (MemP 120 mb (M.cas fld fw (sW nk nn)) * R) ∧ Strm w w') := fun w R H => cas_calls w R mb M fld fw _ H hok
  generalize M.cas fld fw (sW nk nn) = M' at ST ⊢
  generalize sW nk nn = x at SW ST
  have c1 := (H.cast (Q := pt d (.cells #[kv, .int .i64 fld, .int .i64 op, .int .i64 at_, .int .i64 rf, .int .i64 ek, .int .i64 en, .int .i64 nk, .int .i64 nn, .bool sh, .bool ca, .bool fx, .int .i64 mark, .int .u64 fw, .bool hit, .int .i64 code, .int .i64 vk, .int .i64 vn, .bool yes] 99 (0, 0)) * (MemP 120 mb M * R)) (by ac_rfl)).cells
  have HH : Hid (Holds w (MemP 120 mb M * (pt d (.cells #[kv, .int .i64 fld, .int .i64 op, .int .i64 at_, .int .i64 rf, .int .i64 ek, .int .i64 en, .int .i64 nk, .int .i64 nn, .bool sh, .bool ca, .bool fx, .int .i64 mark, .int .u64 fw, .bool hit, .int .i64 code, .int .i64 vk, .int .i64 vn, .bool yes] 99 (0, 0)) * R))) := H
  clear H hok
  cases hc : M.casOk fld fw with
  | true =>
    rw [hc] at ST
    simp only [if_true]
    clear hc
    go_enter Try.func83, Try.ntmps83
    go_wp2_with fail
    go_region_held3 (fun w' => w'.cell? ⟨d, 1, none⟩ = some (.int .i64 fld) ∧ w'.cell? ⟨d, 7, none⟩ = some (.int .i64 nk) ∧ w'.cell? ⟨d, 8, none⟩ = some (.int .i64 nn) ∧ w'.cell? ⟨d, 13, none⟩ = some (.int .u64 fw)) (first | exact ⟨c1 1, c1 7, c1 8, c1 13⟩ | exact ⟨c2 1, c2 7, c2 8, c2 13⟩ | exact ⟨c3 1, c3 7, c3 8, c3 13⟩)
      (first | (go_at_call 66; (with_reducible refine (SW.out _).mono ?_); rintro e w2 ⟨rfl, hb⟩; have H2 := HH.out.drew.kept hb; have c2 := (H2.cast (Q := pt d (.cells #[kv, .int .i64 fld, .int .i64 op, .int .i64 at_, .int .i64 rf, .int .i64 ek, .int .i64 en, .int .i64 nk, .int .i64 nn, .bool sh, .bool ca, .bool fx, .int .i64 mark, .int .u64 fw, .bool hit, .int .i64 code, .int .i64 vk, .int .i64 vn, .bool yes] 99 (0, 0)) * (MemP 120 mb M * R)) (by ac_rfl)).cells; have s2 := Strm.below hb; clear hb) | (go_at_call 87; (refine (ST.out _ _ H2).mono ?_); rintro e w3 ⟨rfl, H3, s3⟩; have H4 := H3.cast (Q := pt d (.cells #[kv, .int .i64 fld, .int .i64 op, .int .i64 at_, .int .i64 rf, .int .i64 ek, .int .i64 en, .int .i64 nk, .int .i64 nn, .bool sh, .bool ca, .bool fx, .int .i64 mark, .int .u64 fw, .bool hit, .int .i64 code, .int .i64 vk, .int .i64 vn, .bool yes] 99 (0, 0)) * (MemP 120 mb M' * R)) (by ac_rfl); have c3 := H4.cells; have f3 := H4.frees))
    go_wp2_with fail
    go_ret
    exact left_fin rfl (((H4.set 14 (.bool true)).set 18 (.bool true)).cast (by simp only [List.setIfInBounds_toArray, List.set_cons_succ, List.set_cons_zero]; ac_rfl)) (((((Strm.refl w).drew.trans s2).trans s3).set _ _).set _ _)
  | false =>
    rw [hc] at ST
    simp only [Bool.false_eq_true, if_false]
    clear hc
    go_enter Try.func83, Try.ntmps83
    go_wp2_with fail
    go_region_held3 (fun w' => w'.cell? ⟨d, 1, none⟩ = some (.int .i64 fld) ∧ w'.cell? ⟨d, 7, none⟩ = some (.int .i64 nk) ∧ w'.cell? ⟨d, 8, none⟩ = some (.int .i64 nn) ∧ w'.cell? ⟨d, 13, none⟩ = some (.int .u64 fw)) (first | exact ⟨c1 1, c1 7, c1 8, c1 13⟩ | exact ⟨c2 1, c2 7, c2 8, c2 13⟩ | exact ⟨c3 1, c3 7, c3 8, c3 13⟩)
      (first | (go_at_call 66; (with_reducible refine (SW.out _).mono ?_); rintro e w2 ⟨rfl, hb⟩; have H2 := HH.out.drew.kept hb; have c2 := (H2.cast (Q := pt d (.cells #[kv, .int .i64 fld, .int .i64 op, .int .i64 at_, .int .i64 rf, .int .i64 ek, .int .i64 en, .int .i64 nk, .int .i64 nn, .bool sh, .bool ca, .bool fx, .int .i64 mark, .int .u64 fw, .bool hit, .int .i64 code, .int .i64 vk, .int .i64 vn, .bool yes] 99 (0, 0)) * (MemP 120 mb M * R)) (by ac_rfl)).cells; have s2 := Strm.below hb; clear hb) | (go_at_call 87; (refine (ST.out _ _ H2).mono ?_); rintro e w3 ⟨rfl, H3, s3⟩; have H4 := H3.cast (Q := pt d (.cells #[kv, .int .i64 fld, .int .i64 op, .int .i64 at_, .int .i64 rf, .int .i64 ek, .int .i64 en, .int .i64 nk, .int .i64 nn, .bool sh, .bool ca, .bool fx, .int .i64 mark, .int .u64 fw, .bool hit, .int .i64 code, .int .i64 vk, .int .i64 vn, .bool yes] 99 (0, 0)) * (MemP 120 mb M' * R)) (by ac_rfl); have c3 := H4.cells; have f3 := H4.frees))
    go_wp2_with fail
    go_ret
    exact left_method (f := 45) rfl (H4.cast (by ac_rfl)) (((Strm.refl w).drew.trans s2).trans s3)
end Go.Proofs.Ytfapicccijbanaa.Mem
