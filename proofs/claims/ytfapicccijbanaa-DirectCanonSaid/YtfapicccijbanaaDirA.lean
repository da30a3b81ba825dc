/- What is proved: contracts of direct.Direct's read, fix, Hit, Result. Conditions: stated with each contract. -/
import Derived.Test.YtfapicccijbanaaDir
namespace Go.Proofs.Ytfapicccijbanaa.Mem
open Go Go.RowKit Go.Proofs.Ytfapicccijbanaa.Sep Go.Proofs.Ytfapicccijbanaa.Num
set_option maxRecDepth 100000
set_option linter.unusedVariables false
set_option linter.unusedSimpArgs false
attribute [local go_sem] eqlF_nil neqF_nil eqlF_fn neqF_fn
def DS.read (S : DS) (M : MS) : DS × MS :=
  ({ S with w := M.load S.fld, vk := vK (M.load S.fld), vn := vN (M.load S.fld), hit := true, k := if S.fx && farB (vK (M.load S.fld)) (vN (M.load S.fld)) then .fix else .fin }, M.loaded S.fld)
def DS.fixed (S : DS) (M : MS) : DS × MS := ({ S with vn := hMoved (M.load S.vn) S.vn, k := .fin }, M.loaded S.vn)
/-- What a method leaves: the next one, and the machine as S says. -/
def Left (mb d : Nat) (kv : Value) (S : DS) (M : MS) (R : HProp) (w : World) : Ending → World → Prop := fun e w' =>
  ∃ kv', e = .returned kv' ∧ Holds w' (MemP 120 mb M * (pt d (.cells (S.cells kv) 99 (0, 0)) * (DK.P d kv' S.k * R))) ∧ Strm w w'
theorem left_fin {mb d : Nat} {kv : Value} {S : DS} {M : MS} {R : HProp} {w w' : World} (hk : S.k = .fin) (H : Holds w' (MemP 120 mb M * (pt d (.cells (S.cells kv) 99 (0, 0)) * R))) (s : Strm w w') : Left mb d kv S M R w (.returned .nilFunc) w' := by
  refine ⟨.nilFunc, rfl, ?_, s⟩
  rw [hk]
  exact (dk_fin.2 ⟨rfl, H.cast (by ac_rfl : _ = (MemP 120 mb M * (pt d (.cells (S.cells kv) 99 (0, 0)) * R)))⟩).cast (by ac_rfl)
theorem left_method {mb d f : Nat} {kv : Value} {S : DS} {M : MS} {R : HProp} {w w' : World} (hk : S.k.fn = some f) (H : Holds w' (MemP 120 mb M * (pt d (.cells (S.cells kv) 99 (0, 0)) * R))) (s : Strm w w') : Left mb d kv S M R w (.returned (.func (.func f) #[.pointer (some ⟨d, 0, none⟩)] #[])) w' := by
  refine ⟨_, rfl, ?_, s⟩
  exact ((dk_method hk).2 ⟨rfl, H.cast (by ac_rfl : _ = (MemP 120 mb M * (pt d (.cells (S.cells kv) 99 (0, 0)) * R)))⟩).cast (by ac_rfl)
set_option maxHeartbeats 4000000 in
theorem read_calls (w : World) (R : HProp) (mb d : Nat) (M : MS) (S : DS) (kv : Value) (hok : M.ok) (H : Holds w (MemP 120 mb M * (pt d (.cells (S.cells kv) 99 (0, 0)) * R))) :
    Calls Try.prog 42 #[.pointer (some ⟨d, 0, none⟩), .pointer (some ⟨mb, 0, none⟩)] w (Left mb d kv (S.read M).1 (S.read M).2 R w) := by
  obtain ⟨k, fld, op, at_, rf, ek, en, nk, nn, sh, ca, fx, mark, fw, hit, code, vk, vn, yes⟩ := S
  have L := fun w R H => load_dcalls w R mb d M ⟨k, fld, op, at_, rf, ek, en, nk, nn, sh, ca, fx, mark, fw, hit, code, vk, vn, yes⟩ kv hok H
  simp only [DS.cells, DS.read] at H L ⊢
  have x0 := (load_rng M hok fld).1
  generalize M.load fld = x at L x0 ⊢
  generalize hva : vK x = a at L ⊢
  generalize hvb : vN x = b at L ⊢
  generalize hkk : (if fx && farB a b then DK.fix else DK.fin) = kq
  have L : Hid (∀ w R, Holds w (MemP 120 mb M * (pt d (.cells #[kv, .int .i64 fld, .int .i64 op, .int .i64 at_, .int .i64 rf, .int .i64 ek, .int .i64 en, .int .i64 nk, .int .i64 nn, .bool sh, .bool ca, .bool fx, .int .i64 mark, .int .u64 fw, .bool hit, .int .i64 code, .int .i64 vk, .int .i64 vn, .bool yes] 99 (0, 0)) * R)) → Calls Try.prog 62 #[.pointer (some ⟨d, 0, none⟩), .pointer (some ⟨mb, 0, none⟩)] w fun e w' =>
      e = .returned (.agg #[.int .i64 a, .int .i64 b]) ∧ Holds w' (MemP 120 mb (M.loaded fld) * (pt d (.cells #[kv, .int .i64 fld, .int .i64 op, .int .i64 at_, .int .i64 rf, .int .i64 ek, .int .i64 en, .int .i64 nk, .int .i64 nn, .bool sh, .bool ca, .bool fx, .int .i64 mark, .int .u64 x, .bool hit, .int .i64 code, .int .i64 vk, .int .i64 vn, .bool yes] 99 (0, 0)) * R)) ∧ Strm w w') := L
  have HH : Hid (Holds w (MemP 120 mb M * (pt d (.cells #[kv, .int .i64 fld, .int .i64 op, .int .i64 at_, .int .i64 rf, .int .i64 ek, .int .i64 en, .int .i64 nk, .int .i64 nn, .bool sh, .bool ca, .bool fx, .int .i64 mark, .int .u64 fw, .bool hit, .int .i64 code, .int .i64 vk, .int .i64 vn, .bool yes] 99 (0, 0)) * R))) := H
  have FR : Hid (∀ w, Calls Try.prog 63 #[.agg #[.int .i64 a, .int .i64 b]] w (Ret w (.bool (farB a b)))) := fun w => far_calls a b w
  have hd : d < w.heap.size := (H.cast (Q := pt d (.cells #[kv, .int .i64 fld, .int .i64 op, .int .i64 at_, .int .i64 rf, .int .i64 ek, .int .i64 en, .int .i64 nk, .int .i64 nn, .bool sh, .bool ca, .bool fx, .int .i64 mark, .int .u64 fw, .bool hit, .int .i64 code, .int .i64 vk, .int .i64 vn, .bool yes] 99 (0, 0)) * (MemP 120 mb M * R)) (by ac_rfl)).lt
  clear H hok hva hvb x0
  cases fx with
  | false =>
    have HK : Hid (kq = .fin) := by rw [Hid, ← hkk]; simp
    clear hkk
    go_enter Try.func42, Try.ntmps42
    go_wp2_with (first | (go_at_call 62; (refine (L.out _ _ HH.out).mono ?_); rintro e w2 ⟨rfl, H2, s2⟩; have H3 := H2.cast (Q := pt d (.cells #[kv, .int .i64 fld, .int .i64 op, .int .i64 at_, .int .i64 rf, .int .i64 ek, .int .i64 en, .int .i64 nk, .int .i64 nn, .bool sh, .bool ca, .bool false, .int .i64 mark, .int .u64 x, .bool hit, .int .i64 code, .int .i64 vk, .int .i64 vn, .bool yes] 99 (0, 0)) * (MemP 120 mb (M.loaded fld) * R)) (by ac_rfl); have c2 := H3.cells; have f2 := H3.frees; have H4 := ((H3.set 16 (.int .i64 a)).set 17 (.int .i64 b)).set 14 (.bool true)) | (go_at_call 63; (with_reducible refine (FR.out _).mono ?_); rintro e w3 ⟨rfl, hb⟩; have H5 := H4.kept hb; have s5 := Strm.below hb; clear hb))
    go_ret
    have H6 := H4.cast (Q := MemP 120 mb (M.loaded fld) * (pt d (.cells #[kv, .int .i64 fld, .int .i64 op, .int .i64 at_, .int .i64 rf, .int .i64 ek, .int .i64 en, .int .i64 nk, .int .i64 nn, .bool sh, .bool ca, .bool false, .int .i64 mark, .int .u64 x, .bool true, .int .i64 code, .int .i64 a, .int .i64 b, .bool yes] 99 (0, 0)) * R)) (by simp only [List.setIfInBounds_toArray, List.set_cons_succ, List.set_cons_zero]; ac_rfl)
    exact left_fin HK.out H6 (((s2.set _ _).set _ _).set _ _)
  | true =>
    by_cases hfr : farB a b = true
    · rw [hfr] at FR
      have HK : Hid (kq = .fix) := by rw [Hid, ← hkk]; simp [hfr]
      clear hkk
      go_enter Try.func42, Try.ntmps42
      go_wp2_with (first | (go_at_call 62; (refine (L.out _ _ HH.out).mono ?_); rintro e w2 ⟨rfl, H2, s2⟩; have H3 := H2.cast (Q := pt d (.cells #[kv, .int .i64 fld, .int .i64 op, .int .i64 at_, .int .i64 rf, .int .i64 ek, .int .i64 en, .int .i64 nk, .int .i64 nn, .bool sh, .bool ca, .bool true, .int .i64 mark, .int .u64 x, .bool hit, .int .i64 code, .int .i64 vk, .int .i64 vn, .bool yes] 99 (0, 0)) * (MemP 120 mb (M.loaded fld) * R)) (by ac_rfl); have c2 := H3.cells; have f2 := H3.frees; have H4 := ((H3.set 16 (.int .i64 a)).set 17 (.int .i64 b)).set 14 (.bool true)) | (go_at_call 63; (with_reducible refine (FR.out _).mono ?_); rintro e w3 ⟨rfl, hb⟩; have H5 := H4.kept hb; have s5 := Strm.below hb; clear hb))
      go_ret
      have H6 := H5.cast (Q := MemP 120 mb (M.loaded fld) * (pt d (.cells #[kv, .int .i64 fld, .int .i64 op, .int .i64 at_, .int .i64 rf, .int .i64 ek, .int .i64 en, .int .i64 nk, .int .i64 nn, .bool sh, .bool ca, .bool true, .int .i64 mark, .int .u64 x, .bool true, .int .i64 code, .int .i64 a, .int .i64 b, .bool yes] 99 (0, 0)) * R)) (by simp only [List.setIfInBounds_toArray, List.set_cons_succ, List.set_cons_zero]; ac_rfl)
      exact left_method (by rw [HK.out]; rfl) H6 ((((s2.set _ _).set _ _).set _ _).trans s5)
    · rw [Bool.not_eq_true] at hfr
      rw [hfr] at FR
      have HK : Hid (kq = .fin) := by rw [Hid, ← hkk]; simp [hfr]
      clear hkk
      go_enter Try.func42, Try.ntmps42
      go_wp2_with (first | (go_at_call 62; (refine (L.out _ _ HH.out).mono ?_); rintro e w2 ⟨rfl, H2, s2⟩; have H3 := H2.cast (Q := pt d (.cells #[kv, .int .i64 fld, .int .i64 op, .int .i64 at_, .int .i64 rf, .int .i64 ek, .int .i64 en, .int .i64 nk, .int .i64 nn, .bool sh, .bool ca, .bool true, .int .i64 mark, .int .u64 x, .bool hit, .int .i64 code, .int .i64 vk, .int .i64 vn, .bool yes] 99 (0, 0)) * (MemP 120 mb (M.loaded fld) * R)) (by ac_rfl); have c2 := H3.cells; have f2 := H3.frees; have H4 := ((H3.set 16 (.int .i64 a)).set 17 (.int .i64 b)).set 14 (.bool true)) | (go_at_call 63; (with_reducible refine (FR.out _).mono ?_); rintro e w3 ⟨rfl, hb⟩; have H5 := H4.kept hb; have s5 := Strm.below hb; clear hb))
      go_ret
      have H6 := H5.cast (Q := MemP 120 mb (M.loaded fld) * (pt d (.cells #[kv, .int .i64 fld, .int .i64 op, .int .i64 at_, .int .i64 rf, .int .i64 ek, .int .i64 en, .int .i64 nk, .int .i64 nn, .bool sh, .bool ca, .bool true, .int .i64 mark, .int .u64 x, .bool true, .int .i64 code, .int .i64 a, .int .i64 b, .bool yes] 99 (0, 0)) * R)) (by simp only [List.setIfInBounds_toArray, List.set_cons_succ, List.set_cons_zero]; ac_rfl)
      exact left_fin HK.out H6 ((((s2.set _ _).set _ _).set _ _).trans s5)
set_option maxHeartbeats 4000000 in
theorem fix_calls (w : World) (R : HProp) (mb d : Nat) (M : MS) (S : DS) (kv : Value) (hok : M.ok) (H : Holds w (MemP 120 mb M * (pt d (.cells (S.cells kv) 99 (0, 0)) * R))) :
    Calls Try.prog 64 #[.pointer (some ⟨d, 0, none⟩), .pointer (some ⟨mb, 0, none⟩)] w (Left mb d kv (S.fixed M).1 (S.fixed M).2 R w) := by
  obtain ⟨k, fld, op, at_, rf, ek, en, nk, nn, sh, ca, fx, mark, fw, hit, code, vk, vn, yes⟩ := S
  simp only [DS.cells, DS.fixed] at H ⊢
  have MV : Hid (∀ w R, Holds w (MemP 120 mb M * R) → Calls Try.prog 48 #[.pointer (some ⟨mb, 0, none⟩), .int .i64 vn] w fun e w' => e = .returned (.int .i64 (hMoved (M.load vn) vn)) ∧ Holds w' (MemP 120 mb (M.loaded vn) * R) ∧ Strm w w') := fun w R H => moved_calls w R mb M vn H hok
  generalize hMoved (M.load vn) vn = c at MV ⊢
  have c1 := (H.cast (Q := pt d (.cells #[kv, .int .i64 fld, .int .i64 op, .int .i64 at_, .int .i64 rf, .int .i64 ek, .int .i64 en, .int .i64 nk, .int .i64 nn, .bool sh, .bool ca, .bool fx, .int .i64 mark, .int .u64 fw, .bool hit, .int .i64 code, .int .i64 vk, .int .i64 vn, .bool yes] 99 (0, 0)) * (MemP 120 mb M * R)) (by ac_rfl)).cells
  have HH : Hid (Holds w (MemP 120 mb M * (pt d (.cells #[kv, .int .i64 fld, .int .i64 op, .int .i64 at_, .int .i64 rf, .int .i64 ek, .int .i64 en, .int .i64 nk, .int .i64 nn, .bool sh, .bool ca, .bool fx, .int .i64 mark, .int .u64 fw, .bool hit, .int .i64 code, .int .i64 vk, .int .i64 vn, .bool yes] 99 (0, 0)) * R))) := H
  clear H hok
  go_enter Try.func64, Try.ntmps64
  go_wp2_with (go_at_call 48; (refine (MV.out _ _ HH.out).mono ?_); rintro e w2 ⟨rfl, H2, s2⟩; have H3 := H2.cast (Q := pt d (.cells #[kv, .int .i64 fld, .int .i64 op, .int .i64 at_, .int .i64 rf, .int .i64 ek, .int .i64 en, .int .i64 nk, .int .i64 nn, .bool sh, .bool ca, .bool fx, .int .i64 mark, .int .u64 fw, .bool hit, .int .i64 code, .int .i64 vk, .int .i64 vn, .bool yes] 99 (0, 0)) * (MemP 120 mb (M.loaded vn) * R)) (by ac_rfl); have c2 := H3.cells; have f2 := H3.frees; have H4 := H3.set 17 (.int .i64 c))
  go_ret
  have H6 := H4.cast (Q := MemP 120 mb (M.loaded vn) * (pt d (.cells #[kv, .int .i64 fld, .int .i64 op, .int .i64 at_, .int .i64 rf, .int .i64 ek, .int .i64 en, .int .i64 nk, .int .i64 nn, .bool sh, .bool ca, .bool fx, .int .i64 mark, .int .u64 fw, .bool hit, .int .i64 code, .int .i64 vk, .int .i64 c, .bool yes] 99 (0, 0)) * R)) (by simp only [List.setIfInBounds_toArray, List.set_cons_succ, List.set_cons_zero]; ac_rfl)
  exact left_fin rfl H6 (s2.set _ _)
set_option maxHeartbeats 1000000 in
theorem hit_calls (w : World) (R : HProp) (d : Nat) (S : DS) (H : Holds w (DirP d S * R)) :
    Calls Try.prog 28 #[.pointer (some ⟨d, 0, none⟩)] w fun e w' => e = .returned (.bool S.hit) ∧ w = w' := by
  obtain ⟨kv, H⟩ := dirP_open H
  have c1 := H.cells
  simp only [DS.cells] at c1
  generalize S.hit = z at c1 ⊢
  clear H
  go_enter Try.func28, Try.ntmps28
  go_wp2_with fail
  go_ret
  exact ⟨rfl, rfl⟩
/-- What a Direct came to. -/
def DS.result (S : DS) : Value := if S.k.isFin then .agg #[.int .i64 S.code, .int .i64 S.vk, .int .i64 S.vn, .bool S.yes] else .agg #[.int .i64 0, .int .i64 0, .int .i64 0, .bool false]
theorem dk_func {w : World} {R : HProp} {d : Nat} {kv : Value} {k : DK} (hk : k.isFin = false) (H : Holds w (DK.P d kv k * R)) : ∃ fn a b, kv = .func fn a b := by
  cases k with
  | fin => simp [DK.isFin] at hk
  | read => obtain ⟨h, _⟩ := holds_and H; exact ⟨_, _, _, h⟩
  | fix => obtain ⟨h, _⟩ := holds_and H; exact ⟨_, _, _, h⟩
  | old => obtain ⟨h, _⟩ := holds_and H; exact ⟨_, _, _, h⟩
  | write => obtain ⟨h, _⟩ := holds_and H; exact ⟨_, _, _, h⟩
  | look => obtain ⟨h, _⟩ := holds_and H; exact ⟨_, _, _, h⟩
  | swap => obtain ⟨h, _⟩ := holds_and H; exact ⟨_, _, _, h⟩
  | canA vk vn => obtain ⟨_, H⟩ := holds_ex H; obtain ⟨_, H⟩ := holds_ex H; obtain ⟨h, _⟩ := holds_and H; exact ⟨_, _, _, h⟩
  | canB a => obtain ⟨_, H⟩ := holds_ex H; obtain ⟨_, H⟩ := holds_ex H; obtain ⟨h, _⟩ := holds_and H; exact ⟨_, _, _, h⟩
  | shadeA s wr rk rn =>
    obtain ⟨_, H⟩ := holds_ex H; obtain ⟨_, H⟩ := holds_ex H; obtain ⟨_, H⟩ := holds_ex H; obtain ⟨_, H⟩ := holds_ex H
    obtain ⟨_, H⟩ := holds_ex H; obtain ⟨_, H⟩ := holds_ex H; obtain ⟨_, H⟩ := holds_ex H
    obtain ⟨h, _⟩ := holds_and H; exact ⟨_, _, _, h⟩
  | shadeB s wr =>
    obtain ⟨_, H⟩ := holds_ex H; obtain ⟨_, H⟩ := holds_ex H; obtain ⟨_, H⟩ := holds_ex H; obtain ⟨_, H⟩ := holds_ex H
    obtain ⟨_, H⟩ := holds_ex H; obtain ⟨_, H⟩ := holds_ex H; obtain ⟨_, H⟩ := holds_ex H
    obtain ⟨h, _⟩ := holds_and H; exact ⟨_, _, _, h⟩
set_option maxHeartbeats 1000000 in
theorem result_calls (w : World) (R : HProp) (d : Nat) (S : DS) (H : Holds w (DirP d S * R)) :
    Calls Try.prog 15 #[.pointer (some ⟨d, 0, none⟩)] w (Ret w S.result) := by
  obtain ⟨kv, H⟩ := dirP_open H
  have c1 := H.cells
  have hd := H.lt
  have HK := H.drop
  clear H
  obtain ⟨k, fld, op, at_, rf, ek, en, nk, nn, sh, ca, fx, mark, fw, hit, code, vk, vn, yes⟩ := S
  simp only [DS.cells] at c1
  unfold DS.result
  simp only at HK ⊢
  by_cases hk : k.isFin = true
  · cases k <;> simp [DK.isFin] at hk
    obtain ⟨rfl, _⟩ := dk_fin.1 HK
    have e : (DK.fin.isFin = true) = True := by simp [DK.isFin]
    simp only [e, if_true]
    clear HK e
    go_enter Try.func15, Try.ntmps15
    go_wp2_with fail
    exact bodyPost_ret (v := .agg #[.int .i64 code, .int .i64 vk, .int .i64 vn, .bool yes]) (by simp [results, Try.results15, go_sem]) rfl ⟨rfl, (Below.refl _ _).alloc (Nat.le_refl _) _⟩
  · rw [Bool.not_eq_true] at hk
    obtain ⟨fn, a, b, rfl⟩ := dk_func hk HK
    rw [hk]
    clear HK hk
    simp only [Bool.false_eq_true, if_false]
    go_enter Try.func15, Try.ntmps15
    go_wp2_with fail
    exact bodyPost_ret (v := .agg #[.int .i64 0, .int .i64 0, .int .i64 0, .bool false]) (by simp [results, Try.results15, go_sem]) rfl ⟨rfl, (Below.refl _ _).alloc (Nat.le_refl _) _⟩
/-- Where a Direct begins. -/
def dkNew (op : Int) (sh : Bool) : DK := if op = 1 then .read else if op = 2 ∧ sh = true then .old else if op = 2 then .write else if op = 3 then .look else .fin
def DS.new (base op at_ rf ek en nk nn : Int) (sh ca fx : Bool) (mark : Int) : DS := ⟨dkNew op sh, base + 1 + rf, op, at_, rf, ek, en, nk, nn, sh, ca, fx, mark, 0, false, 0, 0, 0, false⟩
set_option maxHeartbeats 4000000 in
theorem new_read (w : World) (R : HProp) (base op at_ rf ek en nk nn : Int) (sh ca fx : Bool) (mark : Int) (H : Holds w R) (hb0 : -1000000 ≤ base) (hb1 : base ≤ 1000000) (hr0 : -1000000 ≤ rf) (hr1 : rf ≤ 1000000) (h : op = 1) :
    Calls Try.prog 20 #[.int .i64 base, .agg #[.int .i64 op, .int .i64 at_, .int .i64 rf, .int .i64 ek, .int .i64 en, .int .i64 nk, .int .i64 nn], .agg #[.bool sh, .bool ca, .bool fx, .int .i64 mark]] w fun e w' => ∃ d, e = .returned (.pointer (some ⟨d, 0, none⟩)) ∧ Holds w' (DirP d (DS.new base op at_ rf ek en nk nn sh ca fx mark) * R) ∧ Strm w w' := by
  have hk : Hid (dkNew op sh = .read) := by unfold dkNew Hid; simp [*]
  have HH : Hid (Holds w R) := H
  clear H
  have h1 : (op == 1) = true := by simpa using h
  clear h
  go_enter Try.func20, Try.ntmps20
  go_wp2_with fail
  go_ret
  have H3 := ((HH.out.alloc (.cells #[.int .i64 op, .int .i64 at_, .int .i64 rf, .int .i64 ek, .int .i64 en, .int .i64 nk, .int .i64 nn] 61)).alloc (.cells #[.bool sh, .bool ca, .bool fx, .int .i64 mark] 63)).alloc (.cells #[.func (.func 42) #[.pointer (some ⟨w.heap.size + 1 + 1, 0, none⟩)] #[], .int .i64 (base + 1 + rf), .int .i64 op, .int .i64 at_, .int .i64 rf, .int .i64 ek, .int .i64 en, .int .i64 nk, .int .i64 nn, .bool sh, .bool ca, .bool fx, .int .i64 mark, .int .u64 0, .bool false, .int .i64 0, .int .i64 0, .int .i64 0, .bool false] 99)
  simp only [World.size_alloc] at H3
  have s3 := (((Strm.refl w).alloc (.cells #[.int .i64 op, .int .i64 at_, .int .i64 rf, .int .i64 ek, .int .i64 en, .int .i64 nk, .int .i64 nn] 61)).alloc (.cells #[.bool sh, .bool ca, .bool fx, .int .i64 mark] 63)).alloc (.cells #[.func (.func 42) #[.pointer (some ⟨w.heap.size + 1 + 1, 0, none⟩)] #[], .int .i64 (base + 1 + rf), .int .i64 op, .int .i64 at_, .int .i64 rf, .int .i64 ek, .int .i64 en, .int .i64 nk, .int .i64 nn, .bool sh, .bool ca, .bool fx, .int .i64 mark, .int .u64 0, .bool false, .int .i64 0, .int .i64 0, .int .i64 0, .bool false] 99)
  refine ⟨w.heap.size + 1 + 1, rfl, dirP_close (kv := .func (.func 42) #[.pointer (some ⟨w.heap.size + 1 + 1, 0, none⟩)] #[]) ?_, s3⟩
  unfold DS.new
  simp only [DS.cells]
  rw [hk.out]
  have H4 := (H3.cast (Q := pt (w.heap.size + 1) (.cells #[.bool sh, .bool ca, .bool fx, .int .i64 mark] 63) * (pt w.heap.size (.cells #[.int .i64 op, .int .i64 at_, .int .i64 rf, .int .i64 ek, .int .i64 en, .int .i64 nk, .int .i64 nn] 61) * (pt (w.heap.size + 1 + 1) (.cells #[.func (.func 42) #[.pointer (some ⟨w.heap.size + 1 + 1, 0, none⟩)] #[], .int .i64 (base + 1 + rf), .int .i64 op, .int .i64 at_, .int .i64 rf, .int .i64 ek, .int .i64 en, .int .i64 nk, .int .i64 nn, .bool sh, .bool ca, .bool fx, .int .i64 mark, .int .u64 0, .bool false, .int .i64 0, .int .i64 0, .int .i64 0, .bool false] 99 (0, 0)) * R))) (by ac_rfl)).drop.drop
  exact ((dk_method rfl).2 ⟨rfl, H4⟩).cast (by ac_rfl)
set_option maxHeartbeats 4000000 in
theorem new_old (w : World) (R : HProp) (base op at_ rf ek en nk nn : Int) (sh ca fx : Bool) (mark : Int) (H : Holds w R) (hb0 : -1000000 ≤ base) (hb1 : base ≤ 1000000) (hr0 : -1000000 ≤ rf) (hr1 : rf ≤ 1000000) (h : op = 2) (hs : sh = true) :
    Calls Try.prog 20 #[.int .i64 base, .agg #[.int .i64 op, .int .i64 at_, .int .i64 rf, .int .i64 ek, .int .i64 en, .int .i64 nk, .int .i64 nn], .agg #[.bool sh, .bool ca, .bool fx, .int .i64 mark]] w fun e w' => ∃ d, e = .returned (.pointer (some ⟨d, 0, none⟩)) ∧ Holds w' (DirP d (DS.new base op at_ rf ek en nk nn sh ca fx mark) * R) ∧ Strm w w' := by
  have hk : Hid (dkNew op sh = .old) := by unfold dkNew Hid; simp [*]
  have HH : Hid (Holds w R) := H
  clear H
  have h1 : (op == 1) = false := by simp [h]
  have h2 : (op == 2) = true := by simp [h]
  clear h
  subst hs
  go_enter Try.func20, Try.ntmps20
  go_wp2_with fail
  go_ret
  have H3 := ((HH.out.alloc (.cells #[.int .i64 op, .int .i64 at_, .int .i64 rf, .int .i64 ek, .int .i64 en, .int .i64 nk, .int .i64 nn] 61)).alloc (.cells #[.bool true, .bool ca, .bool fx, .int .i64 mark] 63)).alloc (.cells #[.func (.func 43) #[.pointer (some ⟨w.heap.size + 1 + 1, 0, none⟩)] #[], .int .i64 (base + 1 + rf), .int .i64 op, .int .i64 at_, .int .i64 rf, .int .i64 ek, .int .i64 en, .int .i64 nk, .int .i64 nn, .bool true, .bool ca, .bool fx, .int .i64 mark, .int .u64 0, .bool false, .int .i64 0, .int .i64 0, .int .i64 0, .bool false] 99)
  simp only [World.size_alloc] at H3
  have s3 := (((Strm.refl w).alloc (.cells #[.int .i64 op, .int .i64 at_, .int .i64 rf, .int .i64 ek, .int .i64 en, .int .i64 nk, .int .i64 nn] 61)).alloc (.cells #[.bool true, .bool ca, .bool fx, .int .i64 mark] 63)).alloc (.cells #[.func (.func 43) #[.pointer (some ⟨w.heap.size + 1 + 1, 0, none⟩)] #[], .int .i64 (base + 1 + rf), .int .i64 op, .int .i64 at_, .int .i64 rf, .int .i64 ek, .int .i64 en, .int .i64 nk, .int .i64 nn, .bool true, .bool ca, .bool fx, .int .i64 mark, .int .u64 0, .bool false, .int .i64 0, .int .i64 0, .int .i64 0, .bool false] 99)
  refine ⟨w.heap.size + 1 + 1, rfl, dirP_close (kv := .func (.func 43) #[.pointer (some ⟨w.heap.size + 1 + 1, 0, none⟩)] #[]) ?_, s3⟩
  unfold DS.new
  simp only [DS.cells]
  rw [hk.out]
  have H4 := (H3.cast (Q := pt (w.heap.size + 1) (.cells #[.bool true, .bool ca, .bool fx, .int .i64 mark] 63) * (pt w.heap.size (.cells #[.int .i64 op, .int .i64 at_, .int .i64 rf, .int .i64 ek, .int .i64 en, .int .i64 nk, .int .i64 nn] 61) * (pt (w.heap.size + 1 + 1) (.cells #[.func (.func 43) #[.pointer (some ⟨w.heap.size + 1 + 1, 0, none⟩)] #[], .int .i64 (base + 1 + rf), .int .i64 op, .int .i64 at_, .int .i64 rf, .int .i64 ek, .int .i64 en, .int .i64 nk, .int .i64 nn, .bool true, .bool ca, .bool fx, .int .i64 mark, .int .u64 0, .bool false, .int .i64 0, .int .i64 0, .int .i64 0, .bool false] 99 (0, 0)) * R))) (by ac_rfl)).drop.drop
  exact ((dk_method rfl).2 ⟨rfl, H4⟩).cast (by ac_rfl)
set_option maxHeartbeats 4000000 in
theorem new_write (w : World) (R : HProp) (base op at_ rf ek en nk nn : Int) (sh ca fx : Bool) (mark : Int) (H : Holds w R) (hb0 : -1000000 ≤ base) (hb1 : base ≤ 1000000) (hr0 : -1000000 ≤ rf) (hr1 : rf ≤ 1000000) (h : op = 2) (hs : sh = false) :
    Calls Try.prog 20 #[.int .i64 base, .agg #[.int .i64 op, .int .i64 at_, .int .i64 rf, .int .i64 ek, .int .i64 en, .int .i64 nk, .int .i64 nn], .agg #[.bool sh, .bool ca, .bool fx, .int .i64 mark]] w fun e w' => ∃ d, e = .returned (.pointer (some ⟨d, 0, none⟩)) ∧ Holds w' (DirP d (DS.new base op at_ rf ek en nk nn sh ca fx mark) * R) ∧ Strm w w' := by
  have hk : Hid (dkNew op sh = .write) := by unfold dkNew Hid; simp [*]
  have HH : Hid (Holds w R) := H
  clear H
  have h1 : (op == 1) = false := by simp [h]
  have h2 : (op == 2) = true := by simp [h]
  clear h
  subst hs
  go_enter Try.func20, Try.ntmps20
  go_wp2_with fail
  go_ret
  have H3 := ((HH.out.alloc (.cells #[.int .i64 op, .int .i64 at_, .int .i64 rf, .int .i64 ek, .int .i64 en, .int .i64 nk, .int .i64 nn] 61)).alloc (.cells #[.bool false, .bool ca, .bool fx, .int .i64 mark] 63)).alloc (.cells #[.func (.func 44) #[.pointer (some ⟨w.heap.size + 1 + 1, 0, none⟩)] #[], .int .i64 (base + 1 + rf), .int .i64 op, .int .i64 at_, .int .i64 rf, .int .i64 ek, .int .i64 en, .int .i64 nk, .int .i64 nn, .bool false, .bool ca, .bool fx, .int .i64 mark, .int .u64 0, .bool false, .int .i64 0, .int .i64 0, .int .i64 0, .bool false] 99)
  simp only [World.size_alloc] at H3
  have s3 := (((Strm.refl w).alloc (.cells #[.int .i64 op, .int .i64 at_, .int .i64 rf, .int .i64 ek, .int .i64 en, .int .i64 nk, .int .i64 nn] 61)).alloc (.cells #[.bool false, .bool ca, .bool fx, .int .i64 mark] 63)).alloc (.cells #[.func (.func 44) #[.pointer (some ⟨w.heap.size + 1 + 1, 0, none⟩)] #[], .int .i64 (base + 1 + rf), .int .i64 op, .int .i64 at_, .int .i64 rf, .int .i64 ek, .int .i64 en, .int .i64 nk, .int .i64 nn, .bool false, .bool ca, .bool fx, .int .i64 mark, .int .u64 0, .bool false, .int .i64 0, .int .i64 0, .int .i64 0, .bool false] 99)
  refine ⟨w.heap.size + 1 + 1, rfl, dirP_close (kv := .func (.func 44) #[.pointer (some ⟨w.heap.size + 1 + 1, 0, none⟩)] #[]) ?_, s3⟩
  unfold DS.new
  simp only [DS.cells]
  rw [hk.out]
  have H4 := (H3.cast (Q := pt (w.heap.size + 1) (.cells #[.bool false, .bool ca, .bool fx, .int .i64 mark] 63) * (pt w.heap.size (.cells #[.int .i64 op, .int .i64 at_, .int .i64 rf, .int .i64 ek, .int .i64 en, .int .i64 nk, .int .i64 nn] 61) * (pt (w.heap.size + 1 + 1) (.cells #[.func (.func 44) #[.pointer (some ⟨w.heap.size + 1 + 1, 0, none⟩)] #[], .int .i64 (base + 1 + rf), .int .i64 op, .int .i64 at_, .int .i64 rf, .int .i64 ek, .int .i64 en, .int .i64 nk, .int .i64 nn, .bool false, .bool ca, .bool fx, .int .i64 mark, .int .u64 0, .bool false, .int .i64 0, .int .i64 0, .int .i64 0, .bool false] 99 (0, 0)) * R))) (by ac_rfl)).drop.drop
  exact ((dk_method rfl).2 ⟨rfl, H4⟩).cast (by ac_rfl)
set_option maxHeartbeats 4000000 in
theorem new_look (w : World) (R : HProp) (base op at_ rf ek en nk nn : Int) (sh ca fx : Bool) (mark : Int) (H : Holds w R) (hb0 : -1000000 ≤ base) (hb1 : base ≤ 1000000) (hr0 : -1000000 ≤ rf) (hr1 : rf ≤ 1000000) (h : op = 3) :
    Calls Try.prog 20 #[.int .i64 base, .agg #[.int .i64 op, .int .i64 at_, .int .i64 rf, .int .i64 ek, .int .i64 en, .int .i64 nk, .int .i64 nn], .agg #[.bool sh, .bool ca, .bool fx, .int .i64 mark]] w fun e w' => ∃ d, e = .returned (.pointer (some ⟨d, 0, none⟩)) ∧ Holds w' (DirP d (DS.new base op at_ rf ek en nk nn sh ca fx mark) * R) ∧ Strm w w' := by
  have hk : Hid (dkNew op sh = .look) := by unfold dkNew Hid; simp [*]
  have HH : Hid (Holds w R) := H
  clear H
  have h1 : (op == 1) = false := by simp [h]
  have h2 : (op == 2) = false := by simp [h]
  have h3 : (op == 3) = true := by simp [h]
  clear h
  go_enter Try.func20, Try.ntmps20
  go_wp2_with fail
  go_ret
  have H3 := ((HH.out.alloc (.cells #[.int .i64 op, .int .i64 at_, .int .i64 rf, .int .i64 ek, .int .i64 en, .int .i64 nk, .int .i64 nn] 61)).alloc (.cells #[.bool sh, .bool ca, .bool fx, .int .i64 mark] 63)).alloc (.cells #[.func (.func 45) #[.pointer (some ⟨w.heap.size + 1 + 1, 0, none⟩)] #[], .int .i64 (base + 1 + rf), .int .i64 op, .int .i64 at_, .int .i64 rf, .int .i64 ek, .int .i64 en, .int .i64 nk, .int .i64 nn, .bool sh, .bool ca, .bool fx, .int .i64 mark, .int .u64 0, .bool false, .int .i64 0, .int .i64 0, .int .i64 0, .bool false] 99)
  simp only [World.size_alloc] at H3
  have s3 := (((Strm.refl w).alloc (.cells #[.int .i64 op, .int .i64 at_, .int .i64 rf, .int .i64 ek, .int .i64 en, .int .i64 nk, .int .i64 nn] 61)).alloc (.cells #[.bool sh, .bool ca, .bool fx, .int .i64 mark] 63)).alloc (.cells #[.func (.func 45) #[.pointer (some ⟨w.heap.size + 1 + 1, 0, none⟩)] #[], .int .i64 (base + 1 + rf), .int .i64 op, .int .i64 at_, .int .i64 rf, .int .i64 ek, .int .i64 en, .int .i64 nk, .int .i64 nn, .bool sh, .bool ca, .bool fx, .int .i64 mark, .int .u64 0, .bool false, .int .i64 0, .int .i64 0, .int .i64 0, .bool false] 99)
  refine ⟨w.heap.size + 1 + 1, rfl, dirP_close (kv := .func (.func 45) #[.pointer (some ⟨w.heap.size + 1 + 1, 0, none⟩)] #[]) ?_, s3⟩
  unfold DS.new
  simp only [DS.cells]
  rw [hk.out]
  have H4 := (H3.cast (Q := pt (w.heap.size + 1) (.cells #[.bool sh, .bool ca, .bool fx, .int .i64 mark] 63) * (pt w.heap.size (.cells #[.int .i64 op, .int .i64 at_, .int .i64 rf, .int .i64 ek, .int .i64 en, .int .i64 nk, .int .i64 nn] 61) * (pt (w.heap.size + 1 + 1) (.cells #[.func (.func 45) #[.pointer (some ⟨w.heap.size + 1 + 1, 0, none⟩)] #[], .int .i64 (base + 1 + rf), .int .i64 op, .int .i64 at_, .int .i64 rf, .int .i64 ek, .int .i64 en, .int .i64 nk, .int .i64 nn, .bool sh, .bool ca, .bool fx, .int .i64 mark, .int .u64 0, .bool false, .int .i64 0, .int .i64 0, .int .i64 0, .bool false] 99 (0, 0)) * R))) (by ac_rfl)).drop.drop
  exact ((dk_method rfl).2 ⟨rfl, H4⟩).cast (by ac_rfl)
set_option maxHeartbeats 4000000 in
theorem new_fin (w : World) (R : HProp) (base op at_ rf ek en nk nn : Int) (sh ca fx : Bool) (mark : Int) (H : Holds w R) (hb0 : -1000000 ≤ base) (hb1 : base ≤ 1000000) (hr0 : -1000000 ≤ rf) (hr1 : rf ≤ 1000000) (h1 : ¬ op = 1) (h2 : ¬ op = 2) (h3 : ¬ op = 3) :
    Calls Try.prog 20 #[.int .i64 base, .agg #[.int .i64 op, .int .i64 at_, .int .i64 rf, .int .i64 ek, .int .i64 en, .int .i64 nk, .int .i64 nn], .agg #[.bool sh, .bool ca, .bool fx, .int .i64 mark]] w fun e w' => ∃ d, e = .returned (.pointer (some ⟨d, 0, none⟩)) ∧ Holds w' (DirP d (DS.new base op at_ rf ek en nk nn sh ca fx mark) * R) ∧ Strm w w' := by
  have hk : Hid (dkNew op sh = .fin) := by unfold dkNew Hid; simp [*]
  have HH : Hid (Holds w R) := H
  clear H
  have h1 : (op == 1) = false := by simpa using h1
  have h2 : (op == 2) = false := by simpa using h2
  have h3 : (op == 3) = false := by simpa using h3
  go_enter Try.func20, Try.ntmps20
  go_wp2_with fail
  go_ret
  have H3 := ((HH.out.alloc (.cells #[.int .i64 op, .int .i64 at_, .int .i64 rf, .int .i64 ek, .int .i64 en, .int .i64 nk, .int .i64 nn] 61)).alloc (.cells #[.bool sh, .bool ca, .bool fx, .int .i64 mark] 63)).alloc (.cells #[.nilFunc, .int .i64 (base + 1 + rf), .int .i64 op, .int .i64 at_, .int .i64 rf, .int .i64 ek, .int .i64 en, .int .i64 nk, .int .i64 nn, .bool sh, .bool ca, .bool fx, .int .i64 mark, .int .u64 0, .bool false, .int .i64 0, .int .i64 0, .int .i64 0, .bool false] 99)
  simp only [World.size_alloc] at H3
  have s3 := (((Strm.refl w).alloc (.cells #[.int .i64 op, .int .i64 at_, .int .i64 rf, .int .i64 ek, .int .i64 en, .int .i64 nk, .int .i64 nn] 61)).alloc (.cells #[.bool sh, .bool ca, .bool fx, .int .i64 mark] 63)).alloc (.cells #[.nilFunc, .int .i64 (base + 1 + rf), .int .i64 op, .int .i64 at_, .int .i64 rf, .int .i64 ek, .int .i64 en, .int .i64 nk, .int .i64 nn, .bool sh, .bool ca, .bool fx, .int .i64 mark, .int .u64 0, .bool false, .int .i64 0, .int .i64 0, .int .i64 0, .bool false] 99)
  refine ⟨w.heap.size + 1 + 1, rfl, dirP_close (kv := .nilFunc) ?_, s3⟩
  unfold DS.new
  simp only [DS.cells]
  rw [hk.out]
  have H4 := (H3.cast (Q := pt (w.heap.size + 1) (.cells #[.bool sh, .bool ca, .bool fx, .int .i64 mark] 63) * (pt w.heap.size (.cells #[.int .i64 op, .int .i64 at_, .int .i64 rf, .int .i64 ek, .int .i64 en, .int .i64 nk, .int .i64 nn] 61) * (pt (w.heap.size + 1 + 1) (.cells #[.nilFunc, .int .i64 (base + 1 + rf), .int .i64 op, .int .i64 at_, .int .i64 rf, .int .i64 ek, .int .i64 en, .int .i64 nk, .int .i64 nn, .bool sh, .bool ca, .bool fx, .int .i64 mark, .int .u64 0, .bool false, .int .i64 0, .int .i64 0, .int .i64 0, .bool false] 99 (0, 0)) * R))) (by ac_rfl)).drop.drop
  exact (dk_fin.2 ⟨rfl, H4⟩).cast (by ac_rfl)
theorem newDirect_calls (w : World) (R : HProp) (base op at_ rf ek en nk nn : Int) (sh ca fx : Bool) (mark : Int) (H : Holds w R) (hb0 : -1000000 ≤ base) (hb1 : base ≤ 1000000) (hr0 : -1000000 ≤ rf) (hr1 : rf ≤ 1000000) :
    Calls Try.prog 20 #[.int .i64 base, .agg #[.int .i64 op, .int .i64 at_, .int .i64 rf, .int .i64 ek, .int .i64 en, .int .i64 nk, .int .i64 nn], .agg #[.bool sh, .bool ca, .bool fx, .int .i64 mark]] w fun e w' => ∃ d, e = .returned (.pointer (some ⟨d, 0, none⟩)) ∧ Holds w' (DirP d (DS.new base op at_ rf ek en nk nn sh ca fx mark) * R) ∧ Strm w w' := by
  by_cases h1 : op = 1
  · exact new_read w R base op at_ rf ek en nk nn sh ca fx mark H hb0 hb1 hr0 hr1 h1
  by_cases h2 : op = 2
  · cases hs : sh with
    | true => subst hs; exact new_old w R base op at_ rf ek en nk nn true ca fx mark H hb0 hb1 hr0 hr1 h2 rfl
    | false => subst hs; exact new_write w R base op at_ rf ek en nk nn false ca fx mark H hb0 hb1 hr0 hr1 h2 rfl
  by_cases h3 : op = 3
  · exact new_look w R base op at_ rf ek en nk nn sh ca fx mark H hb0 hb1 hr0 hr1 h3
  exact new_fin w R base op at_ rf ek en nk nn sh ca fx mark H hb0 hb1 hr0 hr1 h1 h2 h3
/-! ### Step -/
set_option maxHeartbeats 2000000 in
theorem step_fin (w : World) (R : HProp) (mb d : Nat) (M : MS) (S : DS) (hk : S.k = .fin) (H : Holds w (MemP 120 mb M * (DirP d S * R))) :
    Calls Try.prog 13 #[.pointer (some ⟨d, 0, none⟩), .pointer (some ⟨mb, 0, none⟩)] w fun e w' => e = .returned (.bool true) ∧ Holds w' (MemP 120 mb M * (DirP d S * R)) ∧ Strm w w' := by
  obtain ⟨kv, H1⟩ := dirP_open (H.cast (Q := DirP d S * (MemP 120 mb M * R)) (by ac_rfl))
  have c1 := H1.cells
  have HK := H1.drop
  rw [hk] at HK
  obtain ⟨rfl, _⟩ := dk_fin.1 HK
  have HH : Hid (Holds w (MemP 120 mb M * (DirP d S * R))) := H
  clear H H1 HK hk
  simp only [DS.cells] at c1
  go_enter Try.func13, Try.ntmps13
  go_wp2_with fail
  go_ret
  exact ⟨rfl, HH.out, Strm.refl _⟩
/-- The state in which a step begins: nothing is marked yet. -/
def DS.off (S : DS) : DS := { S with hit := false }
def StepOf (mb d : Nat) (S1 : DS) (M1 : MS) (R : HProp) (w : World) : Ending → World → Prop := fun e w' =>
  e = .returned (.bool S1.k.isFin) ∧ Holds w' (MemP 120 mb M1 * (DirP d S1 * R)) ∧ Strm w w'
theorem dk_nil {w : World} {R : HProp} {d : Nat} {kv : Value} {k : DK} (H : Holds w (DK.P d kv k * R)) : (k = .fin ∧ kv = .nilFunc) ∨ (k.isFin = false ∧ ∃ fn a b, kv = .func fn a b) := by
  cases hk : k.isFin with
  | true => cases k <;> simp [DK.isFin] at hk; exact Or.inl ⟨rfl, (dk_fin.1 H).1⟩
  | false => exact Or.inr ⟨rfl, dk_func hk H⟩
set_option maxHeartbeats 4000000 in
theorem step_read (w : World) (R : HProp) (mb d : Nat) (M : MS) (S : DS) (hk : S.k = .read) (S1 : DS) (M1 : MS)
    (HM : ∀ w R kv, Holds w (MemP 120 mb M * (pt d (.cells (S.off.cells kv) 99 (0, 0)) * R)) → Calls Try.prog 42 #[.pointer (some ⟨d, 0, none⟩), .pointer (some ⟨mb, 0, none⟩)] w (Left mb d kv S1 M1 R w))
    (H : Holds w (MemP 120 mb M * (DirP d S * R))) :
    Calls Try.prog 13 #[.pointer (some ⟨d, 0, none⟩), .pointer (some ⟨mb, 0, none⟩)] w (StepOf mb d S1 M1 R w) := by
  obtain ⟨kv, H1⟩ := dirP_open (H.cast (Q := DirP d S * (MemP 120 mb M * R)) (by ac_rfl))
  rw [hk] at H1
  have HK := (dk_method (k := .read) rfl).1 (H1.cast (Q := DK.P d kv .read * (pt d (.cells (S.cells kv) 99 (0, 0)) * (MemP 120 mb M * R))) (by ac_rfl))
  obtain ⟨rfl, H2⟩ := HK
  have c1 := H2.cells
  have f1 := H2.frees
  have H3 := H2.set 14 (.bool false)
  obtain ⟨S1k, S1r⟩ : ∃ k : DK, S1.k = k := ⟨_, rfl⟩
  have HH : Hid (Holds (w.setCell ⟨d, 14, none⟩ (.bool false)) (MemP 120 mb M * (pt d (.cells (S.off.cells (method 42 d)) 99 (0, 0)) * R))) := H3.cast (by simp only [DS.cells, DS.off, List.setIfInBounds_toArray, List.set_cons_succ, List.set_cons_zero]; ac_rfl)
  have HM' : Hid (∀ w R kv, Holds w (MemP 120 mb M * (pt d (.cells (S.off.cells kv) 99 (0, 0)) * R)) → Calls Try.prog 42 #[.pointer (some ⟨d, 0, none⟩), .pointer (some ⟨mb, 0, none⟩)] w (Left mb d kv S1 M1 R w)) := HM
  clear H H1 H2 H3 HM hk S1r
  simp only [DS.cells, method] at c1
  go_enter Try.func13, Try.ntmps13
  go_wp2_with (go_at_call 42; (refine (HM'.out _ _ _ HH.out).mono ?_); rintro e w2 ⟨kv', rfl, H4, s4⟩; have H5 := H4.cast (Q := pt d (.cells (S1.cells (method 42 d)) 99 (0, 0)) * (DK.P d kv' S1.k * (MemP 120 mb M1 * R))) (by ac_rfl); have c2 := H5.cells; have f2 := H5.frees; simp only [DS.cells] at c2; have hcase := dk_nil H5.drop; have H6 := H5.set 0 kv'; rcases hcase with ⟨hk1, rfl⟩ | ⟨hk1, fn, a, b, rfl⟩)
  · go_ret
    refine ⟨by rw [hk1]; rfl, ?_, ((((Strm.refl w).set _ _).trans s4).set _ _)⟩
    exact (dirP_close (d := d) (S := S1) (R := MemP 120 mb M1 * R) (kv := .nilFunc) (H6.cast (by simp only [DS.cells, List.setIfInBounds_toArray, List.set_cons_zero]))).cast (by ac_rfl)
  · go_ret
    refine ⟨by rw [hk1]; rfl, ?_, ((((Strm.refl w).set _ _).trans s4).set _ _)⟩
    exact (dirP_close (d := d) (S := S1) (R := MemP 120 mb M1 * R) (kv := .func fn a b) (H6.cast (by simp only [DS.cells, List.setIfInBounds_toArray, List.set_cons_zero]))).cast (by ac_rfl)
set_option maxHeartbeats 4000000 in
theorem step_fix (w : World) (R : HProp) (mb d : Nat) (M : MS) (S : DS) (hk : S.k = .fix) (S1 : DS) (M1 : MS)
    (HM : ∀ w R kv, Holds w (MemP 120 mb M * (pt d (.cells (S.off.cells kv) 99 (0, 0)) * R)) → Calls Try.prog 64 #[.pointer (some ⟨d, 0, none⟩), .pointer (some ⟨mb, 0, none⟩)] w (Left mb d kv S1 M1 R w))
    (H : Holds w (MemP 120 mb M * (DirP d S * R))) :
    Calls Try.prog 13 #[.pointer (some ⟨d, 0, none⟩), .pointer (some ⟨mb, 0, none⟩)] w (StepOf mb d S1 M1 R w) := by
  obtain ⟨kv, H1⟩ := dirP_open (H.cast (Q := DirP d S * (MemP 120 mb M * R)) (by ac_rfl))
  rw [hk] at H1
  have HK := (dk_method (k := .fix) rfl).1 (H1.cast (Q := DK.P d kv .fix * (pt d (.cells (S.cells kv) 99 (0, 0)) * (MemP 120 mb M * R))) (by ac_rfl))
  obtain ⟨rfl, H2⟩ := HK
  have c1 := H2.cells
  have f1 := H2.frees
  have H3 := H2.set 14 (.bool false)
  obtain ⟨S1k, S1r⟩ : ∃ k : DK, S1.k = k := ⟨_, rfl⟩
  have HH : Hid (Holds (w.setCell ⟨d, 14, none⟩ (.bool false)) (MemP 120 mb M * (pt d (.cells (S.off.cells (method 64 d)) 99 (0, 0)) * R))) := H3.cast (by simp only [DS.cells, DS.off, List.setIfInBounds_toArray, List.set_cons_succ, List.set_cons_zero]; ac_rfl)
  have HM' : Hid (∀ w R kv, Holds w (MemP 120 mb M * (pt d (.cells (S.off.cells kv) 99 (0, 0)) * R)) → Calls Try.prog 64 #[.pointer (some ⟨d, 0, none⟩), .pointer (some ⟨mb, 0, none⟩)] w (Left mb d kv S1 M1 R w)) := HM
  clear H H1 H2 H3 HM hk S1r
  simp only [DS.cells, method] at c1
  go_enter Try.func13, Try.ntmps13
  go_wp2_with (go_at_call 64; (refine (HM'.out _ _ _ HH.out).mono ?_); rintro e w2 ⟨kv', rfl, H4, s4⟩; have H5 := H4.cast (Q := pt d (.cells (S1.cells (method 64 d)) 99 (0, 0)) * (DK.P d kv' S1.k * (MemP 120 mb M1 * R))) (by ac_rfl); have c2 := H5.cells; have f2 := H5.frees; simp only [DS.cells] at c2; have hcase := dk_nil H5.drop; have H6 := H5.set 0 kv'; rcases hcase with ⟨hk1, rfl⟩ | ⟨hk1, fn, a, b, rfl⟩)
  · go_ret
    refine ⟨by rw [hk1]; rfl, ?_, ((((Strm.refl w).set _ _).trans s4).set _ _)⟩
    exact (dirP_close (d := d) (S := S1) (R := MemP 120 mb M1 * R) (kv := .nilFunc) (H6.cast (by simp only [DS.cells, List.setIfInBounds_toArray, List.set_cons_zero]))).cast (by ac_rfl)
  · go_ret
    refine ⟨by rw [hk1]; rfl, ?_, ((((Strm.refl w).set _ _).trans s4).set _ _)⟩
    exact (dirP_close (d := d) (S := S1) (R := MemP 120 mb M1 * R) (kv := .func fn a b) (H6.cast (by simp only [DS.cells, List.setIfInBounds_toArray, List.set_cons_zero]))).cast (by ac_rfl)
end Go.Proofs.Ytfapicccijbanaa.Mem
