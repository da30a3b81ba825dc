/- What is proved: contracts of the small functions on words: slot.Of, slot.Word, flitref01's, flitref02's, head's. Conditions: that a word is one of 64 bits. -/
import Derived.Test.YtmmpnjcmaodkcaaBits
import Derived.Test.YtmmpnjcmaodkcaaProg
import Derived.Below
import Derived.WalkKit
import Derived.WalkSpells
import Derived.WalkLawsBesides
import Derived.KernelRfl
import Derived.BigQuiet
import Derived.Deep.QuietTactic
import Derived.Outline
import Derived.LoopN
namespace Go.Proofs.Ytmmpnjcmaodkcaa.Num
open Go Go.RowKit
set_option maxRecDepth 100000
set_option linter.unusedVariables false
set_option linter.unusedSimpArgs false
theorem wrap64_in (x : Int) (h : 0 ≤ x) (h' : x < 9223372036854775808) : wrap64 x = x := by unfold wrap64; omega
theorem wrapU_in (x : Int) (h : 0 ≤ x) (h' : x < 18446744073709551616) : IntKind.u64.wrap x = x := by rw [IntKind.wrap_u64]; omega
/-- The end of every contract here. -/
abbrev Ret (w : World) (v : Value) : Ending → World → Prop := fun e w' => e = .returned v ∧ Below w.heap.size w w'
theorem ret_int {k : IntKind} {a b : Int} (h : a = b) : Ending.returned (.int k a) = .returned (.int k b) := by rw [h]

theorem bcell {W w1 : World} (hb : Below W.heap.size W w1) : (∀ b o, b < W.heap.size → w1.cell? ⟨b, o, none⟩ = W.cell? ⟨b, o, none⟩) ∧ (∀ b o, b < W.heap.size → w1.frozen? ⟨b, o, none⟩ = W.frozen? ⟨b, o, none⟩) :=
  ⟨fun b o h => hb.cell (p := ⟨b, o, none⟩) h, fun b o h => hb.frozen (p := ⟨b, o, none⟩) h⟩
set_option maxHeartbeats 1000000 in
theorem slotOf_calls (x : Int) (w : World) (h0 : 0 ≤ x) (h : x < 18446744073709551616) :
    Calls Try.prog 42 #[.int .u64 x] w (Ret w (.agg #[.int .i64 (vK x), .int .i64 (vN x)])) := by
  have e1 : Hid (wrap64 (bits .and .u64 x 3) = vK x) := of1 x h0 h
  go_enter Try.func42, Try.ntmps42
  go_wp2_with fail
  exact bodyPost_ret (v := .agg #[.int .i64 (vK x), .int .i64 (vN x)]) (by simp [results, Try.results42, go_sem, e1.out, vN]) rfl ⟨rfl, (Below.refl _ _).alloc (Nat.le_refl _) _⟩
set_option maxHeartbeats 1000000 in
theorem kind_calls (c n : Int) (w : World) (hc : -9223372036854775808 ≤ c) (hc' : c ≤ 9223372036854775807) (hn : 0 < n) (hn' : n ≤ 100000) :
    Calls Try.prog 10 #[.int .i64 c, .int .i64 n] w fun e w' => e = .returned (.int .i64 (kindOf c n)) ∧ w' = w := by
  by_cases h : c < 0
  · have hN : Hid (-((c + 1).tmod n) = kindOf c n) := by
      unfold kindOf; rw [if_pos h, ← Int.neg_tmod, Int.tmod_eq_emod_of_nonneg (by omega)]; rfl
    go_enter Try.func10, Try.ntmps10
    go_wp2_with fail
    go_ret
    exact ⟨ret_int hN.out, rfl⟩
  · have hN : Hid (c % n = kindOf c n) := by unfold kindOf; rw [if_neg h]; rfl
    go_enter Try.func10, Try.ntmps10
    go_wp2_with fail
    go_ret
    exact ⟨ret_int hN.out, rfl⟩
set_option maxHeartbeats 1000000 in
theorem bits_calls (x n p : Int) (w : World) (h0 : 0 ≤ x) (h : x < 18446744073709551616) (hn : 0 < n) (hn' : n < 62) (hp : IntKind.u64.wrap (2 ^ n.toNat) = p) (hp0 : 0 < p) :
    Calls Try.prog 47 #[.int .u64 x, .int .i64 n] w fun e w' => e = .returned (.int .u64 (x % p)) ∧ w' = w := by
  have hd : decide (64 ≤ n) = false := by simp; omega
  go_enter Try.func47, Try.ntmps47
  go_wp2_with fail
  go_ret
  exact ⟨rfl, rfl⟩
theorem p1 : IntKind.u64.wrap (2 ^ (1 : Int).toNat) = 2 := by decide +kernel
theorem p2 : IntKind.u64.wrap (2 ^ (2 : Int).toNat) = 4 := by decide +kernel
theorem p3 : IntKind.u64.wrap (2 ^ (3 : Int).toNat) = 8 := by decide +kernel
theorem p12 : IntKind.u64.wrap (2 ^ (12 : Int).toNat) = 4096 := by decide +kernel
theorem p61 : IntKind.u64.wrap (2 ^ (61 : Int).toNat) = 2305843009213693952 := by decide +kernel
theorem p40 : IntKind.u64.wrap (2 ^ (40 : Int).toNat) = 1099511627776 := by decide +kernel
set_option maxHeartbeats 1000000 in
theorem ref01Of_calls (x : Int) (w : World) (h0 : 0 ≤ x) (h : x < 18446744073709551616) :
    Calls Try.prog 15 #[.int .u64 x] w (Ret w (.agg #[.int .i64 (vK x), .int .i64 (vN x)])) := by
  have e1 : Hid (x % 4 = vK x) := rfl
  have e2 : Hid (x / 8 = vN x) := rfl
  go_enter Try.func15, Try.ntmps15
  go_wp2_with (go_at_call 47; refine (bits_calls x 2 4 _ h0 h (by omega) (by omega) p2 (by omega)).mono ?_; rintro e w' ⟨rfl, rfl⟩)
  exact bodyPost_ret (v := .agg #[.int .i64 (vK x), .int .i64 (vN x)]) (by simp [results, Try.results15, go_sem, vK, vN]) rfl ⟨rfl, (Below.refl _ _).alloc (Nat.le_refl _) _⟩
set_option maxHeartbeats 1000000 in
theorem ref01Word_calls (k n : Int) (w : World) :
    Calls Try.prog 21 #[.agg #[.int .i64 k, .int .i64 n]] w (Ret w (.int .u64 (sW k n))) := by
  have a0 : 0 ≤ IntKind.u64.wrap k := by rw [IntKind.wrap_u64]; omega
  have a1 : IntKind.u64.wrap k < 18446744073709551616 := by rw [IntKind.wrap_u64]; omega
  have b0 : 0 ≤ IntKind.u64.wrap n := by rw [IntKind.wrap_u64]; omega
  have b1 : IntKind.u64.wrap n < 18446744073709551616 := by rw [IntKind.wrap_u64]; omega
  have c1 : Hid (IntKind.u64.wrap k % 4 + 8 * (IntKind.u64.wrap n % 2305843009213693952) = sW k n) := by
    show _ = _; unfold sW; simp only [IntKind.wrap_u64]; omega
  have e1 : 0 ≤ IntKind.u64.wrap k % 4 := by omega
  have e2 : IntKind.u64.wrap k % 4 ≤ 3 := by omega
  have e3 : 0 ≤ IntKind.u64.wrap n % 2305843009213693952 := by omega
  have e4 : IntKind.u64.wrap n % 2305843009213693952 ≤ 2305843009213693951 := by omega
  obtain ⟨kk, hk⟩ : ∃ kk, IntKind.u64.wrap k = kk := ⟨_, rfl⟩
  obtain ⟨nn, hn⟩ : ∃ nn, IntKind.u64.wrap n = nn := ⟨_, rfl⟩
  rw [hk] at a0 a1 c1 e1 e2
  rw [hn] at b0 b1 c1 e3 e4
  obtain ⟨k4, h4⟩ : ∃ k4, kk % 4 = k4 := ⟨_, rfl⟩
  obtain ⟨n6, h6⟩ : ∃ n6, nn % 2305843009213693952 = n6 := ⟨_, rfl⟩
  rw [h4] at c1 e1 e2
  rw [h6] at c1 e3 e4
  have Q1 : Hid (∀ w, Calls Try.prog 47 #[.int .u64 kk, .int .i64 2] w fun e w' => e = .returned (.int .u64 k4) ∧ w' = w) := fun w => by rw [← h4]; exact bits_calls kk 2 4 w a0 a1 (by omega) (by omega) p2 (by omega)
  have Q2 : Hid (∀ w, Calls Try.prog 47 #[.int .u64 nn, .int .i64 61] w fun e w' => e = .returned (.int .u64 n6) ∧ w' = w) := fun w => by rw [← h6]; exact bits_calls nn 61 2305843009213693952 w b0 b1 (by omega) (by omega) p61 (by omega)
  clear h4 h6
  go_enter Try.func21, Try.ntmps21
  go_wp2_with fail
  go_quiet ((first | (go_at_call 47; with_reducible exact Calls.quiet_of_same (Q1.out _)) | (go_at_call 47; with_reducible exact Calls.quiet_of_same (Q2.out _))))
  go_wp2_with fail
  go_ret
  exact ⟨ret_int c1.out, ((Below.refl _ _).alloc (Nat.le_refl _) _).trans ⟨rfl, rfl, rfl, Nat.le_refl _, fun _ _ => rfl⟩⟩
set_option maxHeartbeats 1000000 in
theorem part_calls (x at_ n p q : Int) (w : World) (h0 : 0 ≤ x) (h : x < 18446744073709551616) (ha : 0 ≤ at_) (ha' : at_ < 64) (hn : 0 < n) (hn' : n < 62) (hp : IntKind.u64.wrap (2 ^ n.toNat) = p) (hp0 : 0 < p) (hp1 : p ≤ 2305843009213693952) (hq : (2 : Int) ^ at_.toNat = q) (hq0 : 0 < q) :
    Calls Try.prog 48 #[.int .u64 x, .int .i64 at_, .int .i64 n] w fun e w' => e = .returned (.int .i64 (x / q % p)) ∧ w' = w := by
  have e0 : 0 ≤ x / q := Int.ediv_nonneg h0 (by omega)
  have e1 : x / q < 18446744073709551616 := Int.lt_of_le_of_lt (Int.ediv_le_self q h0) h
  have e2 : 0 ≤ x / q % p := Int.emod_nonneg _ (by omega)
  have e3 : x / q % p < 2305843009213693952 := Int.lt_of_lt_of_le (Int.emod_lt_of_pos _ hp0) hp1
  have Q : Hid (∀ w, Calls Try.prog 47 #[.int .u64 (x / q), .int .i64 n] w fun e w' => e = .returned (.int .u64 (x / q % p)) ∧ w' = w) := fun w => bits_calls (x / q) n p w e0 e1 hn hn' hp hp0
  clear hp
  go_enter Try.func48, Try.ntmps48
  go_wp2_with (go_at_call 47; refine (Q.out _).mono ?_; rintro e w' ⟨rfl, rfl⟩)
  go_ret
  exact ⟨rfl, rfl⟩
set_option maxHeartbeats 4000000 in
theorem ref02Of_calls (x : Int) (w : World) (h0 : 0 ≤ x) (h : x < 18446744073709551616) :
    Calls Try.prog 17 #[.int .u64 x] w (Ret w (HV.of x).agg) := by
  obtain ⟨v0, z0⟩ : ∃ v, (HV.of x).st = v := ⟨_, rfl⟩
  have Q0 : Hid (∀ w, Calls Try.prog 48 #[.int .u64 x, .int .i64 0, .int .i64 2] w fun e w' => e = .returned (.int .i64 v0) ∧ w' = w) := fun w => by
    have := part_calls x 0 2 4 1 w h0 h (by omega) (by omega) (by omega) (by omega) (by decide +kernel) (by omega) (by omega) (by decide +kernel) (by omega)
    rw [← z0]; simpa [HV.of] using this
  obtain ⟨v1, z1⟩ : ∃ v, (HV.of x).cl = v := ⟨_, rfl⟩
  have Q1 : Hid (∀ w, Calls Try.prog 48 #[.int .u64 x, .int .i64 2, .int .i64 2] w fun e w' => e = .returned (.int .i64 v1) ∧ w' = w) := fun w => by
    have := part_calls x 2 2 4 4 w h0 h (by omega) (by omega) (by omega) (by omega) (by decide +kernel) (by omega) (by omega) (by decide +kernel) (by omega)
    rw [← z1]; exact this
  obtain ⟨v2, z2⟩ : ∃ v, (HV.of x).ct = v := ⟨_, rfl⟩
  have Q2 : Hid (∀ w, Calls Try.prog 48 #[.int .u64 x, .int .i64 4, .int .i64 3] w fun e w' => e = .returned (.int .i64 v2) ∧ w' = w) := fun w => by
    have := part_calls x 4 3 8 16 w h0 h (by omega) (by omega) (by omega) (by omega) (by decide +kernel) (by omega) (by omega) (by decide +kernel) (by omega)
    rw [← z2]; exact this
  obtain ⟨v3, z3⟩ : ∃ v, (HV.of x).mr = v := ⟨_, rfl⟩
  have Q3 : Hid (∀ w, Calls Try.prog 48 #[.int .u64 x, .int .i64 7, .int .i64 1] w fun e w' => e = .returned (.int .i64 v3) ∧ w' = w) := fun w => by
    have := part_calls x 7 1 2 128 w h0 h (by omega) (by omega) (by omega) (by omega) (by decide +kernel) (by omega) (by omega) (by decide +kernel) (by omega)
    rw [← z3]; exact this
  obtain ⟨v4, z4⟩ : ∃ v, (HV.of x).gr = v := ⟨_, rfl⟩
  have Q4 : Hid (∀ w, Calls Try.prog 48 #[.int .u64 x, .int .i64 8, .int .i64 1] w fun e w' => e = .returned (.int .i64 v4) ∧ w' = w) := fun w => by
    have := part_calls x 8 1 2 256 w h0 h (by omega) (by omega) (by omega) (by omega) (by decide +kernel) (by omega) (by omega) (by decide +kernel) (by omega)
    rw [← z4]; exact this
  obtain ⟨v5, z5⟩ : ∃ v, (HV.of x).tg = v := ⟨_, rfl⟩
  have Q5 : Hid (∀ w, Calls Try.prog 48 #[.int .u64 x, .int .i64 9, .int .i64 3] w fun e w' => e = .returned (.int .i64 v5) ∧ w' = w) := fun w => by
    have := part_calls x 9 3 8 512 w h0 h (by omega) (by omega) (by omega) (by omega) (by decide +kernel) (by omega) (by omega) (by decide +kernel) (by omega)
    rw [← z5]; exact this
  obtain ⟨v6, z6⟩ : ∃ v, (HV.of x).lk = v := ⟨_, rfl⟩
  have Q6 : Hid (∀ w, Calls Try.prog 48 #[.int .u64 x, .int .i64 12, .int .i64 12] w fun e w' => e = .returned (.int .i64 v6) ∧ w' = w) := fun w => by
    have := part_calls x 12 12 4096 4096 w h0 h (by omega) (by omega) (by omega) (by omega) (by decide +kernel) (by omega) (by omega) (by decide +kernel) (by omega)
    rw [← z6]; exact this
  have hA : Hid ((HV.of x).agg = .agg #[.int .i64 v0, .int .i64 v1, .int .i64 v2, .int .i64 v3, .int .i64 v4, .int .i64 v5, .int .i64 v6]) := by show _ = _; unfold HV.agg; rw [z0, z1, z2, z3, z4, z5, z6]
  clear z0 z1 z2 z3 z4 z5 z6
  go_enter Try.func17, Try.ntmps17
  go_wp2_with (first | (go_at_call 48; (with_reducible refine (Q0.out _).mono ?_); rintro e w' ⟨rfl, rfl⟩) | (go_at_call 48; (with_reducible refine (Q1.out _).mono ?_); rintro e w' ⟨rfl, rfl⟩) | (go_at_call 48; (with_reducible refine (Q2.out _).mono ?_); rintro e w' ⟨rfl, rfl⟩) | (go_at_call 48; (with_reducible refine (Q3.out _).mono ?_); rintro e w' ⟨rfl, rfl⟩) | (go_at_call 48; (with_reducible refine (Q4.out _).mono ?_); rintro e w' ⟨rfl, rfl⟩) | (go_at_call 48; (with_reducible refine (Q5.out _).mono ?_); rintro e w' ⟨rfl, rfl⟩) | (go_at_call 48; (with_reducible refine (Q6.out _).mono ?_); rintro e w' ⟨rfl, rfl⟩))
  exact bodyPost_ret (v := .agg #[.int .i64 v0, .int .i64 v1, .int .i64 v2, .int .i64 v3, .int .i64 v4, .int .i64 v5, .int .i64 v6]) (by simp [results, Try.results17, go_sem]) rfl ⟨by rw [hA.out], (Below.refl _ _).alloc (Nat.le_refl _) _⟩
set_option maxHeartbeats 1000000 in
theorem ref02Moved_calls (x a : Int) (w : World) (h0 : 0 ≤ x) (h : x < 18446744073709551616) :
    Calls Try.prog 69 #[.int .u64 x, .int .i64 a] w (Ret w (.int .i64 (hMoved x a))) := by
  obtain ⟨v, hv⟩ : ∃ v, HV.of x = v := ⟨_, rfl⟩
  have Q : Hid (∀ w, Calls Try.prog 17 #[.int .u64 x] w (Ret w (.agg #[.int .i64 v.st, .int .i64 v.cl, .int .i64 v.ct, .int .i64 v.mr, .int .i64 v.gr, .int .i64 v.tg, .int .i64 v.lk]))) := fun w => by
    have := ref02Of_calls x w h0 h
    rw [hv] at this; exact this
  have HM : Hid (hMoved x a = if v.st = 1 ∧ v.tg = 2 then v.lk else a) := by show _ = _; unfold hMoved; rw [hv]
  clear hv
  obtain ⟨a1, a2, a3, a4, a5, a6, a7⟩ := v
  simp only at Q HM
  by_cases c1 : a1 = 1
  · by_cases c2 : a6 = 2
    · have HM' : Hid (hMoved x a = a7) := by rw [Hid, HM.out, if_pos ⟨c1, c2⟩]
      clear HM
      go_enter Try.func69, Try.ntmps69
      go_wp2_with (go_at_call 17; refine (Q.out _).mono ?_; rintro e w2 ⟨rfl, hb⟩; have HB := (show Hid (Below w.heap.size w w2) from hb); clear hb)
      go_ret
      exact ⟨ret_int HM'.out.symm, HB.out.alloc HB.out.size _⟩
    · have HM' : Hid (hMoved x a = a) := by rw [Hid, HM.out, if_neg (fun h => c2 h.2)]
      clear HM
      go_enter Try.func69, Try.ntmps69
      go_wp2_with (go_at_call 17; refine (Q.out _).mono ?_; rintro e w2 ⟨rfl, hb⟩; have HB := (show Hid (Below w.heap.size w w2) from hb); clear hb)
      go_ret
      exact ⟨ret_int HM'.out.symm, HB.out.alloc HB.out.size _⟩
  · have HM' : Hid (hMoved x a = a) := by rw [Hid, HM.out, if_neg (fun h => c1 h.1)]
    clear HM
    go_enter Try.func69, Try.ntmps69
    go_wp2_with (go_at_call 17; refine (Q.out _).mono ?_; rintro e w2 ⟨rfl, hb⟩; have HB := (show Hid (Below w.heap.size w w2) from hb); clear hb)
    go_ret
    exact ⟨ret_int HM'.out.symm, HB.out.alloc HB.out.size _⟩
set_option maxHeartbeats 4000000 in
theorem ref02Word_calls (v : HV) (w : World) :
    Calls Try.prog 24 #[v.agg] w (Ret w (.int .u64 v.w)) := by
  have hW := v.w_lo
  obtain ⟨a0, a1, a2, a3, a4, a5, a6⟩ := v
  obtain ⟨u0, hu0⟩ : ∃ u, IntKind.u64.wrap a0 = u := ⟨_, rfl⟩
  obtain ⟨x0, hx0⟩ : ∃ x, u0 % 4 = x := ⟨_, rfl⟩
  have l0 : 0 ≤ x0 := by omega
  have g0 : x0 < 4 := by omega
  have Q0 : Hid (∀ w, Calls Try.prog 47 #[.int .u64 u0, .int .i64 2] w fun e w' => e = .returned (.int .u64 x0) ∧ w' = w) := fun w => by
    rw [← hx0]; exact bits_calls u0 2 4 w (by rw [← hu0, IntKind.wrap_u64]; omega) (by rw [← hu0, IntKind.wrap_u64]; omega) (by omega) (by omega) p2 (by omega)
  obtain ⟨u1, hu1⟩ : ∃ u, IntKind.u64.wrap a1 = u := ⟨_, rfl⟩
  obtain ⟨x1, hx1⟩ : ∃ x, u1 % 4 = x := ⟨_, rfl⟩
  have l1 : 0 ≤ x1 := by omega
  have g1 : x1 < 4 := by omega
  have Q1 : Hid (∀ w, Calls Try.prog 47 #[.int .u64 u1, .int .i64 2] w fun e w' => e = .returned (.int .u64 x1) ∧ w' = w) := fun w => by
    rw [← hx1]; exact bits_calls u1 2 4 w (by rw [← hu1, IntKind.wrap_u64]; omega) (by rw [← hu1, IntKind.wrap_u64]; omega) (by omega) (by omega) p2 (by omega)
  obtain ⟨u2, hu2⟩ : ∃ u, IntKind.u64.wrap a2 = u := ⟨_, rfl⟩
  obtain ⟨x2, hx2⟩ : ∃ x, u2 % 8 = x := ⟨_, rfl⟩
  have l2 : 0 ≤ x2 := by omega
  have g2 : x2 < 8 := by omega
  have Q2 : Hid (∀ w, Calls Try.prog 47 #[.int .u64 u2, .int .i64 3] w fun e w' => e = .returned (.int .u64 x2) ∧ w' = w) := fun w => by
    rw [← hx2]; exact bits_calls u2 3 8 w (by rw [← hu2, IntKind.wrap_u64]; omega) (by rw [← hu2, IntKind.wrap_u64]; omega) (by omega) (by omega) p3 (by omega)
  obtain ⟨u3, hu3⟩ : ∃ u, IntKind.u64.wrap a3 = u := ⟨_, rfl⟩
  obtain ⟨x3, hx3⟩ : ∃ x, u3 % 2 = x := ⟨_, rfl⟩
  have l3 : 0 ≤ x3 := by omega
  have g3 : x3 < 2 := by omega
  have Q3 : Hid (∀ w, Calls Try.prog 47 #[.int .u64 u3, .int .i64 1] w fun e w' => e = .returned (.int .u64 x3) ∧ w' = w) := fun w => by
    rw [← hx3]; exact bits_calls u3 1 2 w (by rw [← hu3, IntKind.wrap_u64]; omega) (by rw [← hu3, IntKind.wrap_u64]; omega) (by omega) (by omega) p1 (by omega)
  obtain ⟨u4, hu4⟩ : ∃ u, IntKind.u64.wrap a4 = u := ⟨_, rfl⟩
  obtain ⟨x4, hx4⟩ : ∃ x, u4 % 2 = x := ⟨_, rfl⟩
  have l4 : 0 ≤ x4 := by omega
  have g4 : x4 < 2 := by omega
  have Q4 : Hid (∀ w, Calls Try.prog 47 #[.int .u64 u4, .int .i64 1] w fun e w' => e = .returned (.int .u64 x4) ∧ w' = w) := fun w => by
    rw [← hx4]; exact bits_calls u4 1 2 w (by rw [← hu4, IntKind.wrap_u64]; omega) (by rw [← hu4, IntKind.wrap_u64]; omega) (by omega) (by omega) p1 (by omega)
  obtain ⟨u5, hu5⟩ : ∃ u, IntKind.u64.wrap a5 = u := ⟨_, rfl⟩
  obtain ⟨x5, hx5⟩ : ∃ x, u5 % 8 = x := ⟨_, rfl⟩
  have l5 : 0 ≤ x5 := by omega
  have g5 : x5 < 8 := by omega
  have Q5 : Hid (∀ w, Calls Try.prog 47 #[.int .u64 u5, .int .i64 3] w fun e w' => e = .returned (.int .u64 x5) ∧ w' = w) := fun w => by
    rw [← hx5]; exact bits_calls u5 3 8 w (by rw [← hu5, IntKind.wrap_u64]; omega) (by rw [← hu5, IntKind.wrap_u64]; omega) (by omega) (by omega) p3 (by omega)
  obtain ⟨u6, hu6⟩ : ∃ u, IntKind.u64.wrap a6 = u := ⟨_, rfl⟩
  obtain ⟨x6, hx6⟩ : ∃ x, u6 % 4096 = x := ⟨_, rfl⟩
  have l6 : 0 ≤ x6 := by omega
  have g6 : x6 < 4096 := by omega
  have Q6 : Hid (∀ w, Calls Try.prog 47 #[.int .u64 u6, .int .i64 12] w fun e w' => e = .returned (.int .u64 x6) ∧ w' = w) := fun w => by
    rw [← hx6]; exact bits_calls u6 12 4096 w (by rw [← hu6, IntKind.wrap_u64]; omega) (by rw [← hu6, IntKind.wrap_u64]; omega) (by omega) (by omega) p12 (by omega)
  have hR : Hid (x0 + x1 * 4 + x2 * 16 + x3 * 128 + x4 * 256 + x5 * 512 + x6 * 4096 = (HV.mk a0 a1 a2 a3 a4 a5 a6).w) := by
    show _ = _; unfold HV.w
    rw [IntKind.wrap_u64] at hu0 hu1 hu2 hu3 hu4 hu5 hu6
    simp only; omega
  unfold HV.agg
  simp only
  clear hx0 hx1 hx2 hx3 hx4 hx5 hx6 hW
  go_enter Try.func24, Try.ntmps24
  go_wp2_with (first | (go_at_call 47; (with_reducible refine (Q0.out _).mono ?_); rintro e w' ⟨rfl, rfl⟩) | (go_at_call 47; (with_reducible refine (Q1.out _).mono ?_); rintro e w' ⟨rfl, rfl⟩) | (go_at_call 47; (with_reducible refine (Q2.out _).mono ?_); rintro e w' ⟨rfl, rfl⟩) | (go_at_call 47; (with_reducible refine (Q3.out _).mono ?_); rintro e w' ⟨rfl, rfl⟩) | (go_at_call 47; (with_reducible refine (Q4.out _).mono ?_); rintro e w' ⟨rfl, rfl⟩) | (go_at_call 47; (with_reducible refine (Q5.out _).mono ?_); rintro e w' ⟨rfl, rfl⟩) | (go_at_call 47; (with_reducible refine (Q6.out _).mono ?_); rintro e w' ⟨rfl, rfl⟩))
  go_ret
  exact ⟨ret_int hR.out, (Below.refl _ _).alloc (Nat.le_refl _) _⟩
set_option maxHeartbeats 4000000 in
theorem unpack_calls (x : Int) (b : Nat) (w : World) (h0 : 0 ≤ x) (h : x < 18446744073709551616)
    (c0 : w.cell? ⟨b, 0, none⟩ = some (.int .i64 2)) (c1 : w.cell? ⟨b, 1, none⟩ = some (.int .i64 2)) (c2 : w.cell? ⟨b, 2, none⟩ = some (.int .i64 3)) (c3 : w.cell? ⟨b, 3, none⟩ = some (.int .i64 1))
    (c4 : w.cell? ⟨b, 4, none⟩ = some (.int .i64 1)) (c5 : w.cell? ⟨b, 5, none⟩ = some (.int .i64 3)) (c6 : w.cell? ⟨b, 6, none⟩ = some (.int .i64 12)) (hb : b < w.heap.size) :
    Calls Try.prog 64 #[.int .u64 x, .slice (some ⟨b, 0, none⟩) 7 7] w (Ret w (HV.of x).agg) := by
  obtain ⟨v0, z0⟩ : ∃ v, (HV.of x).st = v := ⟨_, rfl⟩
  have e0 : wrap64 (bits .and .u64 (x) 3) = v0 := by
    have := andMask (x) 2 3 (by omega) (by omega) (by decide) (by omega)
    rw [show ((3 : Nat) : Int) = 3 from rfl] at this
    rw [this, wrap64_in _ (by omega) (by omega), ← z0]; simp only [HV.of]; omega
  obtain ⟨v1, z1⟩ : ∃ v, (HV.of x).cl = v := ⟨_, rfl⟩
  have e1 : wrap64 (bits .and .u64 (x / 4) 3) = v1 := by
    have := andMask (x / 4) 2 3 (by omega) (by omega) (by decide) (by omega)
    rw [show ((3 : Nat) : Int) = 3 from rfl] at this
    rw [this, wrap64_in _ (by omega) (by omega), ← z1]; simp only [HV.of]; omega
  obtain ⟨v2, z2⟩ : ∃ v, (HV.of x).ct = v := ⟨_, rfl⟩
  have e2 : wrap64 (bits .and .u64 (x / 4 / 4) 7) = v2 := by
    have := andMask (x / 4 / 4) 3 7 (by omega) (by omega) (by decide) (by omega)
    rw [show ((7 : Nat) : Int) = 7 from rfl] at this
    rw [this, wrap64_in _ (by omega) (by omega), ← z2]; simp only [HV.of]; omega
  obtain ⟨v3, z3⟩ : ∃ v, (HV.of x).mr = v := ⟨_, rfl⟩
  have e3 : wrap64 (bits .and .u64 (x / 4 / 4 / 8) 1) = v3 := by
    have := andMask (x / 4 / 4 / 8) 1 1 (by omega) (by omega) (by decide) (by omega)
    rw [show ((1 : Nat) : Int) = 1 from rfl] at this
    rw [this, wrap64_in _ (by omega) (by omega), ← z3]; simp only [HV.of]; omega
  obtain ⟨v4, z4⟩ : ∃ v, (HV.of x).gr = v := ⟨_, rfl⟩
  have e4 : wrap64 (bits .and .u64 (x / 4 / 4 / 8 / 2) 1) = v4 := by
    have := andMask (x / 4 / 4 / 8 / 2) 1 1 (by omega) (by omega) (by decide) (by omega)
    rw [show ((1 : Nat) : Int) = 1 from rfl] at this
    rw [this, wrap64_in _ (by omega) (by omega), ← z4]; simp only [HV.of]; omega
  obtain ⟨v5, z5⟩ : ∃ v, (HV.of x).tg = v := ⟨_, rfl⟩
  have e5 : wrap64 (bits .and .u64 (x / 4 / 4 / 8 / 2 / 2) 7) = v5 := by
    have := andMask (x / 4 / 4 / 8 / 2 / 2) 3 7 (by omega) (by omega) (by decide) (by omega)
    rw [show ((7 : Nat) : Int) = 7 from rfl] at this
    rw [this, wrap64_in _ (by omega) (by omega), ← z5]; simp only [HV.of]; omega
  obtain ⟨v6, z6⟩ : ∃ v, (HV.of x).lk = v := ⟨_, rfl⟩
  have e6 : wrap64 (bits .and .u64 (x / 4 / 4 / 8 / 2 / 2 / 8) 4095) = v6 := by
    have := andMask (x / 4 / 4 / 8 / 2 / 2 / 8) 12 4095 (by omega) (by omega) (by decide) (by omega)
    rw [show ((4095 : Nat) : Int) = 4095 from rfl] at this
    rw [this, wrap64_in _ (by omega) (by omega), ← z6]; simp only [HV.of]; omega
  have hA : Hid ((HV.of x).agg = .agg #[.int .i64 v0, .int .i64 v1, .int .i64 v2, .int .i64 v3, .int .i64 v4, .int .i64 v5, .int .i64 v6]) := by show _ = _; unfold HV.agg; rw [z0, z1, z2, z3, z4, z5, z6]
  clear z0 z1 z2 z3 z4 z5 z6
  go_enter Try.func64, Try.ntmps64
  go_wp2_with fail
  refine wp_loop_rounds 8 ?_
  iterate 8 (rw [rounds_succ]; go_wp2_with fail)
  exact bodyPost_ret (v := .agg #[.int .i64 v0, .int .i64 v1, .int .i64 v2, .int .i64 v3, .int .i64 v4, .int .i64 v5, .int .i64 v6]) (by simp [results, Try.results64, go_sem]) rfl ⟨by rw [hA.out], by repeat (first | exact Below.refl _ _ | refine Below.alloc ?_ (by simp) _ | refine Below.setCell ?_ (by simp) _)⟩
end Go.Proofs.Ytmmpnjcmaodkcaa.Num
