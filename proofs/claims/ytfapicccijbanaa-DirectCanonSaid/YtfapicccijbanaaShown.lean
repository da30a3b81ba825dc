/- What is proved: flitlaw12.shown, the document's examples, returns true. Conditions: none. -/
import Derived.Test.YtfapicccijbanaaPlain
import Derived.Test.YtfapicccijbanaaLaid
namespace Go.Proofs.Ytfapicccijbanaa.Mem
open Go Go.RowKit Go.Proofs.Ytfapicccijbanaa.Sep Go.Proofs.Ytfapicccijbanaa.Num
set_option maxRecDepth 100000
set_option linter.unusedVariables false
set_option linter.unusedSimpArgs false
attribute [local go_sem] eqlF_nil neqF_nil eqlF_fn neqF_fn
def M0 : MS := laidM [] [(0, 5)] 64
def D0 : DS := DS.new 96 1 96 0 0 0 0 0 false false false 0
def D1 : DS := (D0.off.read M0).1
def M1 : MS := M0.loaded 97
def P0 : PS := PS.new 2 96 3 0 0 0 0 0 0 0
def P1 : PS := { P0 with done := true, code := 15 }
def M2 : MS := M1.loaded 96
theorem m0_97 : M0.load 97 = 40 := by decide +kernel
theorem m1_96 : (HV.of (M1.load 96)).ct = 3 := by decide +kernel
theorem m2_96 : hMoved (M2.load 96) 96 = 96 := by decide +kernel
def M3 : MS := M2.loaded 96
theorem m3_100 : hMoved (M3.load 100) 100 = 100 := by decide +kernel
theorem loaded_ok (M : MS) (a : Int) (h : M.ok) (hc : M.cnt < 1000000) (ht : M.tr < 1000000) (hn : M.n < 1000000) : (M.loaded a).ok := by
  refine ⟨h.len, h.wd, ?_, ?_, ?_⟩ <;> simp only [MS.loaded, MS.acc] <;> (try split) <;> omega
theorem m0_ok : M0.ok := laidM_ok _ _ _ (by omega)
theorem m1_ok : M1.ok := loaded_ok _ _ m0_ok (by decide +kernel) (by decide +kernel) (by decide +kernel)
theorem m2_ok : M2.ok := loaded_ok _ _ m1_ok (by decide +kernel) (by decide +kernel) (by decide +kernel)
theorem m3_ok : M3.ok := loaded_ok _ _ m2_ok (by decide +kernel) (by decide +kernel) (by decide +kernel)
theorem d1_eq : D1 = ⟨.fin, 97, 1, 96, 0, 0, 0, 0, 0, false, false, false, 0, 40, true, 0, 0, 5, false⟩ := by
  unfold D1 DS.read D0 DS.new DS.off
  simp only [show (96 : Int) + 1 + 0 = 97 from rfl, m0_97]
  rfl
set_option maxHeartbeats 4000000 in
theorem shown_calls (w : World) (R : HProp) (H : Holds w R) :
    Calls Try.prog 9 #[] w fun e w' => e = .returned (.bool true) ∧ Holds w' R ∧ Strm w w' := by
  have H0 := H.alloc (.cells #[.int .i64 0, .int .i64 5] 24)
  have C1 : Hid (Calls Try.prog 10 #[.slice none 0 0, .slice (some ⟨w.heap.size, 0, none⟩) 1 1] (w.alloc (.cells #[.int .i64 0, .int .i64 5] 24)) fun e w' => ∃ mb yb, e = .returned (.tuple #[.pointer (some ⟨mb, 0, none⟩), .pointer (some ⟨yb, 0, none⟩)]) ∧ Holds w' (Both mb yb M0 (pt w.heap.size (.cells #[.int .i64 0, .int .i64 5] 24) * R)) ∧ Strm (w.alloc (.cells #[.int .i64 0, .int .i64 5] 24)) w') := by
    refine laid_calls _ _ _ _ [] [(0, 5)] H0 (fun w' _ => ⟨none, 0, rfl, by simp, Or.inl rfl⟩) (fun w' h => ⟨_, 1, rfl, by simp, Or.inr ⟨w.heap.size, 0, rfl, fun i hi => ?_⟩⟩)
    have : i = 0 := by simpa using hi
    subst this
    exact ⟨h.cell 0 _ rfl, h.cell 1 _ rfl⟩
  have C2 : Hid (∀ w R, Holds w R → Calls Try.prog 20 #[.int .i64 96, .agg #[.int .i64 1, .int .i64 96, .int .i64 0, .int .i64 0, .int .i64 0, .int .i64 0, .int .i64 0], .agg #[.bool false, .bool false, .bool false, .int .i64 0]] w fun e w' => ∃ d, e = .returned (.pointer (some ⟨d, 0, none⟩)) ∧ Holds w' (DirP d D0 * R) ∧ Strm w w') :=
    fun w R H => newDirect_calls w R 96 1 96 0 0 0 0 0 false false false 0 H (by omega) (by omega) (by omega) (by omega)
  have C3 : Hid (∀ w R, Holds w R → Calls Try.prog 27 #[.agg #[.int .i64 2, .int .i64 96, .int .i64 3, .int .i64 0, .int .i64 0, .int .i64 0, .int .i64 0], .agg #[.int .i64 0, .int .i64 0, .int .i64 0]] w fun e w' => ∃ p, e = .returned (.pointer (some ⟨p, 0, none⟩)) ∧ Holds w' (PlainP p P0 * R) ∧ Strm w w') :=
    fun w R H => newPlain_calls w R 2 96 3 0 0 0 0 0 0 0 H
  have C4 : Hid (∀ w R, Holds w R → Calls Try.prog 22 #[.int .i64 96, .int .i64 96] w fun e w' => ∃ x, e = .returned (.pointer (some ⟨x, 0, none⟩)) ∧ Holds w' (SameP x ⟨.fin, true⟩ * R) ∧ Strm w w') :=
    fun w R H => newSame_calls w R 96 96 H
  have C5 : Hid (∀ w R, Holds w R → Calls Try.prog 22 #[.int .i64 96, .int .i64 100] w fun e w' => ∃ x, e = .returned (.pointer (some ⟨x, 0, none⟩)) ∧ Holds w' (SameP x ⟨.one 96 100, false⟩ * R) ∧ Strm w w') :=
    fun w R H => newSame_calls w R 96 100 H
  have C6 : Hid (∀ w R mb d, Holds w (MemP 120 mb M0 * (DirP d D0 * R)) → Calls Try.prog 13 #[.pointer (some ⟨d, 0, none⟩), .pointer (some ⟨mb, 0, none⟩)] w fun e w' => e = .returned (.bool true) ∧ Holds w' (MemP 120 mb M1 * (DirP d D1 * R)) ∧ Strm w w') := fun w R mb d H => by
    have := step_read w R mb d M0 D0 rfl D1 M1 (fun w R kv H => read_calls w R mb d M0 D0.off kv m0_ok H) H
    unfold StepOf at this
    rw [show D1.k.isFin = true by rw [d1_eq]; rfl] at this
    exact this
  have C7 : Hid (∀ w R mb p, Holds w (MemP 120 mb M1 * (PlainP p P0 * R)) → Calls Try.prog 14 #[.pointer (some ⟨p, 0, none⟩), .pointer (some ⟨mb, 0, none⟩)] w fun e w' => e = .returned (.bool true) ∧ Holds w' (MemP 120 mb M2 * (PlainP p P1 * R)) ∧ Strm w w') := fun w R mb p H =>
    plainStep_err w R mb p M1 P0 m1_ok rfl rfl (Or.inr (by rw [show P0.at_ = 96 from rfl, m1_96]; decide)) H
  have C8 : Hid (∀ w R x, Holds w (SameP x ⟨.fin, true⟩ * R) → Calls Try.prog 24 #[.pointer (some ⟨x, 0, none⟩)] w fun e w' => e = .returned (.bool true) ∧ Holds w' (SameP x ⟨.fin, true⟩ * R) ∧ Strm w w') := fun w R x H => sameYes_calls w R x ⟨.fin, true⟩ H
  have C9 : Hid (∀ w R mb x, Holds w (MemP 120 mb M2 * (SameP x ⟨.one 96 100, false⟩ * R)) → Calls Try.prog 23 #[.pointer (some ⟨x, 0, none⟩), .pointer (some ⟨mb, 0, none⟩)] w fun e w' => e = .returned (.bool false) ∧ Holds w' (MemP 120 mb M3 * (SameP x ⟨.two 100 96, false⟩ * R)) ∧ Strm w w') := fun w R mb x H => by
    have := sameStep_calls w R mb x M2 ⟨.one 96 100, false⟩ m2_ok H
    simp only [SS.step, SS.done, m2_96] at this
    exact this
  have C10 : Hid (∀ w R mb x, Holds w (MemP 120 mb M3 * (SameP x ⟨.two 100 96, false⟩ * R)) → Calls Try.prog 23 #[.pointer (some ⟨x, 0, none⟩), .pointer (some ⟨mb, 0, none⟩)] w fun e w' => e = .returned (.bool true) ∧ Holds w' (SameP x ⟨.fin, false⟩ * R) ∧ Strm w w') := fun w R mb x H => by
    refine (sameStep_calls w R mb x M3 ⟨.two 100 96, false⟩ m3_ok H).mono ?_
    simp only [SS.step, SS.done, m3_100]
    rintro e w' ⟨rfl, H, s⟩
    exact ⟨rfl, H.drop, s⟩
  have C11 : Hid (∀ w R d, Holds w (DirP d D1 * R) → Calls Try.prog 28 #[.pointer (some ⟨d, 0, none⟩)] w fun e w' => e = .returned (.bool true) ∧ w = w') := fun w R d H => by
    have := hit_calls w R d D1 H
    rw [show D1.hit = true by rw [d1_eq]] at this; exact this
  have C12 : Hid (∀ w R d, Holds w (DirP d D1 * R) → Calls Try.prog 15 #[.pointer (some ⟨d, 0, none⟩)] w (Ret w (.agg #[.int .i64 0, .int .i64 0, .int .i64 5, .bool false]))) := fun w R d H => by
    have := result_calls w R d D1 H
    rw [show D1.result = .agg #[.int .i64 0, .int .i64 0, .int .i64 5, .bool false] by rw [d1_eq]; rfl] at this; exact this
  have C13 : Hid (∀ w R p, Holds w (PlainP p P1 * R) → Calls Try.prog 16 #[.pointer (some ⟨p, 0, none⟩)] w (Ret w (.agg #[.int .i64 15, .int .i64 0, .int .i64 0, .bool false]))) := fun w R p H => plainResult_calls w R p P1 H
  have C14 : Hid (∀ w R x, Holds w (SameP x ⟨.fin, false⟩ * R) → Calls Try.prog 24 #[.pointer (some ⟨x, 0, none⟩)] w fun e w' => e = .returned (.bool false) ∧ Holds w' (SameP x ⟨.fin, false⟩ * R) ∧ Strm w w') := fun w R x H => sameYes_calls w R x ⟨.fin, false⟩ H
  clear H H0
  go_enter Try.func9, Try.ntmps9
  have hfl : ∀ w, (Instr.field 45 (.agg #[.int .i64 15, .int .i64 0, .int .i64 0, .bool false]) 0).run Try.prog w = .ok (.int .i64 15) w := fun _ => by kernel_rfl
  have t1 : True := trivial
  have t2 : True := trivial
  have t3 : True := trivial
  go_wp2_with (first | (go_at_call 10; refine C1.out.mono ?_; rintro e w1 ⟨mb, yb, rfl, K1, s1⟩; have A1 := (K1.cast (Q := MemP 52 yb M0 * (pt w.heap.size (.cells #[.int .i64 0, .int .i64 5] 24) * (MemP 120 mb M0 * R))) (by unfold Both; ac_rfl)).drop.drop) | (go_at_call 20; (refine (C2.out _ _ A1).mono ?_); rintro e w2 ⟨d, rfl, K2, s2⟩) | (go_at_call 27; (refine (C3.out _ _ K2).mono ?_); rintro e w3 ⟨p, rfl, K3, s3⟩) | (go_at_call 22; have _t := t1; (refine (C4.out _ _ K3).mono ?_); rintro e w4 ⟨x, rfl, K4, s4⟩; clear t1) | (go_at_call 22; (refine (C5.out _ _ K4).mono ?_); rintro e w5 ⟨y, rfl, K5, s5⟩) | (go_at_call 13; (refine (C6.out _ (SameP y ⟨.one 96 100, false⟩ * (SameP x ⟨.fin, true⟩ * (PlainP p P0 * R))) mb d (K5.cast (by ac_rfl))).mono ?_); rintro e w6 ⟨rfl, K6, s6⟩) | (go_at_call 14; (refine (C7.out _ (SameP y ⟨.one 96 100, false⟩ * (SameP x ⟨.fin, true⟩ * (DirP d D1 * R))) mb p (K6.cast (by ac_rfl))).mono ?_); rintro e w7 ⟨rfl, K7, s7⟩) | (go_at_call 24; have _t := t2; (refine (C8.out _ (SameP y ⟨.one 96 100, false⟩ * (PlainP p P1 * (DirP d D1 * (MemP 120 mb M2 * R)))) x (K7.cast (by ac_rfl))).mono ?_); rintro e w8 ⟨rfl, K8, s8⟩; clear t2) | (go_at_call 23; have _t := t3; (refine (C9.out _ (PlainP p P1 * (DirP d D1 * R)) mb y (K8.drop.cast (by ac_rfl))).mono ?_); rintro e w9 ⟨rfl, K9, s9⟩; clear t3) | (go_at_call 23; (refine (C10.out _ (PlainP p P1 * (DirP d D1 * R)) mb y K9).mono ?_); rintro e w10 ⟨rfl, K10, s10⟩) | (go_at_call 28; (refine (C11.out _ (PlainP p P1 * (SameP y ⟨.fin, false⟩ * R)) d (K10.cast (by ac_rfl))).mono ?_); rintro e w11 ⟨rfl, rfl⟩) | (go_at_call 15; (refine (C12.out _ (PlainP p P1 * (SameP y ⟨.fin, false⟩ * R)) d (K10.cast (by ac_rfl))).mono ?_); rintro e w12 ⟨rfl, hb⟩; have K12 := K10.kept hb; have s12 := Strm.below hb; clear hb) | (go_at_call 16; (refine (C13.out _ (DirP d D1 * (SameP y ⟨.fin, false⟩ * R)) p (K12.cast (by ac_rfl))).mono ?_); rintro e w13 ⟨rfl, hb⟩; have K13 := K12.kept hb; have s13 := Strm.below hb; clear hb) | (go_at_call 24; (refine (C14.out _ (DirP d D1 * (PlainP p P1 * R)) y (K13.cast (by ac_rfl))).mono ?_); rintro e w14 ⟨rfl, K14, s14⟩))
  go_ret
  have S : Strm w w1 := ((Strm.refl w).alloc _).trans s1
  exact ⟨rfl, K14.drop.drop.drop, (((((((((((S.trans s2).trans s3).trans s4).trans s5).trans s6).trans s7).trans s8).trans s9).trans s10).trans s12).trans s13).trans s14⟩
end Go.Proofs.Ytfapicccijbanaa.Mem
