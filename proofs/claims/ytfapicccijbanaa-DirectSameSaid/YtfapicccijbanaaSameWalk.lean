/- What is proved: the walk of flitlaw12.DirectSame: it returns true for every input that can be read, and nothing that was there turns. Conditions: stated as hypotheses. -/
import Derived.Test.YtfapicccijbanaaSameLaw
namespace Go.Proofs.Ytfapicccijbanaa.Mem
open Go Go.RowKit Go.Proofs.Ytfapicccijbanaa.Sep Go.Proofs.Ytfapicccijbanaa.Num
set_option maxRecDepth 100000
set_option linter.unusedVariables false
set_option linter.unusedSimpArgs false
attribute [local go_sem] eqlF_nil neqF_nil eqlF_fn neqF_fn
theorem fieldVal (k n : Int) (w : World) : (Instr.field 24 (.agg #[.int .i64 k, .int .i64 n]) 1).run Try.prog w = .ok (.int .i64 n) w := by kernel_rfl
/-- What the two machines need of memory, in one order. -/
def SMZ (mb x z : Nat) (M : MS) (S Z : SS) (R : HProp) : HProp := MemP 120 mb M * (SameP x S * (SameP z Z * R))
set_option maxHeartbeats 8000000 in
theorem directSame_walk (w : World) (tv : Value) (tags : List Int) (a b : Int) (hT : IntsAt w tv tags) (ha : -9223372036854775808 ≤ a ∧ a ≤ 9223372036854775807) (hb : -9223372036854775808 ≤ b ∧ b ≤ 9223372036854775807) :
    Calls Try.prog 7 #[tv, .int .i64 a, .int .i64 b] w fun e w' => e = .returned (.bool true) ∧ Below w.heap.size w w' := by
  have HO : Hid (Holds w (old w.heap.size w)) := holds_old _ _
  obtain ⟨R, hR⟩ : ∃ R, old w.heap.size w = R := ⟨_, rfl⟩
  have HT : Hid (∀ w', Holds w' R → IntsAt w' tv tags) := fun w' H => ints_old hT (hR ▸ H)
  have HF : Hid (∀ w', Holds w' R → Strm w w' → Below w.heap.size w w') := fun w' H s => Holds.below (hR ▸ H) (Nat.le_refl _) s
  rw [hR] at HO
  clear hT hR
  have C1 : Hid (∀ w R, Holds w R → Calls Try.prog 9 #[] w fun e w' => e = .returned (.bool true) ∧ Holds w' R ∧ Strm w w') := fun w R H => shown_calls w R H
  have C2 : Hid (∀ w, Holds w R → Calls Try.prog 10 #[tv, .slice none 0 0] w fun e w' => ∃ mb yb, e = .returned (.tuple #[.pointer (some ⟨mb, 0, none⟩), .pointer (some ⟨yb, 0, none⟩)]) ∧ Holds w' (Both mb yb (laidM tags [] 64) R) ∧ Strm w w') := fun w H => laid_calls w R tv (.slice none 0 0) tags [] H HT.out (fun _ _ => vals_nil _)
  obtain ⟨p, hp⟩ : ∃ p, addrOf a = p := ⟨_, rfl⟩
  obtain ⟨q, hq⟩ : ∃ q, addrOf b = q := ⟨_, rfl⟩
  have C3 : Hid (∀ w, Calls Try.prog 19 #[.agg #[.int .i64 1, .int .i64 a]] w (Ret w (.agg #[.int .i64 (opVal 1 a).1, .int .i64 p]))) := fun w => by rw [← hp]; exact val_calls 1 a w (by omega) (by omega) ha.1 ha.2
  have C4 : Hid (∀ w, Calls Try.prog 19 #[.agg #[.int .i64 1, .int .i64 b]] w (Ret w (.agg #[.int .i64 (opVal 1 b).1, .int .i64 q]))) := fun w => by rw [← hq]; exact val_calls 1 b w (by omega) (by omega) hb.1 hb.2
  have hpc := addrOf_cases a
  have hqc := addrOf_cases b
  rw [hp] at hpc
  rw [hq] at hqc
  have C5 : Hid (∀ w R p q, Holds w R → Calls Try.prog 22 #[.int .i64 p, .int .i64 q] w fun e w' => ∃ x, e = .returned (.pointer (some ⟨x, 0, none⟩)) ∧ Holds w' (SameP x (sameNew p q) * R) ∧ Strm w w') := fun w R p q H => newSame_calls w R p q H
  -- the four steps
  have m0 := mi_start tags []
  obtain ⟨L0, hL0⟩ : ∃ M, laidM tags [] 64 = M := ⟨_, rfl⟩
  rw [hL0] at m0 C2
  obtain ⟨S0, hS0⟩ : ∃ S, sameNew p q = S := ⟨_, rfl⟩
  obtain ⟨Z0, hZ0⟩ : ∃ S, sameNew q p = S := ⟨_, rfl⟩
  have m1 := m0.sstep S0
  have st1 := fun w R mb x (H : Holds w (MemP 120 mb L0 * (SameP x S0 * R))) => sameStep_calls w R mb x L0 S0 (m0.ok (by omega)) H
  obtain ⟨S1, hS1⟩ : ∃ S, (S0.step L0).1 = S := ⟨_, rfl⟩
  obtain ⟨L1, hL1⟩ : ∃ M, (S0.step L0).2 = M := ⟨_, rfl⟩
  rw [hL1] at m1
  rw [hS1, hL1] at st1
  have m2 := m1.sstep Z0
  have st2 := fun w R mb x (H : Holds w (MemP 120 mb L1 * (SameP x Z0 * R))) => sameStep_calls w R mb x L1 Z0 (m1.ok (by omega)) H
  obtain ⟨Z1, hZ1⟩ : ∃ S, (Z0.step L1).1 = S := ⟨_, rfl⟩
  obtain ⟨L2, hL2⟩ : ∃ M, (Z0.step L1).2 = M := ⟨_, rfl⟩
  rw [hL2] at m2
  rw [hZ1, hL2] at st2
  have m3 := m2.sstep S1
  have st3 := fun w R mb x (H : Holds w (MemP 120 mb L2 * (SameP x S1 * R))) => sameStep_calls w R mb x L2 S1 (m2.ok (by omega)) H
  have eS := same_two_rounds tags p q hpc hqc L0 m0.ws L2 m2.ws
  rw [hS0, hS1] at eS
  obtain ⟨L3, hL3⟩ : ∃ M, (S1.step L2).2 = M := ⟨_, rfl⟩
  rw [hL3] at m3
  have eS1 : (S1.step L2).1 = ⟨.fin, if p ≠ 0 ∧ q ≠ 0 then decide (whereIs tags p = whereIs tags q) else decide (p = q)⟩ := by rw [eS]
  obtain ⟨yx, hyx⟩ : ∃ y, (if p ≠ 0 ∧ q ≠ 0 then decide (whereIs tags p = whereIs tags q) else decide (p = q)) = y := ⟨_, rfl⟩
  rw [hyx] at eS1
  rw [eS1, hL3] at st3
  have st4 := fun w R mb x (H : Holds w (MemP 120 mb L3 * (SameP x Z1 * R))) => sameStep_calls w R mb x L3 Z1 (m3.ok (by omega)) H
  have eZ := same_two_rounds tags q p hqc hpc L1 m1.ws L3 m3.ws
  rw [hZ0, hZ1] at eZ
  have m4 := m3.sstep Z1
  obtain ⟨L4, hL4⟩ : ∃ M, (Z1.step L3).2 = M := ⟨_, rfl⟩
  rw [hL4] at m4
  have eZ1 : (Z1.step L3).1 = ⟨.fin, yx⟩ := by
    rw [eZ, ← hyx]
    congr 1
    by_cases h : p ≠ 0 ∧ q ≠ 0
    · rw [if_pos h, if_pos ⟨h.2, h.1⟩]; exact congrArg (SS.mk .fin) (decide_eq_decide.2 eq_comm)
    · rw [if_neg h, if_neg (fun x => h ⟨x.2, x.1⟩)]; exact congrArg (SS.mk .fin) (decide_eq_decide.2 eq_comm)
  rw [eZ1, hL4] at st4
  have st5 := fun w R mb x (H : Holds w (MemP 120 mb L4 * (SameP x ⟨.fin, yx⟩ * R))) => sameStep_calls w R mb x L4 ⟨.fin, yx⟩ (m4.ok (by omega)) H
  have ys := fun w R x (H : Holds w (SameP x ⟨.fin, yx⟩ * R)) => sameYes_calls w R x ⟨.fin, yx⟩ H
  simp only [SS.step, SS.done, Bool.true_and] at st3 st4 st5 ys
  have HS0 : Hid (sameNew p q = S0) := hS0
  have HZ0 : Hid (sameNew q p = Z0) := hZ0
  have T1 : Hid _ := st1
  have T2 : Hid _ := st2
  have T3 : Hid _ := st3
  have T4 : Hid _ := st4
  have T5 : Hid _ := st5
  have YS : Hid _ := ys
  have MW : Hid (Mi tags [] 0 L0) := m0
  have HY : Hid ((if p ≠ 0 ∧ q ≠ 0 then decide (whereIs tags p = whereIs tags q) else decide (p = q)) = yx) := hyx
  clear st1 st2 st3 st4 st5 ys m0 m1 m2 m3 m4 eS eZ eS1 eZ1 hyx hL0 hL1 hL2 hL3 hL4 hS0 hS1 hZ0 hZ1 hp hq ha hb
  have HP : Hid (p = 0 ∨ ∃ i : Nat, i < 16 ∧ p = 96 + 4 * (i : Int)) := hpc
  have HQ : Hid (q = 0 ∨ ∃ i : Nat, i < 16 ∧ q = 96 + 4 * (i : Int)) := hqc
  clear hpc hqc
  go_enter Try.func7, Try.ntmps7
  have t1 : True := trivial
  have t2 : True := trivial
  have fv := fieldVal
  go_wp2_with (first | (go_at_call 9; (refine (C1.out _ _ HO.out).mono ?_); rintro e w1 ⟨rfl, K1, s1⟩) | (go_at_call 10; (refine (C2.out _ K1).mono ?_); rintro e w2 ⟨mb, yb, rfl, K2, s2⟩) | (go_at_call 19; have _t := t1; (with_reducible refine (C3.out _).mono ?_); rintro e w3 ⟨rfl, hb⟩; have K3 := K2.kept hb; have s3 := Strm.below hb; clear t1 hb) | (go_at_call 19; (with_reducible refine (C4.out _).mono ?_); rintro e w4 ⟨rfl, hb⟩; have K4 := K3.kept hb; have s4 := Strm.below hb; clear hb) | (go_at_call 22; have _t := t2; (refine (C5.out _ _ p q K4).mono ?_); rintro e w5 ⟨x, rfl, K5, s5⟩; clear t2) | (go_at_call 22; (refine (C5.out _ _ q p K5).mono ?_); rintro e w6 ⟨z, rfl, K6, s6⟩))
  have K7 := K6.cast (Q := MemP 120 mb L0 * (SameP x S0 * (SameP z Z0 * (MemP 52 yb L0 * R)))) (by rw [HS0.out, HZ0.out]; unfold Both; ac_rfl)
  refine wp_loop_rounds 3 ?_
  rw [rounds_succ]
  have t1 : True := trivial
  go_wp2_with (first | (go_at_call 23; have _t := t1; (refine (T1.out _ (SameP z Z0 * (MemP 52 yb L0 * R)) mb x K7).mono ?_); rintro e w7 ⟨rfl, K8, s7⟩; clear t1) | (go_at_call 23; (refine (T2.out _ (SameP x S1 * (MemP 52 yb L0 * R)) mb z (K8.cast (by ac_rfl))).mono ?_); rintro e w8 ⟨rfl, K9, s8⟩))
  rw [rounds_succ]
  have t1 : True := trivial
  go_wp2_with (first | (go_at_call 23; have _t := t1; (refine (T3.out _ (SameP z Z1 * (MemP 52 yb L0 * R)) mb x (K9.cast (by ac_rfl))).mono ?_); rintro e w9 ⟨rfl, K10, s9⟩; clear t1) | (go_at_call 23; (refine (T4.out _ (SameP x ⟨.fin, yx⟩ * (MemP 52 yb L0 * R)) mb z (K10.cast (by ac_rfl))).mono ?_); rintro e w10 ⟨rfl, K11, s10⟩))
  rw [rounds_succ]
  have K12 : Hid (Holds w10 (MemP 52 yb L0 * (MemP 120 mb L4 * (SameP x ⟨.fin, yx⟩ * (SameP z ⟨.fin, yx⟩ * R))))) := K11.cast (by ac_rfl)
  have SS1 : Hid (Strm w w10) := ((((((((s1.trans s2).trans s3).trans s4).trans s5).trans s6).trans s7).trans s8).trans s9).trans s10
  clear K1 K2 K3 K4 K5 K6 K7 K8 K9 K10 K11 s1 s2 s3 s4 s5 s6 s7 s8 s9 s10
  rcases HP.out with hp0 | ⟨i, hi, hpi⟩
  · subst hp0
    have K13 := K12.out.drop
    clear HP HQ K12
    by_cases hq : q = 0
    · subst hq
      have e : yx = true := by rw [← HY.out]; simp
      subst e
      clear HY
      have t1 : True := trivial
      go_wp2_with (first | (go_at_call 24; have _t := t1; (refine (YS.out _ (MemP 120 mb L4 * (SameP z ⟨.fin, true⟩ * R)) x (K13.cast (by ac_rfl))).mono ?_); rintro e w11 ⟨rfl, K14, s11⟩; clear t1) | (go_at_call 24; (refine (YS.out _ (MemP 120 mb L4 * (SameP x ⟨.fin, true⟩ * R)) z (K14.cast (by ac_rfl))).mono ?_); rintro e w12 ⟨rfl, K15, s12⟩) | (go_at_call 23; (refine (T5.out _ (SameP z ⟨.fin, true⟩ * R) mb x (K15.cast (by ac_rfl))).mono ?_); rintro e w13 ⟨rfl, K16, s13⟩))
      go_ret
      exact ⟨rfl, HF.out _ K16.drop.drop.drop (((SS1.out.trans s11).trans s12).trans s13)⟩
    · have e : yx = false := by rw [← HY.out]; simp; exact fun e => hq e.symm
      subst e
      have hq' : ((0 : Int) == q) = false := by simp; exact fun e => hq e.symm
      clear HY hq
      have t1 : True := trivial
      go_wp2_with (first | (go_at_call 24; have _t := t1; (refine (YS.out _ (MemP 120 mb L4 * (SameP z ⟨.fin, false⟩ * R)) x (K13.cast (by ac_rfl))).mono ?_); rintro e w11 ⟨rfl, K14, s11⟩; clear t1) | (go_at_call 24; (refine (YS.out _ (MemP 120 mb L4 * (SameP x ⟨.fin, false⟩ * R)) z (K14.cast (by ac_rfl))).mono ?_); rintro e w12 ⟨rfl, K15, s12⟩) | (go_at_call 23; (refine (T5.out _ (SameP z ⟨.fin, false⟩ * R) mb x (K15.cast (by ac_rfl))).mono ?_); rintro e w13 ⟨rfl, K16, s13⟩))
      go_ret
      exact ⟨rfl, HF.out _ K16.drop.drop.drop (((SS1.out.trans s11).trans s12).trans s13)⟩
  · rcases HQ.out with hq0 | ⟨j, hj, hqj⟩
    · subst hpi hq0
      have e : yx = false := by rw [← HY.out]; simp; omega
      subst e
      have hq' : ((96 + 4 * (i : Int)) == 0) = false := by simp; omega
      have hq2 : ((96 + 4 * (i : Int)) != 0) = true := by simp; omega
      have K13 := K12.out.drop
      clear HY HP HQ K12
      have t1 : True := trivial
      go_wp2_with (first | (go_at_call 24; have _t := t1; (refine (YS.out _ (MemP 120 mb L4 * (SameP z ⟨.fin, false⟩ * R)) x (K13.cast (by ac_rfl))).mono ?_); rintro e w11 ⟨rfl, K14, s11⟩; clear t1) | (go_at_call 24; (refine (YS.out _ (MemP 120 mb L4 * (SameP x ⟨.fin, false⟩ * R)) z (K14.cast (by ac_rfl))).mono ?_); rintro e w12 ⟨rfl, K15, s12⟩) | (go_at_call 23; (refine (T5.out _ (SameP z ⟨.fin, false⟩ * R) mb x (K15.cast (by ac_rfl))).mono ?_); rintro e w13 ⟨rfl, K16, s13⟩))
      go_ret
      exact ⟨rfl, HF.out _ K16.drop.drop.drop (((SS1.out.trans s11).trans s12).trans s13)⟩
    · subst hpi hqj
      have hl1 : L0.ws.length = 160 := by rw [MW.out.ws, laidTo_len]
      have g1 : L0.ws[96 + 4 * i]? = some (laidAt tags [] (96 + 4 * i)) := by rw [MW.out.ws]; unfold laidTo; rw [List.getElem?_map, List.getElem?_range (by omega), Option.map_some, if_pos (by omega)]
      have g2 : L0.ws[96 + 4 * j]? = some (laidAt tags [] (96 + 4 * j)) := by rw [MW.out.ws]; unfold laidTo; rw [List.getElem?_map, List.getElem?_range (by omega), Option.map_some, if_pos (by omega)]
      have r1 := laidAt_rng tags [] (96 + 4 * i)
      have r2 := laidAt_rng tags [] (96 + 4 * j)
      have w1' : whereIs tags (96 + 4 * (i : Int)) = hMoved (laidAt tags [] (96 + 4 * i)) (96 + 4 * (i : Int)) := by unfold whereIs; rw [show (96 + 4 * (i : Int)).toNat = 96 + 4 * i by omega]
      have w2' : whereIs tags (96 + 4 * (j : Int)) = hMoved (laidAt tags [] (96 + 4 * j)) (96 + 4 * (j : Int)) := by unfold whereIs; rw [show (96 + 4 * (j : Int)).toNat = 96 + 4 * j by omega]
      rw [if_pos ⟨by omega, by omega⟩, w1', w2'] at HY
      clear w1' w2'
      obtain ⟨wb, yv, xs, K13⟩ := memP_open K12.out
      have c1 : w10.cell? ⟨yb, 0, none⟩ = some (.slice (some ⟨wb, 0, none⟩) 160 160) := by rw [K13.cell 0 _ rfl]; simp [hl1]
      have hly : yb < w10.heap.size := K13.lt
      have K14 := K13.cast (Q := pt wb (.cells (W L0.ws) 48 (0, 0)) * (pt yb (.cells #[.slice (some ⟨wb, 0, none⟩) L0.ws.length L0.ws.length, .int .i64 (L0.cnt : Int), .int .i64 (L0.tr : Int), yv] 52 (0, 0)) * (Row 127 3 yv L0.n xs * (MemP 120 mb L4 * (SameP x ⟨.fin, yx⟩ * (SameP z ⟨.fin, yx⟩ * R)))))) (by ac_rfl)
      have hlw : wb < w10.heap.size := K14.lt
      generalize laidAt tags [] (96 + 4 * i) = u1 at g1 r1 HY
      generalize laidAt tags [] (96 + 4 * j) = u2 at g2 r2 HY
      have c2 : w10.cell? ⟨wb, 96 + 4 * i, none⟩ = some (.int .u64 u1) := by rw [K14.cells]; simp [W, g1]
      have c3 : w10.cell? ⟨wb, 96 + 4 * j, none⟩ = some (.int .u64 u2) := by rw [K14.cells]; simp [W, g2]
      have V1 : Hid (∀ w, Calls Try.prog 21 #[.int .u64 u1, .int .i64 (96 + 4 * (i : Int))] w (Ret w (.int .i64 (hMoved u1 (96 + 4 * (i : Int)))))) := fun w => ref02Moved_calls u1 _ w r1.1 r1.2
      have V2 : Hid (∀ w, Calls Try.prog 21 #[.int .u64 u2, .int .i64 (96 + 4 * (j : Int))] w (Ret w (.int .i64 (hMoved u2 (96 + 4 * (j : Int)))))) := fun w => ref02Moved_calls u2 _ w r2.1 r2.2
      generalize hMoved u1 (96 + 4 * (i : Int)) = d1 at V1 HY
      generalize hMoved u2 (96 + 4 * (j : Int)) = d2 at V2 HY
      have KK : Hid (Holds w10 _) := K12.out.drop
      clear HP HQ K12 K13 K14 g1 g2 r1 r2 hl1 MW
      have b1 : (0 : Int) ≤ 96 + 4 * (i : Int) := by omega
      have b2 : 96 + 4 * (i : Int) < 160 := by omega
      have b3 : (0 : Int) ≤ 96 + 4 * (j : Int) := by omega
      have b4 : 96 + 4 * (j : Int) < 160 := by omega
      have b5 : (96 + 4 * (i : Int)).toNat = 96 + 4 * i := by omega
      have b6 : (96 + 4 * (j : Int)).toNat = 96 + 4 * j := by omega
      have hq1 : ((96 + 4 * (i : Int)) != 0) = true := by simp; omega
      have hq2 : ((96 + 4 * (j : Int)) != 0) = true := by simp; omega
      go_wp2_with fail
      go_region_held3 (fun w' => w'.cell? ⟨yb, 0, none⟩ = some (.slice (some ⟨wb, 0, none⟩) 160 160) ∧ w'.cell? ⟨wb, 96 + 4 * i, none⟩ = some (.int .u64 u1) ∧ w'.cell? ⟨wb, 96 + 4 * j, none⟩ = some (.int .u64 u2)) (first | exact ⟨c1, c2, c3⟩ | exact ⟨d1c, d2c, d3c⟩ | exact ⟨e1c, e2c, e3c⟩)
        (first | (go_at_call 21; (with_reducible refine (V1.out _).mono ?_); rintro e w20 ⟨rfl, hb⟩; have d1c := (hb.cell (p := ⟨yb, 0, none⟩) hly).trans c1; have d2c := (hb.cell (p := ⟨wb, 96 + 4 * i, none⟩) hlw).trans c2; have d3c := (hb.cell (p := ⟨wb, 96 + 4 * j, none⟩) hlw).trans c3; have ly2 : yb < w20.heap.size := Nat.lt_of_lt_of_le hly hb.size; have lw2 : wb < w20.heap.size := Nat.lt_of_lt_of_le hlw hb.size; have KK2 := KK.out.drew.kept hb; have sk2 : Strm w10 w20 := (Strm.refl w10).drew.trans (Strm.below hb); clear hb) | (go_at_call 21; (with_reducible refine (V2.out _).mono ?_); rintro e w21 ⟨rfl, hb⟩; have e1c := (hb.cell (p := ⟨yb, 0, none⟩) ly2).trans d1c; have e2c := (hb.cell (p := ⟨wb, 96 + 4 * i, none⟩) lw2).trans d2c; have e3c := (hb.cell (p := ⟨wb, 96 + 4 * j, none⟩) lw2).trans d3c; have K13 := KK2.kept hb; have sk3 := sk2.trans (Strm.below hb); clear hb))
      all_goals
        have hh : (yx == (d1 == d2)) = true := by rw [← HY.out]; simp; rfl
        clear HY
        have t1 : True := trivial
        go_wp2_with (first | (go_at_call 24; have _t := t1; (refine (YS.out _ (MemP 120 mb L4 * (SameP z ⟨.fin, yx⟩ * R)) x (K13.cast (by ac_rfl))).mono ?_); rintro e w11 ⟨rfl, K14, s11⟩; clear t1) | (go_at_call 24; (refine (YS.out _ (MemP 120 mb L4 * (SameP x ⟨.fin, yx⟩ * R)) z (K14.cast (by ac_rfl))).mono ?_); rintro e w12 ⟨rfl, K15, s12⟩) | (go_at_call 23; (refine (T5.out _ (SameP z ⟨.fin, yx⟩ * R) mb x (K15.cast (by ac_rfl))).mono ?_); rintro e w13 ⟨rfl, K16, s13⟩))
        go_ret
        exact ⟨rfl, HF.out _ K16.drop.drop.drop ((((SS1.out.trans sk3).trans s11).trans s12).trans s13)⟩
end Go.Proofs.Ytfapicccijbanaa.Mem
