/- What is proved: the walk of flitlaw12.DirectFixes: it returns true for every input that can be read, and nothing that was there turns. Conditions: stated as hypotheses. -/
import Derived.Test.YtfapicccijbanaaFixLaw
namespace Go.Proofs.Ytfapicccijbanaa.Mem
open Go Go.RowKit Go.Proofs.Ytfapicccijbanaa.Sep Go.Proofs.Ytfapicccijbanaa.Num
set_option maxRecDepth 100000
set_option linter.unusedVariables false
set_option linter.unusedSimpArgs false
attribute [local go_sem] eqlF_nil neqF_nil eqlF_fn neqF_fn
theorem fieldV (a k n : Int) (y : Bool) (w : World) : (Instr.field 45 (.agg #[.int .i64 a, .int .i64 k, .int .i64 n, .bool y]) 1).run Try.prog w = .ok (.agg #[.int .i64 k, .int .i64 n]) w := by kernel_rfl
set_option maxHeartbeats 8000000 in
theorem directFixes_walk (w : World) (tv lv : Value) (tags : List Int) (l : List (Int × Int)) (a b : Int) (hT : IntsAt w tv tags) (hL : ValsAt w lv l) (ha : -9223372036854775808 ≤ a ∧ a ≤ 9223372036854775807) (hb : -9223372036854775808 ≤ b ∧ b ≤ 9223372036854775807) :
    Calls Try.prog 5 #[.agg #[tv, lv], .int .i64 a, .int .i64 b] w fun e w' => e = .returned (.bool true) ∧ Below w.heap.size w w' := by
  have HO : Hid (Holds w (old w.heap.size w)) := holds_old _ _
  obtain ⟨R, hR⟩ : ∃ R, old w.heap.size w = R := ⟨_, rfl⟩
  have HT : Hid (∀ w', Holds w' R → IntsAt w' tv tags) := fun w' H => ints_old hT (hR ▸ H)
  have HL : Hid (∀ w', Holds w' R → ValsAt w' lv l) := fun w' H => vals_old hL (hR ▸ H)
  have HF : Hid (∀ w', Holds w' R → Strm w w' → Below w.heap.size w w') := fun w' H s => Holds.below (hR ▸ H) (Nat.le_refl _) s
  rw [hR] at HO
  clear hT hL hR
  have C1 : Hid (∀ w R, Holds w R → Calls Try.prog 9 #[] w fun e w' => e = .returned (.bool true) ∧ Holds w' R ∧ Strm w w') := fun w R H => shown_calls w R H
  have C2 : Hid (∀ w R', Holds w (R' * R) → Calls Try.prog 10 #[tv, lv] w fun e w' => ∃ mb yb, e = .returned (.tuple #[.pointer (some ⟨mb, 0, none⟩), .pointer (some ⟨yb, 0, none⟩)]) ∧ Holds w' (Both mb yb (laidM tags l 64) R) ∧ Strm w w') := fun w R' H => laid_calls w R tv lv tags l H.drop HT.out HL.out
  obtain ⟨i, hi, ei⟩ : ∃ i : Nat, i < 16 ∧ kindOf a 16 = (i : Int) := ⟨(kindOf a 16).toNat, by have := kindOf_lo a 16 (by omega); have := kindOf_hi a 16 (by omega); omega, by have := kindOf_lo a 16 (by omega); omega⟩
  obtain ⟨f, hf, ef⟩ : ∃ f : Nat, f < 3 ∧ kindOf b 3 = (f : Int) := ⟨(kindOf b 3).toNat, by have := kindOf_lo b 3 (by omega); have := kindOf_hi b 3 (by omega); omega, by have := kindOf_lo b 3 (by omega); omega⟩
  have C3 : Hid (∀ w, Calls Try.prog 11 #[.int .i64 a, .int .i64 16] w fun e w' => e = .returned (.int .i64 (i : Int)) ∧ w = w') := fun w => by rw [← ei]; exact (kind_calls a 16 w ha.1 ha.2 (by omega) (by omega)).mono fun e w' h => ⟨h.1, h.2.symm⟩
  have C4 : Hid (∀ w, Calls Try.prog 11 #[.int .i64 b, .int .i64 3] w fun e w' => e = .returned (.int .i64 (f : Int)) ∧ w = w') := fun w => by rw [← ef]; exact (kind_calls b 3 w hb.1 hb.2 (by omega) (by omega)).mono fun e w' h => ⟨h.1, h.2.symm⟩
  clear ei ef ha hb
  have m0 := mi_start tags l
  obtain ⟨L0, hL0⟩ : ∃ M, laidM tags l 64 = M := ⟨_, rfl⟩
  rw [hL0] at m0 C2
  obtain ⟨S0, hS0⟩ : ∃ S, DS.new (96 + 4 * (i : Int)) 1 (96 + 4 * (i : Int)) f 0 0 0 0 false false true 0 = S := ⟨_, rfl⟩
  obtain ⟨Z0, hZ0⟩ : ∃ S, DS.new (96 + 4 * (i : Int)) 1 (96 + 4 * (i : Int)) f 0 0 0 0 false false false 0 = S := ⟨_, rfl⟩
  have C5 : Hid (∀ w R, Holds w R → Calls Try.prog 20 #[.int .i64 (96 + 4 * (i : Int)), .agg #[.int .i64 1, .int .i64 (96 + 4 * (i : Int)), .int .i64 (f : Int), .int .i64 0, .int .i64 0, .int .i64 0, .int .i64 0], .agg #[.bool false, .bool false, .bool true, .int .i64 0]] w fun e w' => ∃ d, e = .returned (.pointer (some ⟨d, 0, none⟩)) ∧ Holds w' (DirP d S0 * R) ∧ Strm w w') :=
    fun w R H => hS0 ▸ newDirect_calls w R (96 + 4 * (i : Int)) 1 (96 + 4 * (i : Int)) f 0 0 0 0 false false true 0 H (by omega) (by omega) (by omega) (by omega)
  have C6 : Hid (∀ w R, Holds w R → Calls Try.prog 20 #[.int .i64 (96 + 4 * (i : Int)), .agg #[.int .i64 1, .int .i64 (96 + 4 * (i : Int)), .int .i64 (f : Int), .int .i64 0, .int .i64 0, .int .i64 0, .int .i64 0], .agg #[.bool false, .bool false, .bool false, .int .i64 0]] w fun e w' => ∃ d, e = .returned (.pointer (some ⟨d, 0, none⟩)) ∧ Holds w' (DirP d Z0 * R) ∧ Strm w w') :=
    fun w R H => hZ0 ▸ newDirect_calls w R (96 + 4 * (i : Int)) 1 (96 + 4 * (i : Int)) f 0 0 0 0 false false false 0 H (by omega) (by omega) (by omega) (by omega)
  -- the steps
  have m1 := m0.rstep S0
  have st1 := fun w R mb x (hk : S0.k.rd = true) (H : Holds w (MemP 120 mb L0 * (DirP x S0 * R))) => rstep_calls w R mb x L0 S0 (m0.ok (by omega)) hk H
  have k0 : S0.k.rd = true := by rw [← hS0]; rfl
  have kz0 : Z0.k.rd = true := by rw [← hZ0]; rfl
  have d1 := read_done tags l i f hi hf true 0 1 L0 (S0.rstep L0).2 m0 m1 S0 hS0.symm
  obtain ⟨S1, hS1⟩ : ∃ S, (S0.rstep L0).1 = S := ⟨_, rfl⟩
  obtain ⟨L1, hL1⟩ : ∃ M, (S0.rstep L0).2 = M := ⟨_, rfl⟩
  rw [hL1] at m1 d1
  rw [hS1] at d1
  rw [hS1, hL1] at st1
  have m2 := m1.rstep S1
  have st2 := fun w R mb x (H : Holds w (MemP 120 mb L1 * (DirP x S1 * R))) => rstep_calls w R mb x L1 S1 (m1.ok (by omega)) d1.1 H
  obtain ⟨S2, hS2⟩ : ∃ S, (S1.rstep L1).1 = S := ⟨_, rfl⟩
  obtain ⟨L2, hL2⟩ : ∃ M, (S1.rstep L1).2 = M := ⟨_, rfl⟩
  rw [hL2] at m2
  rw [hS2] at d1
  rw [hS2, hL2] at st2
  have st3 := fun w R mb x (H : Holds w (MemP 120 mb L2 * (DirP x Z0 * R))) => rstep_calls w R mb x L2 Z0 (m2.ok (by omega)) kz0 H
  have m3 := m2.rstep Z0
  have d2 := read_done tags l i f hi hf false 2 3 L2 (Z0.rstep L2).2 m2 m3 Z0 hZ0.symm
  obtain ⟨Z1, hZ1⟩ : ∃ S, (Z0.rstep L2).1 = S := ⟨_, rfl⟩
  obtain ⟨L3, hL3⟩ : ∃ M, (Z0.rstep L2).2 = M := ⟨_, rfl⟩
  rw [hL3] at m3
  rw [hZ1] at d2
  rw [hZ1, hL3] at st3
  have zf : Z1.k.isFin = true := by rw [d2.2.1]; rfl
  have zk : Z1.k = .fin := by cases h : Z1.k <;> rw [h] at zf <;> simp [DK.isFin] at zf
  have zr : Z1.rstep (Z0.rstep L2).2 = (Z1, (Z0.rstep L2).2) := by unfold DS.rstep; rw [zk]
  have zres := d2.2.2.2
  rw [zr] at zres
  unfold StepOf at st1 st2 st3
  rw [show S2.k.isFin = true by rw [d1.2.2.1]; rfl] at st2
  rw [zf] at st3
  have g := fldAt_good l (3 * i + f)
  have lw := laidAt_fld tags l i f hf
  have sres := d1.2.2.2
  simp only [rdNum, Bool.true_and, Bool.false_and, Bool.false_eq_true, if_false] at sres zres
  generalize (fldAt l (3 * i + f)).1 = vk at *
  generalize (fldAt l (3 * i + f)).2 = vn at *
  obtain ⟨wn, hwn⟩ : ∃ n, (if farB vk vn = true then hMoved (laidAt tags l vn.toNat) vn else vn) = n := ⟨_, rfl⟩
  rw [hwn] at sres
  have C7 : Hid (∀ w R x, Holds w (DirP x S2 * R) → Calls Try.prog 15 #[.pointer (some ⟨x, 0, none⟩)] w (Ret w (.agg #[.int .i64 0, .int .i64 vk, .int .i64 wn, .bool false]))) := fun w R x H => sres ▸ result_calls w R x S2 H
  have C8 : Hid (∀ w R x, Holds w (DirP x Z1 * R) → Calls Try.prog 15 #[.pointer (some ⟨x, 0, none⟩)] w (Ret w (.agg #[.int .i64 0, .int .i64 vk, .int .i64 vn, .bool false]))) := fun w R x H => zres ▸ result_calls w R x Z1 H
  obtain ⟨u, hu⟩ : ∃ u, laidAt tags l (97 + 4 * i + f) = u := ⟨_, rfl⟩
  have ur := laidAt_rng tags l (97 + 4 * i + f)
  rw [hu] at ur lw
  have C9 : Hid (∀ w, Calls Try.prog 17 #[.int .u64 u] w (Ret w (.agg #[.int .i64 vk, .int .i64 vn]))) := fun w => by
    have := ref01Of_calls u w ur.1 ur.2
    rw [lw, g.vK, g.vN, ← lw] at this
    exact this
  have yl : L0.ws.length = 160 := by rw [m0.ws, laidTo_len]
  have yw : L0.ws[97 + 4 * i + f]? = some u := by rw [m0.ws, ← hu]; unfold laidTo; rw [List.getElem?_map, List.getElem?_range (by omega), Option.map_some, if_pos (by omega)]
  have T1 : Hid _ := fun w R mb x H => st1 w R mb x k0 H
  have T2 : Hid _ := st2
  have T3 : Hid _ := st3
  have HW : Hid ((if farB vk vn = true then hMoved (laidAt tags l vn.toNat) vn else vn) = wn) := hwn
  have HG : Hid (Good vk vn) := g
  have HM : Hid (Mi tags l 0 L0) := m0
  have YW : Hid (L0.ws.length = 160 ∧ L0.ws[97 + 4 * i + f]? = some u) := ⟨yl, yw⟩
  clear st1 st2 st3 m0 m1 m2 m3 d1 d2 zf zk zr zres sres hL0 hL1 hL2 hL3 hS0 hS1 hS2 hZ0 hZ1 k0 kz0 g lw hu ur yl yw hwn
  go_enter Try.func5, Try.ntmps5
  have t1 : True := trivial
  have t2 : True := trivial
  have t3 : True := trivial
  have t4 : True := trivial
  have t5 : True := trivial
  have hi0 : (0 : Int) ≤ i := by omega
  have hi1 : (i : Int) < 16 := by omega
  have hf0 : (0 : Int) ≤ f := by omega
  have hf1 : (f : Int) < 3 := by omega
  have HX := HO.out.alloc (.cells #[tv, lv] 66)
  go_upto_region 15 with (first | (go_at_call 9; (refine (C1.out _ _ HX).mono ?_); rintro e w1 ⟨rfl, K1, s1⟩; have q1 := K1.cells; clear HX) | (go_at_call 10; (refine (C2.out _ _ K1).mono ?_); rintro e w2 ⟨mb, yb, rfl, K2, s2⟩; have K2' := K2.alloc (.cells #[.int .i64 1, .int .i64 (96 + 4 * (i : Int)), .int .i64 (f : Int), .int .i64 0, .int .i64 0, .int .i64 0, .int .i64 0] 61)) | (go_at_call 11; have _t := t1; (with_reducible refine (C3.out _).mono ?_); rintro e w3 ⟨rfl, rfl⟩; clear t1) | (go_at_call 11; (with_reducible refine (C4.out _).mono ?_); rintro e w4 ⟨rfl, rfl⟩) | (go_at_call 20; have _t := t2; (refine (C5.out _ _ K2').mono ?_); rintro e w5 ⟨x, rfl, K5, s5⟩; have K5' := K5.drop; have q5 := K5'.cells; clear t2) | (go_at_call 20; (refine (C6.out _ _ K5).mono ?_); rintro e w6 ⟨z, rfl, K6, s6⟩; have K7 := K6.cast (Q := MemP 120 mb L0 * (DirP x S0 * (DirP z Z0 * (MemP 52 yb L0 * (pt w2.heap.size (.cells #[.int .i64 1, .int .i64 (96 + 4 * (i : Int)), .int .i64 (f : Int), .int .i64 0, .int .i64 0, .int .i64 0, .int .i64 0] 61) * R))))) (by unfold Both; ac_rfl)) | (go_at_call 13; have _t := t3; (refine (T1.out _ _ _ _ K7).mono ?_); rintro e w7 ⟨rfl, K8, s7⟩; clear t3) | (go_at_call 13; have _t := t4; (refine (T2.out _ _ _ _ K8).mono ?_); rintro e w8 ⟨rfl, K9, s8⟩; have K10 := K9.cast (Q := MemP 120 mb L2 * (DirP z Z0 * (DirP x S2 * (MemP 52 yb L0 * (pt w2.heap.size (.cells #[.int .i64 1, .int .i64 (96 + 4 * (i : Int)), .int .i64 (f : Int), .int .i64 0, .int .i64 0, .int .i64 0, .int .i64 0] 61) * R))))) (by ac_rfl); clear t4) | (go_at_call 13; (refine (T3.out _ _ _ _ K10).mono ?_); rintro e w9 ⟨rfl, K11, s9⟩; have ss : Hid (Strm w w9) := ((((((((Strm.refl w).alloc _).trans s1).trans s2).alloc _).trans s5).trans s6).trans s7).trans (s8.trans s9)))
  have K12 := K11.cast (Q := MemP 52 yb L0 * (MemP 120 mb L3 * (DirP z Z1 * (DirP x S2 * R)) * pt w2.heap.size (.cells #[.int .i64 1, .int .i64 (96 + 4 * (i : Int)), .int .i64 (f : Int), .int .i64 0, .int .i64 0, .int .i64 0, .int .i64 0] 61 (0, 0)))) (by ac_rfl)
  clear K1 K2 K2' K5 K5' K6 K7 K8 K9 K10 K11 q1 q5 s1 s2 s5 s6 s7 s8 s9 T1 T2 T3
  obtain ⟨wb, yv, xs, K13⟩ := memP_open K12
  have c1 : w9.cell? ⟨yb, 0, none⟩ = some (.slice (some ⟨wb, 0, none⟩) 160 160) := by rw [K13.cell 0 _ rfl]; simp [YW.out.1]
  have ly := K13.lt
  have lw := K13.drop.lt
  have c2 : w9.cell? ⟨wb, 97 + 4 * i + f, none⟩ = some (.int .u64 u) := by rw [K13.drop.cells]; simp [W, YW.out.2]
  have K13' := (K13.cast (Q := Row 127 3 yv L0.n xs * (MemP 120 mb L3 * (pt w2.heap.size (.cells #[.int .i64 1, .int .i64 (96 + 4 * (i : Int)), .int .i64 (f : Int), .int .i64 0, .int .i64 0, .int .i64 0, .int .i64 0] 61 (0, 0)) * (pt yb (.cells #[.slice (some ⟨wb, 0, none⟩) L0.ws.length L0.ws.length, .int .i64 (L0.cnt : Int), .int .i64 (L0.tr : Int), yv] 52 (0, 0)) * (pt wb (.cells (W L0.ws) 48 (0, 0)) * (DirP x S2 * (DirP z Z1 * R))))))) (by ac_rfl)).drop.drop.drop
  have fv := fieldV
  have b1 : (0 : Int) ≤ 97 + 4 * (i : Int) + (f : Int) := by omega
  have b2 : 97 + 4 * (i : Int) + (f : Int) < 160 := by omega
  have b3 : (97 + 4 * (i : Int) + (f : Int)).toNat = 97 + 4 * i + f := by omega
  go_upto_region 17 with (go_at_call 17; (with_reducible refine (C9.out _).mono ?_); rintro e w10 ⟨rfl, hb⟩; have K14 := (K13'.kept hb).alloc (.cells #[.int .i64 vk, .int .i64 vn] 24); have q14 := K14.cells; have K15 := K14.alloc (.cells #[.int .i64 vk, .int .i64 vn] 24); simp only [World.size_alloc] at K15; have q15 := K15.cells; have r15 := K15.drop.cells; have y15 := K15.drop.drop.cells; have sb := Strm.below hb; clear hb)
  by_cases hv1 : vk = 1
  · by_cases hv2 : vn = 0
    · subst hv1 hv2
      have hwn : wn = 0 := by rw [← HW.out]; rfl
      subst hwn
      have ZR : Hid (Holds _ _) := K15
      clear K12 K13 K13' K14 K15
      go_wp2_with fail
      go_region_held3 (fun w' => w'.cell? ⟨w10.heap.size, 0, none⟩ = some (.int .i64 1) ∧ w'.cell? ⟨w10.heap.size, 1, none⟩ = some (.int .i64 0) ∧ w'.cell? ⟨w10.heap.size + 1, 0, none⟩ = some (.int .i64 1) ∧ w'.cell? ⟨w10.heap.size + 1, 1, none⟩ = some (.int .i64 0)) (first | exact ⟨r15 0, r15 1, q15 0, q15 1⟩ | exact ⟨r16 0, r16 1, q16 0, q16 1⟩ | exact ⟨r17 0, r17 1, q17 0, q17 1⟩)
        (first | (go_at_call 15; have _t := t5; (with_reducible refine (C7.out _ _ x ZR.out.drew.drop.drop.drop.drop).mono ?_); rintro e w16 ⟨rfl, hb⟩; have K16 := ZR.out.drew.kept hb; have q16 := K16.cells; have r16 := K16.drop.cells; have s16 := Strm.below hb; clear t5 hb) | (go_at_call 15; (with_reducible refine (C8.out _ _ z K16.drop.drop.drop.drop.drop).mono ?_); rintro e w17 ⟨rfl, hb⟩; have K17 := K16.kept hb; have q17 := K17.cells; have r17 := K17.drop.cells; have s17 := Strm.below hb; clear hb))
      go_wp2_with fail
      go_ret
      exact ⟨rfl, HF.out _ K17.drop.drop.drop.drop.drop.drop (((((ss.out.trans sb).alloc _).alloc _).drew.trans s16).trans s17)⟩
    · subst hv1
      have hv2' : (vn == 0) = false := by simpa using hv2
      have hfar : farB 1 vn = true := by simp [farB, hv2]
      obtain ⟨j, hj, hvj⟩ := HG.out.far hfar
      have hvn : vn.toNat = 96 + 4 * j := by omega
      have hv0 : 0 ≤ vn := by omega
      have hv3 : vn < 160 := by omega
      have hwn := HW.out
      rw [if_pos hfar, hvn] at hwn
      have ur := laidAt_rng tags l (96 + 4 * j)
      have yw2 : L0.ws[96 + 4 * j]? = some (laidAt tags l (96 + 4 * j)) := by rw [HM.out.ws]; unfold laidTo; rw [List.getElem?_map, List.getElem?_range (by omega), Option.map_some, if_pos (by omega)]
      have c3 := K15.drop.drop.drop.cells (96 + 4 * j)
      have B3 : Hid ((W L0.ws)[96 + 4 * j]? = some (.int .u64 (laidAt tags l (96 + 4 * j)))) := by rw [Hid]; simp only [W, List.getElem?_toArray, List.getElem?_map, yw2, Option.map_some]
      rw [B3.out] at c3
      have c4 := y15 0
      simp only [YW.out.1] at c4
      generalize laidAt tags l (96 + 4 * j) = u2 at c3 ur hwn B3
      have V1 : Hid (∀ w, Calls Try.prog 21 #[.int .u64 u2, .int .i64 vn] w (Ret w (.int .i64 wn))) := fun w => by rw [← hwn]; exact ref02Moved_calls u2 vn w ur.1 ur.2
      have ZQ : Hid (Holds _ _) := K15
      clear K12 K13 K13' K14 K15 ur yw2 hwn hvj hj
      go_wp2_with fail
      go_cut [] (fun wx => Holds wx (pt (w10.heap.size + 1) (.cells #[.int .i64 1, .int .i64 wn] 24 (0, 0)) * (pt w10.heap.size (.cells #[.int .i64 1, .int .i64 vn] 24 (0, 0)) * (pt yb (.cells #[.slice (some ⟨wb, 0, none⟩) L0.ws.length L0.ws.length, .int .i64 (L0.cnt : Int), .int .i64 (L0.tr : Int), yv] 52 (0, 0)) * (pt wb (.cells (W L0.ws) 48 (0, 0)) * (DirP x S2 * (DirP z Z1 * R)))))) ∧ Strm w wx)
      case first =>
        go_region_held3 (fun w' => w'.cell? ⟨yb, 0, none⟩ = some (.slice (some ⟨wb, 0, none⟩) 160 160) ∧ w'.cell? ⟨w10.heap.size, 1, none⟩ = some (.int .i64 vn) ∧ w'.cell? ⟨wb, 96 + 4 * j, none⟩ = some (.int .u64 u2)) (first | exact ⟨c4, r15 1, c3⟩ | exact ⟨y16, r16 1, b16⟩ | exact ⟨y17, r17 1, b17⟩)
          (first | (go_at_call 21; (with_reducible refine (V1.out _).mono ?_); rintro e w16 ⟨rfl, hb⟩; have K16 := ZQ.out.drew.kept hb; have q16 := K16.cells; have f16 := K16.frees; have r16 := K16.drop.cells; have y16 := K16.drop.drop.cells 0; simp only [YW.out.1] at y16; have b16 := (K16.drop.drop.drop.cells (96 + 4 * j)).trans B3.out; have s16 := Strm.below hb; have K17 := K16.set 1 (.int .i64 wn); have q17 := K17.cells; have r17 := K17.drop.cells; have y17 := K17.drop.drop.cells 0; simp only [YW.out.1] at y17; have b17 := (K17.drop.drop.drop.cells (96 + 4 * j)).trans B3.out; clear hb))
        go_wp2_with fail
        go_meet
        exact ⟨K17.cast (by simp only [List.setIfInBounds_toArray, List.set_cons_zero, List.set_cons_succ]), ((((ss.out.trans sb).alloc _).alloc _).drew.trans s16).set _ _⟩
      case rest =>
      obtain ⟨K15, ss⟩ := hcut
      have q15 := K15.cells
      have r15 := K15.drop.cells
      have ZR : Hid (Holds _ _) := K15
      clear K15
      go_wp2_with fail
      go_region_held3 (fun w' => w'.cell? ⟨w10.heap.size, 0, none⟩ = some (.int .i64 1) ∧ w'.cell? ⟨w10.heap.size, 1, none⟩ = some (.int .i64 vn) ∧ w'.cell? ⟨w10.heap.size + 1, 0, none⟩ = some (.int .i64 1) ∧ w'.cell? ⟨w10.heap.size + 1, 1, none⟩ = some (.int .i64 wn)) (first | exact ⟨r15 0, r15 1, q15 0, q15 1⟩ | exact ⟨r16 0, r16 1, q16 0, q16 1⟩ | exact ⟨r17 0, r17 1, q17 0, q17 1⟩)
        (first | (go_at_call 15; have _t := t5; (with_reducible refine (C7.out _ _ x ZR.out.drew.drop.drop.drop.drop).mono ?_); rintro e w16 ⟨rfl, hb⟩; have K16 := ZR.out.drew.kept hb; have q16 := K16.cells; have r16 := K16.drop.cells; have s16 := Strm.below hb; clear t5 hb) | (go_at_call 15; (with_reducible refine (C8.out _ _ z K16.drop.drop.drop.drop.drop).mono ?_); rintro e w17 ⟨rfl, hb⟩; have K17 := K16.kept hb; have q17 := K17.cells; have r17 := K17.drop.cells; have s17 := Strm.below hb; clear hb))
      go_wp2_with fail
      go_ret
      exact ⟨rfl, HF.out _ K17.drop.drop.drop.drop.drop.drop ((ss.drew.trans s16).trans s17)⟩
  · have hv1' : (vk == 1) = false := by simpa using hv1
    have hwn : wn = vn := by rw [← HW.out, if_neg (by simp [farB, hv1'])]
    subst hwn
    have ZR : Hid (Holds _ _) := K15
    clear K12 K13 K13' K14 K15
    go_wp2_with fail
    go_region_held3 (fun w' => w'.cell? ⟨w10.heap.size, 0, none⟩ = some (.int .i64 vk) ∧ w'.cell? ⟨w10.heap.size, 1, none⟩ = some (.int .i64 wn) ∧ w'.cell? ⟨w10.heap.size + 1, 0, none⟩ = some (.int .i64 vk) ∧ w'.cell? ⟨w10.heap.size + 1, 1, none⟩ = some (.int .i64 wn)) (first | exact ⟨r15 0, r15 1, q15 0, q15 1⟩ | exact ⟨r16 0, r16 1, q16 0, q16 1⟩ | exact ⟨r17 0, r17 1, q17 0, q17 1⟩)
      (first | (go_at_call 15; have _t := t5; (with_reducible refine (C7.out _ _ x ZR.out.drew.drop.drop.drop.drop).mono ?_); rintro e w16 ⟨rfl, hb⟩; have K16 := ZR.out.drew.kept hb; have q16 := K16.cells; have r16 := K16.drop.cells; have s16 := Strm.below hb; clear t5 hb) | (go_at_call 15; (with_reducible refine (C8.out _ _ z K16.drop.drop.drop.drop.drop).mono ?_); rintro e w17 ⟨rfl, hb⟩; have K17 := K16.kept hb; have q17 := K17.cells; have r17 := K17.drop.cells; have s17 := Strm.below hb; clear hb))
    go_wp2_with fail
    go_ret
    exact ⟨rfl, HF.out _ K17.drop.drop.drop.drop.drop.drop (((((ss.out.trans sb).alloc _).alloc _).drew.trans s16).trans s17)⟩
end Go.Proofs.Ytfapicccijbanaa.Mem
