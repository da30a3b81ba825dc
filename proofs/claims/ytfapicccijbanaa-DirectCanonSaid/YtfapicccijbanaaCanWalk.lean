/- What is proved: the walk of flitlaw12.DirectCanon: it returns true for every input that can be read, and nothing that was there turns. Conditions: stated as hypotheses. -/
import Derived.Test.YtfapicccijbanaaCanDone
import Derived.Test.YtfapicccijbanaaFixWalk
namespace Go.Proofs.Ytfapicccijbanaa.Mem
open Go Go.RowKit Go.Proofs.Ytfapicccijbanaa.Sep Go.Proofs.Ytfapicccijbanaa.Num
set_option maxRecDepth 100000
set_option linter.unusedVariables false
set_option linter.unusedSimpArgs false
attribute [local go_sem] eqlF_nil neqF_nil eqlF_fn neqF_fn
theorem fieldYes (a k n : Int) (y : Bool) (w : World) : (Instr.field 45 (.agg #[.int .i64 a, .int .i64 k, .int .i64 n, .bool y]) 2).run Try.prog w = .ok (.bool y) w := by kernel_rfl
set_option maxHeartbeats 8000000 in
theorem directCanon_walk (w : World) (tv lv : Value) (tags : List Int) (l : List (Int × Int)) (e0 e1 n0 n1 : Int) (hT : IntsAt w tv tags) (hL : ValsAt w lv l) (he0 : -9223372036854775808 ≤ e0 ∧ e0 ≤ 9223372036854775807) (he1 : -9223372036854775808 ≤ e1 ∧ e1 ≤ 9223372036854775807) (hn0 : -9223372036854775808 ≤ n0 ∧ n0 ≤ 9223372036854775807) (hn1 : -9223372036854775808 ≤ n1 ∧ n1 ≤ 9223372036854775807) :
    Calls Try.prog 6 #[.agg #[tv, lv], .agg #[.int .i64 e0, .int .i64 e1], .agg #[.int .i64 n0, .int .i64 n1]] w fun e w' => e = .returned (.bool true) ∧ Below w.heap.size w w' := by
  have HO : Hid (Holds w (old w.heap.size w)) := holds_old _ _
  obtain ⟨R, hR⟩ : ∃ R, old w.heap.size w = R := ⟨_, rfl⟩
  have HT : Hid (∀ w', Holds w' R → IntsAt w' tv tags) := fun w' H => ints_old hT (hR ▸ H)
  have HL : Hid (∀ w', Holds w' R → ValsAt w' lv l) := fun w' H => vals_old hL (hR ▸ H)
  have HF : Hid (∀ w', Holds w' R → Strm w w' → Below w.heap.size w w') := fun w' H s => Holds.below (hR ▸ H) (Nat.le_refl _) s
  rw [hR] at HO
  clear hT hL hR
  have C1 : Hid (∀ w R, Holds w R → Calls Try.prog 9 #[] w fun e w' => e = .returned (.bool true) ∧ Holds w' R ∧ Strm w w') := fun w R H => shown_calls w R H
  have m0 := mi_start tags l
  obtain ⟨L0, hL0⟩ : ∃ M, laidM tags l 64 = M := ⟨_, rfl⟩
  have C2 : Hid (∀ w P P', Holds w (P * (P' * R)) → Calls Try.prog 10 #[tv, lv] w fun e w' => ∃ mb yb, e = .returned (.tuple #[.pointer (some ⟨mb, 0, none⟩), .pointer (some ⟨yb, 0, none⟩)]) ∧ Holds w' (Both mb yb L0 (P * (P' * R))) ∧ Strm w w') := fun w P P' H => hL0 ▸ laid_calls w _ tv lv tags l H (fun w' H => HT.out w' H.drop.drop) (fun w' H => HL.out w' H.drop.drop)
  rw [hL0] at m0
  clear hL0
  have ge := opVal_good e0 e1
  have gn := opVal_good n0 n1
  have C3 : Hid (∀ w, Calls Try.prog 19 #[.agg #[.int .i64 e0, .int .i64 e1]] w (Ret w (.agg #[.int .i64 (opVal e0 e1).1, .int .i64 (opVal e0 e1).2]))) := fun w => val_calls e0 e1 w he0.1 he0.2 he1.1 he1.2
  have C4 : Hid (∀ w, Calls Try.prog 19 #[.agg #[.int .i64 n0, .int .i64 n1]] w (Ret w (.agg #[.int .i64 (opVal n0 n1).1, .int .i64 (opVal n0 n1).2]))) := fun w => val_calls n0 n1 w hn0.1 hn0.2 hn1.1 hn1.2
  generalize (opVal e0 e1).1 = ek at C3 ge
  generalize (opVal e0 e1).2 = en at C3 ge
  generalize (opVal n0 n1).1 = nk at C4 gn
  generalize (opVal n0 n1).2 = nn at C4 gn
  obtain ⟨S0, hS0⟩ : ∃ S, swS true ek en nk nn 0 false false .look = S := ⟨_, rfl⟩
  have C5 : Hid (∀ w R, Holds w R → Calls Try.prog 20 #[.int .i64 96, .agg #[.int .i64 3, .int .i64 96, .int .i64 0, .int .i64 ek, .int .i64 en, .int .i64 nk, .int .i64 nn], .agg #[.bool false, .bool true, .bool false, .int .i64 0]] w fun e w' => ∃ d, e = .returned (.pointer (some ⟨d, 0, none⟩)) ∧ Holds w' (DirP d S0 * R) ∧ Strm w w') :=
    fun w R H => hS0 ▸ sw_new true ek en nk nn ▸ newDirect_calls w R 96 3 96 0 ek en nk nn false true false 0 H (by omega) (by omega) (by omega) (by omega)
  obtain ⟨a, b, hab⟩ : ∃ a b, fldAt l 0 = (a, b) := ⟨(fldAt l 0).1, (fldAt l 0).2, rfl⟩
  have ga : Good a b := by have := fldAt_good l 0; rw [hab] at this; exact this
  have q0 := qi_new true ek en nk nn 0 L0 m0.mo
  have fin := canon_done tags l a b ek en nk nn ga ge hab L0 m0
  rw [hS0] at q0 fin
  obtain ⟨Q, hQ⟩ : ∃ Q, qit S0 L0 = Q := ⟨_, rfl⟩
  have qk := fun n => q0.it n
  have qf := fun n (h : (qit S0 L0 n).1.k.isFin = true) j => qit_fin (isFin_iff.1 h) j
  have st : ∀ k, k < 6 → ∀ w R mb x, Holds w (MemP 120 mb (Q k).2 * (DirP x (Q k).1 * R)) → Calls Try.prog 13 #[.pointer (some ⟨x, 0, none⟩), .pointer (some ⟨mb, 0, none⟩)] w fun e w' => e = .returned (.bool (Q (k + 1)).1.k.isFin) ∧ Holds w' (MemP 120 mb (Q (k + 1)).2 * (DirP x (Q (k + 1)).1 * R)) ∧ Strm w w' := fun k hk w R mb x H => by
    have i := qk k
    rw [hQ] at i
    have := qstep_calls w R mb x (Q k).2 (Q k).1 (i.mo.ok (by omega)) i.qu i.w0 i.w1 H
    rw [show (Q k).1.qstep (Q k).2 = Q (k + 1) by rw [← hQ]; rfl] at this
    exact this
  rw [hQ] at qf fin qk
  have e00 : Q 0 = (S0, L0) := by rw [← hQ]; rfl
  have k00 : S0.k.isFin = false := by rw [← hS0]; rfl
  have i6 := qk 6
  obtain ⟨F, hF⟩ : ∃ F : Nat → Bool, (fun k => (Q k).1.k.isFin) = F := ⟨_, rfl⟩
  have hFk : ∀ k, (Q k).1.k.isFin = F k := fun k => by rw [← hF]
  have f0 : F 0 = false := by rw [← hFk, e00]; exact k00
  have f6 : F 6 = true := by rw [← hFk]; exact isFin_iff.2 fin.1
  have qf6 : ∀ k, k ≤ 6 → F k = true → Q k = Q 6 := fun k hk h => by
    have := qf k (by rw [hFk]; exact h) (6 - k)
    rw [show k + (6 - k) = 6 by omega] at this
    exact this.symm
  obtain ⟨sm, hsm⟩ : ∃ s, canSame tags l a b ek en = s := ⟨_, rfl⟩
  rw [hsm] at fin
  have ST : Hid (∀ k, k < 6 → ∀ w R mb x, Holds w (MemP 120 mb (Q k).2 * (DirP x (Q k).1 * R)) → Calls Try.prog 13 #[.pointer (some ⟨x, 0, none⟩), .pointer (some ⟨mb, 0, none⟩)] w fun e w' => e = .returned (.bool (F (k + 1))) ∧ Holds w' (MemP 120 mb (Q (k + 1)).2 * (DirP x (Q (k + 1)).1 * R)) ∧ Strm w w') := fun k hk w R mb x H => by
    have := st k hk w R mb x H
    rw [hFk] at this
    exact this
  obtain ⟨Q6, hQ6⟩ : ∃ q, Q 6 = q := ⟨_, rfl⟩
  rw [hQ6] at fin i6
  have C7 : Hid (∀ w R x, Holds w (DirP x Q6.1 * R) → Calls Try.prog 15 #[.pointer (some ⟨x, 0, none⟩)] w (Ret w (.agg #[.int .i64 0, .int .i64 0, .int .i64 0, .bool sm]))) := fun w R x H => fin.2.1 ▸ result_calls w R x Q6.1 H
  have C8 : Hid (∀ w R mb, Holds w (MemP 120 mb Q6.2 * R) → Calls Try.prog 18 #[.pointer (some ⟨mb, 0, none⟩), .int .i64 97] w fun e w' => e = .returned (.int .u64 (if sm then sW nk nn else sW a b)) ∧ Holds w' (MemP 120 mb (Q6.2.loaded 97) * R) ∧ Strm w w') := fun w R mb H => fin.2.2 ▸ load_calls w R mb Q6.2 97 H (i6.mo.ok (by omega))
  have CN : Hid (∀ w, Calls Try.prog 17 #[.int .u64 (sW nk nn)] w (Ret w (.agg #[.int .i64 nk, .int .i64 nn]))) := fun w => by
    have := ref01Of_calls (sW nk nn) w (sW_lo _ _) (sW_hi _ _)
    rw [gn.vK, gn.vN] at this
    exact this
  have CA : Hid (∀ w, Calls Try.prog 17 #[.int .u64 (sW a b)] w (Ret w (.agg #[.int .i64 a, .int .i64 b]))) := fun w => by
    have := ref01Of_calls (sW a b) w (sW_lo _ _) (sW_hi _ _)
    rw [ga.vK, ga.vN] at this
    exact this
  have u97 : laidAt tags l 97 = sW a b := by have := laidAt_fld tags l 0 0 (by omega); simpa [hab] using this
  have yw : L0.ws[97]? = some (sW a b) := by rw [m0.ws, ← u97]; unfold laidTo; rw [List.getElem?_map, List.getElem?_range (by omega), Option.map_some, if_pos (by omega)]
  have yl : L0.ws.length = 160 := by rw [m0.ws, laidTo_len]
  have YW : Hid (L0.ws.length = 160 ∧ L0.ws[97]? = some (sW a b)) := ⟨yl, yw⟩
  have HM : Hid (Mi tags l 0 L0) := m0
  have HG : Hid (Good a b ∧ Good ek en) := ⟨ga, ge⟩
  have HSM : Hid (canSame tags l a b ek en = sm) := hsm
  have HQF : Hid ((∀ k, k ≤ 6 → F k = true → Q k = Q6) ∧ F 0 = false ∧ F 6 = true ∧ Q 6 = Q6 ∧ Q 0 = (S0, L0)) := ⟨by rw [← hQ6]; exact qf6, f0, f6, hQ6, e00⟩
  clear ge gn ga fin q0 qk qf st e00 k00 i6 hFk f0 f6 qf6 hsm yl yw u97 m0 hab hF hQ hS0 hQ6 he0 he1 hn0 hn1
  go_enter Try.func6, Try.ntmps6
  have HX := ((HO.out.alloc (.cells #[tv, lv] 66)).alloc (.cells #[.int .i64 e0, .int .i64 e1] 24)).alloc (.cells #[.int .i64 n0, .int .i64 n1] 24)
  simp only [World.size_alloc] at HX
  have t1 : True := trivial
  go_upto_region 12 with (first | (go_at_call 9; (refine (C1.out _ _ HX).mono ?_); rintro e w1 ⟨rfl, K1, s1⟩; have g1 := K1.drop.drop.cells; have K1' := (K1.cast (Q := pt w.heap.size (.cells #[tv, lv] 66 (0, 0)) * (pt (w.heap.size + 1) (.cells #[.int .i64 e0, .int .i64 e1] 24 (0, 0)) * (pt (w.heap.size + 1 + 1) (.cells #[.int .i64 n0, .int .i64 n1] 24 (0, 0)) * R))) (by ac_rfl)).drop; clear HX) | (go_at_call 10; (refine (C2.out _ _ _ K1').mono ?_); rintro e w2 ⟨mb, yb, rfl, K2, s2⟩; have K2' := K2.cast (Q := pt (w.heap.size + 1) (.cells #[.int .i64 e0, .int .i64 e1] 24 (0, 0)) * (pt (w.heap.size + 1 + 1) (.cells #[.int .i64 n0, .int .i64 n1] 24 (0, 0)) * (MemP 120 mb L0 * (MemP 52 yb L0 * R)))) (by unfold Both; ac_rfl); have g2 := K2'.cells; clear K1 K1' K2) | (go_at_call 19; have _t := t1; (with_reducible refine (C3.out _).mono ?_); rintro e w3 ⟨rfl, hb⟩; have K3 := (K2'.kept hb).alloc (.cells #[.int .i64 ek, .int .i64 en] 24); have g3 := K3.drop.drop.cells; have h3 := K3.cells; have s3 := Strm.below hb; clear t1 hb) | (go_at_call 19; (with_reducible refine (C4.out _).mono ?_); rintro e w4 ⟨rfl, hb⟩; have K4 := (K3.kept hb).alloc (.cells #[.int .i64 nk, .int .i64 nn] 24); have h4 := K4.drop.cells; have g4 := K4.cells; have s4 := Strm.below hb; clear hb) | (go_at_call 20; (refine (C5.out _ _ K4).mono ?_); rintro e w5 ⟨x, rfl, K5, s5⟩; have K6 := K5.cast (Q := MemP 120 mb L0 * (DirP x S0 * (pt w3.heap.size (.cells #[.int .i64 ek, .int .i64 en] 24 (0, 0)) * (pt w4.heap.size (.cells #[.int .i64 nk, .int .i64 nn] 24 (0, 0)) * (MemP 52 yb L0 * (pt (w.heap.size + 1) (.cells #[.int .i64 e0, .int .i64 e1] 24 (0, 0)) * (pt (w.heap.size + 1 + 1) (.cells #[.int .i64 n0, .int .i64 n1] 24 (0, 0)) * R))))))) (by ac_rfl); have ss : Hid (Strm w w5) := ((((((((Strm.refl w).alloc _).alloc _).alloc _).trans s1).trans s2).trans s3).alloc _).trans (((s4.alloc _)).trans s5)))
  have K7 : Hid (Holds w5 (MemP 120 mb L0 * (DirP x S0 * (pt w3.heap.size (.cells #[.int .i64 ek, .int .i64 en] 24 (0, 0)) * (pt w4.heap.size (.cells #[.int .i64 nk, .int .i64 nn] 24 (0, 0)) * (MemP 52 yb L0 * (pt (w.heap.size + 1) (.cells #[.int .i64 e0, .int .i64 e1] 24 (0, 0)) * (pt (w.heap.size + 1 + 1) (.cells #[.int .i64 n0, .int .i64 n1] 24 (0, 0)) * R)))))))) := K6
  clear K2' K3 K4 K5 K6 g1 g2 g3 h3 h4 g4 s1 s2 s3 s4 s5
  go_loopw [13, 14] (fun dn i wr => ∃ k : Nat, k ≤ 6 ∧ i = .int .i64 (k : Int) ∧ dn = .bool (F k) ∧ Holds wr (MemP 120 mb (Q k).2 * (DirP x (Q k).1 * (pt w3.heap.size (.cells #[.int .i64 ek, .int .i64 en] 24 (0, 0)) * (pt w4.heap.size (.cells #[.int .i64 nk, .int .i64 nn] 24 (0, 0)) * (MemP 52 yb L0 * (pt (w.heap.size + 1) (.cells #[.int .i64 e0, .int .i64 e1] 24 (0, 0)) * (pt (w.heap.size + 1 + 1) (.cells #[.int .i64 n0, .int .i64 n1] 24 (0, 0)) * R))))))) ∧ Strm w wr) (fun _ i _ => 6 - (intOf i).toNat)
  case atStart => exact ⟨0, by omega, rfl, by rw [HQF.out.2.1], by rw [HQF.out.2.2.2.2]; exact K7.out, ss.out⟩
  case round =>
    obtain ⟨k, hk, rfl, rfl, HB, sr⟩ := hrel
    clear K7 ss
    go_upto_region 12 with fail
    go_cut [49] from 44 to 54 (fun s wx => s = .bool (decide (k < 6) && !(F k)) ∧ wx = wr)
    case first =>
      by_cases hlt : k < 6
      · have hlt' : (k : Int) < 6 := by omega
        go_wp2_with fail
        go_meet
        exact ⟨by simp [hlt], rfl⟩
      · have hlt' : ¬ (k : Int) < 6 := by omega
        go_wp2_with fail
        go_meet
        exact ⟨by simp [hlt], rfl⟩
    case rest =>
      obtain ⟨rfl, rfl⟩ := hcut
      cases hgo : (decide (k < 6) && !(F k)) with
      | true =>
        have hlt : k < 6 := by simp at hgo; exact hgo.1
        have ST1 : Hid (∀ w R mb x, Holds w (MemP 120 mb (Q k).2 * (DirP x (Q k).1 * R)) → Calls Try.prog 13 #[.pointer (some ⟨x, 0, none⟩), .pointer (some ⟨mb, 0, none⟩)] w fun e w' => e = .returned (.bool (F (k + 1))) ∧ Holds w' (MemP 120 mb (Q (k + 1)).2 * (DirP x (Q (k + 1)).1 * R)) ∧ Strm w w') := ST.out k hlt
        go_wp2_with (go_at_call 13; (refine (ST1.out _ _ _ _ HB).mono ?_); rintro e w6 ⟨rfl, H6, s6⟩)
        go_roundw
        case rel => exact ⟨k + 1, by omega, by go_num, rfl, H6, sr.trans s6⟩
        case measure => simp [intOf]; omega
      | false =>
        have hq : Q k = Q6 ∧ F k = true := by
          by_cases hlt : k < 6
          · have : F k = true := by simp [hlt] at hgo; exact hgo
            exact ⟨HQF.out.1 k hk this, this⟩
          · have : k = 6 := by omega
            subst this
            exact ⟨HQF.out.2.2.2.1, HQF.out.2.2.1⟩
        rw [hq.1] at HB
        rw [hq.2]
        have HB2 : Hid (Holds _ (MemP 120 mb Q6.2 * (DirP x Q6.1 * (pt w3.heap.size (.cells #[.int .i64 ek, .int .i64 en] 24 (0, 0)) * (pt w4.heap.size (.cells #[.int .i64 nk, .int .i64 nn] 24 (0, 0)) * (MemP 52 yb L0 * (pt (w.heap.size + 1) (.cells #[.int .i64 e0, .int .i64 e1] 24 (0, 0)) * (pt (w.heap.size + 1 + 1) (.cells #[.int .i64 n0, .int .i64 n1] 24 (0, 0)) * R)))))))) := HB
        clear hq hgo HB ST HQF
        have K8 := (HB2.out.cast (Q := pt (w.heap.size + 1) (.cells #[.int .i64 e0, .int .i64 e1] 24 (0, 0)) * (pt (w.heap.size + 1 + 1) (.cells #[.int .i64 n0, .int .i64 n1] 24 (0, 0)) * (MemP 52 yb L0 * (MemP 120 mb Q6.2 * (DirP x Q6.1 * (pt w3.heap.size (.cells #[.int .i64 ek, .int .i64 en] 24 (0, 0)) * (pt w4.heap.size (.cells #[.int .i64 nk, .int .i64 nn] 24 (0, 0)) * R))))))) (by ac_rfl)).drop.drop
        obtain ⟨wb, yv, xs, K9⟩ := memP_open K8
        have K10 := (K9.cast (Q := Row 127 3 yv L0.n xs * (pt w3.heap.size (.cells #[.int .i64 ek, .int .i64 en] 24 (0, 0)) * (pt w4.heap.size (.cells #[.int .i64 nk, .int .i64 nn] 24 (0, 0)) * (pt yb (.cells #[.slice (some ⟨wb, 0, none⟩) L0.ws.length L0.ws.length, .int .i64 (L0.cnt : Int), .int .i64 (L0.tr : Int), yv] 52 (0, 0)) * (pt wb (.cells (W L0.ws) 48 (0, 0)) * (MemP 120 mb Q6.2 * (DirP x Q6.1 * R))))))) (by ac_rfl)).drop
        have c1 : wc.cell? ⟨yb, 0, none⟩ = some (.slice (some ⟨wb, 0, none⟩) 160 160) := by rw [K10.drop.drop.cell 0 _ rfl]; simp [YW.out.1]
        have c2 : wc.cell? ⟨wb, 97, none⟩ = some (.int .u64 (sW a b)) := by rw [K10.drop.drop.drop.cells]; simp [W, YW.out.2]
        clear HB2 K8 K9
        go_upto_region 16 with (go_at_call 17; (with_reducible refine (CA.out _).mono ?_); rintro e w7 ⟨rfl, hb⟩; have K11 := (K10.kept hb).alloc (.cells #[.int .i64 a, .int .i64 b] 24); have q11 := K11.cells; have r11 := K11.drop.cells; have s7 := Strm.below hb; clear hb)
        have ss7 : Hid (Strm w _) := (sr.trans s7).alloc (.cells #[.int .i64 a, .int .i64 b] 24)
        have KX : Hid (Holds _ (pt w7.heap.size (.cells #[.int .i64 a, .int .i64 b] 24 (0, 0)) * (pt w3.heap.size (.cells #[.int .i64 ek, .int .i64 en] 24 (0, 0)) * (pt w4.heap.size (.cells #[.int .i64 nk, .int .i64 nn] 24 (0, 0)) * (pt yb (.cells #[.slice (some ⟨wb, 0, none⟩) L0.ws.length L0.ws.length, .int .i64 (L0.cnt : Int), .int .i64 (L0.tr : Int), yv] 52 (0, 0)) * (pt wb (.cells (W L0.ws) 48 (0, 0)) * (MemP 120 mb Q6.2 * (DirP x Q6.1 * R)))))))) := K11
        clear K10 K11 sr s7 c1 c2
        go_cut [16] (fun s wx => s = .bool (decide (a = ek ∧ b = en)) ∧ wx = w7.alloc (.cells #[.int .i64 a, .int .i64 b] 24))
        case first =>
          have p0 := q11 0
          have p1 := q11 1
          have p2 := r11 0
          have p3 := r11 1
          by_cases h1 : a = ek
          · have h1' : (a == ek) = true := by simpa using h1
            by_cases h2 : b = en
            · have h2' : (b == en) = true := by simpa using h2
              have hd : Hid (decide (a = ek ∧ b = en) = true) := by rw [Hid]; simp [h1, h2]
              clear h1 h2
              go_wp2_with fail
              all_goals (go_meet; exact ⟨by rw [hd.out], rfl⟩)
            · have h2' : (b == en) = false := by simpa using h2
              have hd : Hid (decide (a = ek ∧ b = en) = false) := by rw [Hid]; simp [h2]
              clear h1 h2
              go_wp2_with fail
              all_goals (go_meet; exact ⟨by rw [hd.out], rfl⟩)
          · have h1' : (a == ek) = false := by simpa using h1
            have hd : Hid (decide (a = ek ∧ b = en) = false) := by rw [Hid]; simp [h1]
            clear h1
            go_wp2_with fail
            all_goals (go_meet; exact ⟨by rw [hd.out], rfl⟩)
        case rest =>
        obtain ⟨rfl, rfl⟩ := hcut
        go_upto_region 17 with fail
        go_cut [82] (fun s wx => s = .bool (farB a b && farB ek en) ∧ wx = w7.alloc (.cells #[.int .i64 a, .int .i64 b] 24))
        case first =>
          have p0 := q11 0
          have p1 := q11 1
          have p2 := r11 0
          have p3 := r11 1
          by_cases h1 : a = 1
          · have h1' : (a == 1) = true := by simpa using h1
            by_cases h2 : ek = 1
            · have h2' : (ek == 1) = true := by simpa using h2
              by_cases h3 : b = 0
              · have h3' : (b != 0) = false := by simpa using h3
                have hd : Hid ((farB a b && farB ek en) = false) := by rw [Hid]; simp [farB, h3]
                clear h1 h2 h3
                go_wp2_with fail
                all_goals (go_meet; exact ⟨by rw [hd.out], rfl⟩)
              · have h3' : (b != 0) = true := by simpa using h3
                by_cases h4 : en = 0
                · have h4' : (en != 0) = false := by simpa using h4
                  have hd : Hid ((farB a b && farB ek en) = false) := by rw [Hid]; simp [farB, h4]
                  clear h1 h2 h3 h4
                  go_wp2_with fail
                  all_goals (go_meet; exact ⟨by rw [hd.out], rfl⟩)
                · have h4' : (en != 0) = true := by simpa using h4
                  have hd : Hid ((farB a b && farB ek en) = true) := by rw [Hid]; simp [farB, h1, h2, h3, h4]
                  clear h1 h2 h3 h4
                  go_wp2_with fail
                  all_goals (go_meet; exact ⟨by rw [hd.out], rfl⟩)
            · have h2' : (ek == 1) = false := by simpa using h2
              have hd : Hid ((farB a b && farB ek en) = false) := by rw [Hid]; simp [farB, h2]
              clear h1 h2
              go_wp2_with fail
              all_goals (go_meet; exact ⟨by rw [hd.out], rfl⟩)
          · have h1' : (a == 1) = false := by simpa using h1
            have hd : Hid ((farB a b && farB ek en) = false) := by rw [Hid]; simp [farB, h1]
            clear h1
            go_wp2_with fail
            all_goals (go_meet; exact ⟨by rw [hd.out], rfl⟩)
        case rest =>
          obtain ⟨rfl, rfl⟩ := hcut
          obtain ⟨fb, hfb⟩ : ∃ y, (farB a b && farB ek en) = y := ⟨_, rfl⟩
          rw [hfb]
          have HFB : Hid ((farB a b && farB ek en) = fb) := hfb
          clear hfb
          go_upto_if 82 with fail
          go_cut [16] from 83 to 105 (fun s wx => s = .bool sm ∧ Holds wx (pt w7.heap.size (.cells #[.int .i64 a, .int .i64 b] 24 (0, 0)) * (pt w3.heap.size (.cells #[.int .i64 ek, .int .i64 en] 24 (0, 0)) * (pt w4.heap.size (.cells #[.int .i64 nk, .int .i64 nn] 24 (0, 0)) * (pt yb (.cells #[.slice (some ⟨wb, 0, none⟩) L0.ws.length L0.ws.length, .int .i64 (L0.cnt : Int), .int .i64 (L0.tr : Int), yv] 52 (0, 0)) * (pt wb (.cells (W L0.ws) 48 (0, 0)) * (MemP 120 mb Q6.2 * (DirP x Q6.1 * R))))))) ∧ Strm w wx)
          case first =>
            cases fb with
            | false =>
              have hd : Hid (decide (a = ek ∧ b = en) = sm) := by
                have h := HFB.out
                rw [Hid, ← HSM.out]
                unfold canSame
                rw [if_neg (by intro h2; rw [h2.1, h2.2] at h; simp at h)]
              go_wp2_with fail
              all_goals (go_meet; exact ⟨by rw [hd.out], KX.out, ss7.out⟩)
            | true =>
              have h := HFB.out
              rw [Bool.and_eq_true] at h
              obtain ⟨i, hi, hbi⟩ := HG.out.1.far h.1
              obtain ⟨j, hj, hej⟩ := HG.out.2.far h.2
              have hb0 : 0 ≤ b := by omega
              have hb1 : b < 160 := by omega
              have he0 : 0 ≤ en := by omega
              have he1 : en < 160 := by omega
              have hbn : b.toNat = 96 + 4 * i := by omega
              have hen : en.toNat = 96 + 4 * j := by omega
              have hs := HSM.out
              unfold canSame at hs
              rw [if_pos h, hbn, hen] at hs
              have y1 : L0.ws[96 + 4 * i]? = some (laidAt tags l (96 + 4 * i)) := by rw [HM.out.ws]; unfold laidTo; rw [List.getElem?_map, List.getElem?_range (by omega), Option.map_some, if_pos (by omega)]
              have y2 : L0.ws[96 + 4 * j]? = some (laidAt tags l (96 + 4 * j)) := by rw [HM.out.ws]; unfold laidTo; rw [List.getElem?_map, List.getElem?_range (by omega), Option.map_some, if_pos (by omega)]
              have u1r := laidAt_rng tags l (96 + 4 * i)
              have u2r := laidAt_rng tags l (96 + 4 * j)
              generalize laidAt tags l (96 + 4 * i) = u1 at y1 u1r hs
              generalize laidAt tags l (96 + 4 * j) = u2 at y2 u2r hs
              have V1 : Hid (∀ w, Calls Try.prog 21 #[.int .u64 u1, .int .i64 b] w (Ret w (.int .i64 (hMoved u1 b)))) := fun w => ref02Moved_calls u1 b w u1r.1 u1r.2
              have V2 : Hid (∀ w, Calls Try.prog 21 #[.int .u64 u2, .int .i64 en] w (Ret w (.int .i64 (hMoved u2 en)))) := fun w => ref02Moved_calls u2 en w u2r.1 u2r.2
              generalize hMoved u1 b = d1 at V1 hs
              generalize hMoved u2 en = d2 at V2 hs
              have hd : Hid ((d1 == d2) = sm) := by rw [Hid, ← hs]; first | rfl | (by_cases hq : d1 = d2 <;> simp [hq])
              have EQ : Hid (∀ w' : World, Holds w' (pt w7.heap.size (.cells #[.int .i64 a, .int .i64 b] 24 (0, 0)) * (pt w3.heap.size (.cells #[.int .i64 ek, .int .i64 en] 24 (0, 0)) * (pt w4.heap.size (.cells #[.int .i64 nk, .int .i64 nn] 24 (0, 0)) * (pt yb (.cells #[.slice (some ⟨wb, 0, none⟩) L0.ws.length L0.ws.length, .int .i64 (L0.cnt : Int), .int .i64 (L0.tr : Int), yv] 52 (0, 0)) * (pt wb (.cells (W L0.ws) 48 (0, 0)) * (MemP 120 mb Q6.2 * (DirP x Q6.1 * R))))))) → w'.cell? ⟨yb, 0, none⟩ = some (.slice (some ⟨wb, 0, none⟩) 160 160) ∧ w'.cell? ⟨wb, 96 + 4 * i, none⟩ = some (.int .u64 u1) ∧ w'.cell? ⟨wb, 96 + 4 * j, none⟩ = some (.int .u64 u2) ∧ w'.cell? ⟨w7.heap.size, 1, none⟩ = some (.int .i64 b) ∧ w'.cell? ⟨w3.heap.size, 1, none⟩ = some (.int .i64 en)) := fun w' K => ⟨by rw [K.drop.drop.drop.cell 0 _ rfl]; simp [YW.out.1], by rw [K.drop.drop.drop.drop.cells]; simp [W, y1], by rw [K.drop.drop.drop.drop.cells]; simp [W, y2], K.cell 1 _ rfl, K.drop.cell 1 _ rfl⟩
              clear h hbi hej hs y1 y2 u1r u2r
              go_wp2_with fail
              go_region_held3 (fun w' => w'.cell? ⟨yb, 0, none⟩ = some (.slice (some ⟨wb, 0, none⟩) 160 160) ∧ w'.cell? ⟨wb, 96 + 4 * i, none⟩ = some (.int .u64 u1) ∧ w'.cell? ⟨wb, 96 + 4 * j, none⟩ = some (.int .u64 u2) ∧ w'.cell? ⟨w7.heap.size, 1, none⟩ = some (.int .i64 b) ∧ w'.cell? ⟨w3.heap.size, 1, none⟩ = some (.int .i64 en)) (first | exact EQ.out _ KX.out.drew | exact EQ.out _ K13 | exact EQ.out _ K14)
                (first | (go_at_call 21; (with_reducible refine (V1.out _).mono ?_); rintro e w13 ⟨rfl, hb⟩; have K13 := KX.out.drew.kept hb; have s13 := Strm.below hb; clear hb) | (go_at_call 21; (with_reducible refine (V2.out _).mono ?_); rintro e w14 ⟨rfl, hb⟩; have K14 := K13.kept hb; have s14 := Strm.below hb; clear hb))
              all_goals
                go_wp2_with fail
                go_meet
                exact ⟨by rw [hd.out], K14, (ss7.out.drew.trans s13).trans s14⟩
          case rest =>
          obtain ⟨rfl, K12, s12⟩ := hcut
          have pp0 := K12.cells 0
          have pp1 := K12.cells 1
          have pp2 := K12.drop.drop.cells 0
          have pp3 := K12.drop.drop.cells 1
          cases sm with
          | true =>
            simp only [if_true] at C8
            have K20 := K12.alloc (.cells #[.int .i64 a, .int .i64 b] 24)
            have q20 := K20.cells
            have f20 := K20.frees
            have r20 := K20.drop.drop.drop.cells
            have K21 := K12.alloc (.cells #[.int .i64 nk, .int .i64 nn] 24)
            have s21 : Hid (Strm w _) := s12.alloc (.cells #[.int .i64 nk, .int .i64 nn] 24)
            have KM : Hid (Holds _ (MemP 120 mb Q6.2 * (DirP x Q6.1 * (pt wc.heap.size (.cells #[.int .i64 nk, .int .i64 nn] 24 (0, 0)) * R)))) := (K21.cast (Q := pt w7.heap.size (.cells #[.int .i64 a, .int .i64 b] 24 (0, 0)) * (pt w3.heap.size (.cells #[.int .i64 ek, .int .i64 en] 24 (0, 0)) * (pt w4.heap.size (.cells #[.int .i64 nk, .int .i64 nn] 24 (0, 0)) * (pt yb (.cells #[.slice (some ⟨wb, 0, none⟩) L0.ws.length L0.ws.length, .int .i64 (L0.cnt : Int), .int .i64 (L0.tr : Int), yv] 52 (0, 0)) * (pt wb (.cells (W L0.ws) 48 (0, 0)) * (MemP 120 mb Q6.2 * (DirP x Q6.1 * (pt wc.heap.size (.cells #[.int .i64 nk, .int .i64 nn] 24 (0, 0)) * R)))))))) (by first | ac_rfl | (simp only [List.setIfInBounds_toArray, List.set_cons_zero, List.set_cons_succ]; ac_rfl))).drop.drop.drop.drop.drop
            have k21 := KM.out.drop.drop.cells
            have fv := fieldYes
            go_wp2_with fail
            go_region_held3 (fun w' => w'.cell? ⟨wc.heap.size, 0, none⟩ = some (.int .i64 nk) ∧ w'.cell? ⟨wc.heap.size, 1, none⟩ = some (.int .i64 nn)) (first | exact ⟨k21 0, k21 1⟩ | exact ⟨k22 0, k22 1⟩ | exact ⟨k23 0, k23 1⟩ | exact ⟨k24 0, k24 1⟩)
              (first | (go_at_call 15; (with_reducible refine (C7.out _ _ x KM.out.drew.drop).mono ?_); rintro e w22 ⟨rfl, hb⟩; have K22 := KM.out.drew.kept hb; have k22 := K22.drop.drop.cells; have s22 := Strm.below hb; clear hb) | (go_at_call 18; (with_reducible refine (C8.out _ _ mb K22).mono ?_); rintro e w23 ⟨rfl, K23, s23⟩; have k23 := K23.drop.drop.cells) | (go_at_call 17; (with_reducible refine (CN.out _).mono ?_); rintro e w24 ⟨rfl, hb⟩; have K24 := K23.kept hb; have k24 := K24.drop.drop.cells; have s24 := Strm.below hb; clear hb))
            all_goals
              go_wp2_with fail
              go_ret
              exact ⟨rfl, HF.out _ K24.drop.drop.drop (((s21.out.drew.trans s22).trans s23).trans s24)⟩
          | false =>
            simp only [Bool.false_eq_true, if_false] at C8
            have K20 := K12.alloc (.cells #[.int .i64 a, .int .i64 b] 24)
            have q20 := K20.cells
            have f20 := K20.frees
            have r20 := K20.drop.drop.drop.cells
            have K21 := K20
            have s21 : Hid (Strm w _) := s12.alloc (.cells #[.int .i64 a, .int .i64 b] 24)
            have KM : Hid (Holds _ (MemP 120 mb Q6.2 * (DirP x Q6.1 * (pt wc.heap.size (.cells #[.int .i64 a, .int .i64 b] 24 (0, 0)) * R)))) := (K21.cast (Q := pt w7.heap.size (.cells #[.int .i64 a, .int .i64 b] 24 (0, 0)) * (pt w3.heap.size (.cells #[.int .i64 ek, .int .i64 en] 24 (0, 0)) * (pt w4.heap.size (.cells #[.int .i64 nk, .int .i64 nn] 24 (0, 0)) * (pt yb (.cells #[.slice (some ⟨wb, 0, none⟩) L0.ws.length L0.ws.length, .int .i64 (L0.cnt : Int), .int .i64 (L0.tr : Int), yv] 52 (0, 0)) * (pt wb (.cells (W L0.ws) 48 (0, 0)) * (MemP 120 mb Q6.2 * (DirP x Q6.1 * (pt wc.heap.size (.cells #[.int .i64 a, .int .i64 b] 24 (0, 0)) * R)))))))) (by first | ac_rfl | (simp only [List.setIfInBounds_toArray, List.set_cons_zero, List.set_cons_succ]; ac_rfl))).drop.drop.drop.drop.drop
            have k21 := KM.out.drop.drop.cells
            have fv := fieldYes
            go_wp2_with fail
            go_region_held3 (fun w' => w'.cell? ⟨wc.heap.size, 0, none⟩ = some (.int .i64 a) ∧ w'.cell? ⟨wc.heap.size, 1, none⟩ = some (.int .i64 b)) (first | exact ⟨k21 0, k21 1⟩ | exact ⟨k22 0, k22 1⟩ | exact ⟨k23 0, k23 1⟩ | exact ⟨k24 0, k24 1⟩)
              (first | (go_at_call 15; (with_reducible refine (C7.out _ _ x KM.out.drew.drop).mono ?_); rintro e w22 ⟨rfl, hb⟩; have K22 := KM.out.drew.kept hb; have k22 := K22.drop.drop.cells; have s22 := Strm.below hb; clear hb) | (go_at_call 18; (with_reducible refine (C8.out _ _ mb K22).mono ?_); rintro e w23 ⟨rfl, K23, s23⟩; have k23 := K23.drop.drop.cells) | (go_at_call 17; (with_reducible refine (CA.out _).mono ?_); rintro e w24 ⟨rfl, hb⟩; have K24 := K23.kept hb; have k24 := K24.drop.drop.cells; have s24 := Strm.below hb; clear hb))
            all_goals
              go_wp2_with fail
              go_ret
              exact ⟨rfl, HF.out _ K24.drop.drop.drop (((s21.out.drew.trans s22).trans s23).trans s24)⟩
end Go.Proofs.Ytfapicccijbanaa.Mem
