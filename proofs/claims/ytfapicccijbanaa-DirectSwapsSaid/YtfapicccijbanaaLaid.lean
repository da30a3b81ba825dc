/- What is proved: the contract of flitlaw12.laid: it makes two memories of the same words, as the plain law says. Conditions: that its slices can be read. -/
import Derived.Test.YtfapicccijbanaaHead
import Derived.Test.YtfapicccijbanaaRef
import Derived.Test.YtfapicccijbanaaLaidP
import Derived.Deep.DeepCutAuto
import Derived.Deep.LoopGhost
namespace Go.Proofs.Ytfapicccijbanaa.Mem
open Go Go.RowKit Go.Proofs.Ytfapicccijbanaa.Sep Go.Proofs.Ytfapicccijbanaa.Num
set_option maxRecDepth 100000
set_option linter.unusedVariables false
set_option linter.unusedSimpArgs false
/-- A slice of whole numbers that can be read. -/
def IntsAt (w : World) (v : Value) (xs : List Int) : Prop := ∃ ao cap, v = .slice ao xs.length cap ∧ (∀ x ∈ xs, -9223372036854775808 ≤ x ∧ x ≤ 9223372036854775807) ∧
  (xs = [] ∨ ∃ b off, ao = some ⟨b, off, none⟩ ∧ ∀ i, i < xs.length → w.cell? ⟨b, off + i, none⟩ = some (.int .i64 (xs.getD i 0)))
/-- A slice of values (kind and number) that can be read. -/
def ValsAt (w : World) (v : Value) (xs : List (Int × Int)) : Prop := ∃ ao cap, v = .slice ao xs.length cap ∧ (∀ x ∈ xs, (-9223372036854775808 ≤ x.1 ∧ x.1 ≤ 9223372036854775807) ∧ (-9223372036854775808 ≤ x.2 ∧ x.2 ≤ 9223372036854775807)) ∧
  (xs = [] ∨ ∃ b off, ao = some ⟨b, off, none⟩ ∧ ∀ i, i < xs.length → w.cell? ⟨b, off + i * 2, none⟩ = some (.int .i64 (xs.getD i (0, 0)).1) ∧ w.cell? ⟨b, off + i * 2 + 1, none⟩ = some (.int .i64 (xs.getD i (0, 0)).2))
/-- The memory when k words from 96 on are laid. -/
def laidM (tags : List Int) (l : List (Int × Int)) (k : Nat) : MS := ⟨laidTo tags l (96 + k), k, 0, k⟩
theorem laidM_ok (tags : List Int) (l : List (Int × Int)) (k : Nat) (h : k < 1000) : (laidM tags l k).ok :=
  ⟨by simp [laidM, laidTo_len], fun x hx => laidTo_rng tags l (96 + k) x hx, by simp [laidM]; omega, by simp [laidM], by simp [laidM]; omega⟩
theorem laidM_store (tags : List Int) (l : List (Int × Int)) (k : Nat) (h : k < 64) : (laidM tags l k).store (96 + (k : Int)) (laidAt tags l (96 + k)) = laidM tags l (k + 1) := by
  have ht : (laidM tags l k).there (96 + (k : Int)) = true := by rw [there_iff]; simp [laidM, laidTo_len]; omega
  unfold MS.store MS.put
  rw [if_pos ht, ht]
  unfold MS.acc laidM
  simp only [if_true]
  rw [show (96 + (k : Int)).toNat = 96 + k by omega, laidTo_set]
  rfl
theorem laidM_zero (tags : List Int) (l : List (Int × Int)) : laidM tags l (4 * 0) = MS.new 160 := by
  unfold laidM MS.new zeros
  rw [show 96 + 4 * 0 = 96 from rfl, laidTo_start]
/-- What both hold when k words are laid. -/
def Both (mb yb : Nat) (M : MS) (R : HProp) : HProp := MemP 120 mb M * (MemP 52 yb M * R)
set_option maxHeartbeats 4000000 in
theorem laid_calls (w : World) (R : HProp) (tv lv : Value) (tags : List Int) (l : List (Int × Int)) (H : Holds w R) (hT : ∀ w', Holds w' R → IntsAt w' tv tags) (hL : ∀ w', Holds w' R → ValsAt w' lv l) :
    Calls Try.prog 10 #[tv, lv] w fun e w' => ∃ mb yb, e = .returned (.tuple #[.pointer (some ⟨mb, 0, none⟩), .pointer (some ⟨yb, 0, none⟩)]) ∧ Holds w' (Both mb yb (laidM tags l 64) R) ∧ Strm w w' := by
  obtain ⟨ta, tc, rfl, htr, htc⟩ := hT w H
  obtain ⟨la, lc, rfl, hlr, hlc⟩ := hL w H
  have HT : Hid (∀ w', Holds w' R → IntsAt w' (.slice ta tags.length tc) tags) := hT
  have HL : Hid (∀ w', Holds w' R → ValsAt w' (.slice la l.length lc) l) := hL
  have N1 : Hid (∀ w R, Holds w R → Calls Try.prog 29 #[.int .i64 160] w fun e w' => ∃ mb, e = .returned (.tuple #[.pointer (some ⟨mb, 0, none⟩), .int .i64 0]) ∧ Holds w' (MemP 120 mb (MS.new 160) * R) ∧ Strm w w') := fun w R H => memNew_calls w R 160 (by omega) (by omega) H
  have N2 : Hid (∀ w R, Holds w R → Calls Try.prog 30 #[.int .i64 160] w fun e w' => ∃ mb, e = .returned (.tuple #[.pointer (some ⟨mb, 0, none⟩), .int .i64 0]) ∧ Holds w' (MemP 52 mb (MS.new 160) * R) ∧ Strm w w') := fun w R H => refNew_calls w R 160 (by omega) (by omega) H
  have HH : Hid (Holds w R) := H
  clear hT hL H htr htc hlr hlc
  go_enter Try.func10, Try.ntmps10
  go_wp2_with (first | (go_at_call 29; refine (N1.out _ _ HH.out).mono ?_; rintro e w1 ⟨mb, rfl, H1, s1⟩) | (go_at_call 30; refine (N2.out _ _ H1).mono ?_; rintro e w2 ⟨yb, rfl, H2, s2⟩))
  go_loopw [10] (fun i wr => ∃ k : Nat, k ≤ 16 ∧ i = .int .i64 (k : Int) ∧ Holds wr (Both mb yb (laidM tags l (4 * k)) R) ∧ Strm w wr) (fun i _ => 16 - (intOf i).toNat)
  case atStart => exact ⟨0, by omega, rfl, by rw [laidM_zero]; exact H2.cast (by unfold Both; ac_rfl), s1.trans s2⟩
  case round =>
    obtain ⟨k, hk, rfl, HB, sr⟩ := hrel
    have hkl : kindOf (tags.getD k 0) 3 = kindOf (tags.getD k 0) 3 := rfl
    by_cases hlt : k < 16
    · have HI : IntsAt wr (.slice ta tags.length tc) tags := HT.out wr (HB.drop.drop)
      obtain ⟨hw, hhw⟩ : ∃ hw, (headAt tags k).w = hw := ⟨_, rfl⟩
      go_upto_region 7 with fail
      go_cut [46] (fun s wx => s = .bool (tagged tags k) ∧ wx = wr.alloc (.cells #[.int .i64 1, .int .i64 0, .int .i64 3, .int .i64 0, .int .i64 0, .int .i64 0, .int .i64 0] 87))
      case first =>
        have HT2 : Hid (tagged tags k = (decide (k < 8) && (decide (k < tags.length) && decide (kindOf (tags.getD k 0) 3 = 2)))) := rfl
        obtain ⟨ao, cap, hv, hr, hcl⟩ := HI
        injection hv with hv1 hv2 hv3
        subst hv1 hv3
        have HC : Hid (tags = [] ∨ ∃ b off, ta = some ⟨b, off, none⟩ ∧ ∀ i, i < tags.length → wr.cell? ⟨b, off + i, none⟩ = some (.int .i64 (tags.getD i 0))) := hcl
        have HR : Hid (∀ x ∈ tags, -9223372036854775808 ≤ x ∧ x ≤ 9223372036854775807) := hr
        clear hcl hr hhw
        by_cases h8 : k < 8
        · by_cases hl : k < tags.length
          · rcases HC.out with h | ⟨b, off, rfl, hcell⟩
            · rw [h] at hl; simp at hl
            · obtain ⟨t, ht⟩ : ∃ t, tags.getD k 0 = t := ⟨_, rfl⟩
              have hct := hcell k hl
              have hrt := HR.out (tags.getD k 0) (by rw [List.getD_eq_getElem?_getD, List.getElem?_eq_getElem hl]; simp)
              rw [ht] at hct hrt
              have hbl : b < wr.heap.size := World.block_lt_of_cell? wr _ hct
              obtain ⟨q, hq⟩ : ∃ q, kindOf t 3 = q := ⟨_, rfl⟩
              have hK : Hid (∀ w, Calls Try.prog 11 #[.int .i64 t, .int .i64 3] w fun e w' => e = .returned (.int .i64 q) ∧ w' = w) := fun w => by rw [← hq]; exact kind_calls t 3 w hrt.1 hrt.2 (by omega) (by omega)
              have HT3 : Hid (tagged tags k = decide (q = 2)) := by rw [Hid, HT2.out, ht, hq, decide_eq_true h8, decide_eq_true hl]; rfl
              clear hcell hq ht HC HT2 HR hrt
              go_wp2_with (go_at_call 11; refine (hK.out _).mono ?_; rintro e w' ⟨rfl, rfl⟩)
              go_meet
              exact ⟨by rw [HT3.out]; rfl, rfl⟩
          · have HT3 : Hid (tagged tags k = false) := by rw [Hid, HT2.out]; simp [hl]
            clear HC HT2 HR
            go_wp2_with fail
            go_meet
            exact ⟨by rw [HT3.out], rfl⟩
        · have HT3 : Hid (tagged tags k = false) := by rw [Hid, HT2.out]; simp [h8]
          clear HC HT2 HR
          have h8' : decide ((k : Int) < 8) = false := by simp; omega
          go_wp2_with fail
          go_meet
          exact ⟨by rw [HT3.out], rfl⟩
      case rest =>
        obtain ⟨rfl, rfl⟩ := hcut
        clear HI
        by_cases htag : tagged tags k = true
        · rw [htag]
          have HW : Hid (∀ w, Calls Try.prog 32 #[.agg #[.int .i64 1, .int .i64 0, .int .i64 3, .int .i64 0, .int .i64 0, .int .i64 2, .int .i64 (96 + 4 * ((k : Int) + 8))]] w (Ret w (.int .u64 hw))) := fun w => by
            have := ref02Word_calls ⟨1, 0, 3, 0, 0, 2, (96 + 4 * ((k : Int) + 8))⟩ w
            rw [show (HV.mk 1 0 3 0 0 2 (96 + 4 * ((k : Int) + 8))) = headAt tags k by unfold headAt; rw [htag]; rfl] at this
            rw [← hhw]; rw [← show (HV.mk 1 0 3 0 0 2 (96 + 4 * ((k : Int) + 8))) = headAt tags k by unfold headAt; rw [htag]; rfl] at this ⊢; exact this
          have H1 := HB.alloc (.cells #[.int .i64 1, .int .i64 0, .int .i64 3, .int .i64 0, .int .i64 0, .int .i64 2, .int .i64 (96 + 4 * ((k : Int) + 8))] 87)
          have S1 : Hid (∀ w R, Holds w (MemP 120 mb (laidM tags l (4 * k)) * R) → Calls Try.prog 31 #[.pointer (some ⟨mb, 0, none⟩), .int .i64 (96 + 4 * (k : Int)), .int .u64 hw] w fun e w' => e = .returned (.tuple #[]) ∧ Holds w' (MemP 120 mb (laidM tags l (4 * k + 1)) * R) ∧ Strm w w') := fun w R H => by
            have := store_calls w R mb _ (96 + 4 * (k : Int)) hw H (laidM_ok _ _ _ (by omega))
            rw [← hhw, ← laidAt_head tags l k, show (96 + 4 * (k : Int)) = 96 + ((4 * k : Nat) : Int) by omega, laidM_store _ _ _ (by omega)] at this
            rw [show (96 + 4 * (k : Int)) = 96 + ((4 * k : Nat) : Int) by omega, ← hhw, ← laidAt_head tags l k]; exact this
          have S2 : Hid (∀ w R, Holds w (MemP 52 yb (laidM tags l (4 * k)) * R) → Calls Try.prog 33 #[.pointer (some ⟨yb, 0, none⟩), .int .i64 (96 + 4 * (k : Int)), .int .u64 hw] w fun e w' => e = .returned (.tuple #[]) ∧ Holds w' (MemP 52 yb (laidM tags l (4 * k + 1)) * R) ∧ Strm w w') := fun w R H => by
            have := refStore_calls w R yb _ (96 + 4 * (k : Int)) hw H (laidM_ok _ _ _ (by omega))
            rw [← hhw, ← laidAt_head tags l k, show (96 + 4 * (k : Int)) = 96 + ((4 * k : Nat) : Int) by omega, laidM_store _ _ _ (by omega)] at this
            rw [show (96 + 4 * (k : Int)) = 96 + ((4 * k : Nat) : Int) by omega, ← hhw, ← laidAt_head tags l k]; exact this
          clear hhw
          have tk1 : True := trivial
          go_wp2_with (first | (go_at_call 32; have _t := tk1; (with_reducible refine (HW.out _).mono ?_); rintro e w3 ⟨rfl, hb⟩; have K3 := H1.kept hb; have hc3 := K3.cells; have s3 := sr.trans (((Strm.refl wr).alloc _).trans (Strm.below hb)); clear tk1 hb) | (go_at_call 31; refine (S1.out _ (pt wr.heap.size (.cells #[.int .i64 1, .int .i64 0, .int .i64 3, .int .i64 0, .int .i64 0, .int .i64 2, .int .i64 (96 + 4 * ((k : Int) + 8))] 87 (0, 0)) * (MemP 52 yb (laidM tags l (4 * k)) * R)) (K3.cast (by unfold Both; ac_rfl))).mono ?_; rintro e w4 ⟨rfl, K4, s4⟩; have K4' := K4.cast (Q := pt wr.heap.size (.cells #[.int .i64 1, .int .i64 0, .int .i64 3, .int .i64 0, .int .i64 0, .int .i64 2, .int .i64 (96 + 4 * ((k : Int) + 8))] 87 (0, 0)) * (MemP 120 mb (laidM tags l (4 * k + 1)) * (MemP 52 yb (laidM tags l (4 * k)) * R))) (by ac_rfl); have hc4 := K4'.cells) | (go_at_call 32; (with_reducible refine (HW.out _).mono ?_); rintro e w5 ⟨rfl, hb⟩; have K5 := K4.kept hb; have s5 := Strm.below hb; clear hb) | (go_at_call 33; (refine (S2.out _ (pt wr.heap.size (.cells #[.int .i64 1, .int .i64 0, .int .i64 3, .int .i64 0, .int .i64 0, .int .i64 2, .int .i64 (96 + 4 * ((k : Int) + 8))] 87 (0, 0)) * (MemP 120 mb (laidM tags l (4 * k + 1)) * R)) (K5.cast (by ac_rfl))).mono ?_); rintro e w6 ⟨rfl, K6, s6⟩))
          have sx : Hid (Strm w w6) := (((s3.trans s4).trans s5).trans s6)
          have K7 : Hid (Holds w6 (Both mb yb (laidM tags l (4 * k + 1 + 0)) R)) := (K6.cast (Q := pt wr.heap.size (.cells #[.int .i64 1, .int .i64 0, .int .i64 3, .int .i64 0, .int .i64 0, .int .i64 2, .int .i64 (96 + 4 * ((k : Int) + 8))] 87 (0, 0)) * (Both mb yb (laidM tags l (4 * k + 1 + 0)) R)) (by unfold Both; ac_rfl)).drop
          clear HW H1 S1 S2 HB sr hc3 K3 s3 K4 s4 K4' hc4 K5 s5 K6 s6
          obtain ⟨wo, rfl⟩ : ∃ wo : World, wo = wr := ⟨_, rfl⟩
          go_loopw [12] (fun fi wx => ∃ f : Nat, f ≤ 3 ∧ fi = .int .i64 (f : Int) ∧ Holds wx (Both mb yb (laidM tags l (4 * k + 1 + f)) R) ∧ Strm w wx) (fun fi _ => 3 - (intOf fi).toNat)
          case atStart => exact ⟨0, by omega, rfl, K7.out, sx.out⟩
          case round =>
            clear K7 sx
            obtain ⟨f, hf, rfl, HB, sr⟩ := hrel
            by_cases hf3 : f < 3
            · obtain ⟨fw, hfw⟩ : ∃ fw, sW (fldAt l (3 * k + f)).1 (fldAt l (3 * k + f)).2 = fw := ⟨_, rfl⟩
              have S1 : Hid (∀ w R, Holds w (MemP 120 mb (laidM tags l (4 * k + 1 + f)) * R) → Calls Try.prog 31 #[.pointer (some ⟨mb, 0, none⟩), .int .i64 (97 + 4 * (k : Int) + (f : Int)), .int .u64 fw] w fun e w' => e = .returned (.tuple #[]) ∧ Holds w' (MemP 120 mb (laidM tags l (4 * k + 1 + (f + 1))) * R) ∧ Strm w w') := fun w R H => by
                have := store_calls w R mb _ (97 + 4 * (k : Int) + (f : Int)) fw H (laidM_ok _ _ _ (by omega))
                rw [show (97 + 4 * (k : Int) + (f : Int)) = 96 + ((4 * k + 1 + f : Nat) : Int) by omega, ← hfw, ← laidAt_fld tags l k f hf3, show 97 + 4 * k + f = 96 + (4 * k + 1 + f) by omega, laidM_store _ _ _ (by omega)] at this
                rw [show (97 + 4 * (k : Int) + (f : Int)) = 96 + ((4 * k + 1 + f : Nat) : Int) by omega, ← hfw, ← laidAt_fld tags l k f hf3, show 97 + 4 * k + f = 96 + (4 * k + 1 + f) by omega]; exact this
              have S2 : Hid (∀ w R, Holds w (MemP 52 yb (laidM tags l (4 * k + 1 + f)) * R) → Calls Try.prog 33 #[.pointer (some ⟨yb, 0, none⟩), .int .i64 (97 + 4 * (k : Int) + (f : Int)), .int .u64 fw] w fun e w' => e = .returned (.tuple #[]) ∧ Holds w' (MemP 52 yb (laidM tags l (4 * k + 1 + (f + 1))) * R) ∧ Strm w w') := fun w R H => by
                have := refStore_calls w R yb _ (97 + 4 * (k : Int) + (f : Int)) fw H (laidM_ok _ _ _ (by omega))
                rw [show (97 + 4 * (k : Int) + (f : Int)) = 96 + ((4 * k + 1 + f : Nat) : Int) by omega, ← hfw, ← laidAt_fld tags l k f hf3, show 97 + 4 * k + f = 96 + (4 * k + 1 + f) by omega, laidM_store _ _ _ (by omega)] at this
                rw [show (97 + 4 * (k : Int) + (f : Int)) = 96 + ((4 * k + 1 + f : Nat) : Int) by omega, ← hfw, ← laidAt_fld tags l k f hf3, show 97 + 4 * k + f = 96 + (4 * k + 1 + f) by omega]; exact this
              by_cases hj : 3 * k + f < l.length
              · have HI := HL.out wr HB.drop.drop
                obtain ⟨ao, cap, hv, hr, hcl⟩ := HI
                injection hv with hv1 hv2 hv3
                subst hv1 hv3
                rcases hcl with h | ⟨b, off, rfl, hcell⟩
                · exact absurd hj (by rw [h]; simp)
                obtain ⟨x, hx⟩ : ∃ x, l.getD (3 * k + f) (0, 0) = x := ⟨_, rfl⟩
                obtain ⟨hc1, hc2⟩ := hcell _ hj
                have hrx := hr (l.getD (3 * k + f) (0, 0)) (by rw [List.getD_eq_getElem?_getD, List.getElem?_eq_getElem hj]; simp)
                rw [hx] at hc1 hc2 hrx
                obtain ⟨x1, x2⟩ := x
                simp only at hc1 hc2 hrx
                have hbl : b < wr.heap.size := World.block_lt_of_cell? wr _ hc1
                obtain ⟨vk, hvk⟩ : ∃ vk, (opVal x1 x2).1 = vk := ⟨_, rfl⟩
                obtain ⟨vn, hvn⟩ : ∃ vn, (opVal x1 x2).2 = vn := ⟨_, rfl⟩
                have hfl : fldAt l (3 * k + f) = (vk, vn) := by unfold fldAt; rw [if_pos hj, hx, ← hvk, ← hvn]
                have HV' : Hid (∀ w, Calls Try.prog 19 #[.agg #[.int .i64 x1, .int .i64 x2]] w (Ret w (.agg #[.int .i64 vk, .int .i64 vn]))) := fun w => by rw [← hvk, ← hvn]; exact val_calls x1 x2 w hrx.1.1 hrx.1.2 hrx.2.1 hrx.2.2
                have HW : Hid (∀ w, Calls Try.prog 34 #[.agg #[.int .i64 vk, .int .i64 vn]] w (Ret w (.int .u64 fw))) := fun w => by rw [← hfw, hfl]; exact ref01Word_calls vk vn w
                clear hfl hvk hvn hx hr hcell hfw hrx
                have H1 := HB.alloc (.cells #[.int .i64 0, .int .i64 0] 24)
                have tk1 : True := trivial
                go_wp2_with (first | (go_at_call 19; (with_reducible refine (HV'.out _).mono ?_); rintro e w2 ⟨rfl, hb⟩; have K2 := H1.kept hb; have hc2 := K2.cells; have hf2 := K2.frees; have s2 : Hid (Strm wr w2) := ((Strm.refl wr).alloc _).trans (Strm.below hb); have K2' := (K2.set 0 (.int .i64 vk)).set 1 (.int .i64 vn); have hz : wr.heap.size < w2.heap.size := (by (have := hb.size; simp at this; omega)); clear hb) | (go_at_call 34; have _t := tk1; (with_reducible refine (HW.out _).mono ?_); rintro e w3 ⟨rfl, hb⟩; have K3 := K2'.kept hb; have hc3 := K3.cells; have s3 : Hid (Strm wr w3) := ((s2.out.set _ _).set _ _).trans (Strm.below hb); clear tk1 hb) | (go_at_call 31; (refine (S1.out _ (pt wr.heap.size (.cells #[.int .i64 vk, .int .i64 vn] 24 (0, 0)) * (MemP 52 yb (laidM tags l (4 * k + 1 + f)) * R)) (K3.cast (by simp only [List.setIfInBounds_toArray, List.set_cons_succ, List.set_cons_zero]; unfold Both; ac_rfl))).mono ?_); rintro e w4 ⟨rfl, K4, s4⟩; have K4' := K4.cast (Q := pt wr.heap.size (.cells #[.int .i64 vk, .int .i64 vn] 24 (0, 0)) * (MemP 120 mb (laidM tags l (4 * k + 1 + (f + 1))) * (MemP 52 yb (laidM tags l (4 * k + 1 + f)) * R))) (by ac_rfl); have hc4 := K4'.cells) | (go_at_call 34; (with_reducible refine (HW.out _).mono ?_); rintro e w5 ⟨rfl, hb⟩; have K5 := K4.kept hb; have s5 : Hid (Strm w4 w5) := Strm.below hb; clear hb) | (go_at_call 33; (refine (S2.out _ (pt wr.heap.size (.cells #[.int .i64 vk, .int .i64 vn] 24 (0, 0)) * (MemP 120 mb (laidM tags l (4 * k + 1 + (f + 1))) * R)) (K5.cast (by ac_rfl))).mono ?_); rintro e w6 ⟨rfl, K6, s6⟩))
                refine ⟨⟨f + 1, by omega, by go_num, ?_, ?_⟩, by simp [intOf]; omega⟩
                · exact (K6.cast (Q := pt wr.heap.size (.cells #[.int .i64 vk, .int .i64 vn] 24 (0, 0)) * (Both mb yb (laidM tags l (4 * k + 1 + (f + 1))) R)) (by unfold Both; ac_rfl)).drop
                · exact (((sr.trans s3.out).trans s4).trans s5.out).trans s6
              · obtain ⟨vk, hvk⟩ : ∃ vk : Int, 0 = vk := ⟨_, rfl⟩
                obtain ⟨vn, hvn⟩ : ∃ vn : Int, 0 = vn := ⟨_, rfl⟩
                have hfl : fldAt l (3 * k + f) = (vk, vn) := by unfold fldAt; rw [if_neg hj, ← hvk, ← hvn]
                have HW : Hid (∀ w, Calls Try.prog 34 #[.agg #[.int .i64 vk, .int .i64 vn]] w (Ret w (.int .u64 fw))) := fun w => by rw [← hfw, hfl]; exact ref01Word_calls vk vn w
                clear hfl hfw
                subst hvk hvn
                have H1 := HB.alloc (.cells #[.int .i64 0, .int .i64 0] 24)
                have tk1 : True := trivial
                go_wp2_with (first | (go_at_call 34; have _t := tk1; (with_reducible refine (HW.out _).mono ?_); rintro e w3 ⟨rfl, hb⟩; have K3 := H1.kept hb; have hc3 := K3.cells; have s3 : Hid (Strm wr w3) := ((Strm.refl wr).alloc _).trans (Strm.below hb); clear tk1 hb) | (go_at_call 31; (refine (S1.out _ (pt wr.heap.size (.cells #[.int .i64 0, .int .i64 0] 24 (0, 0)) * (MemP 52 yb (laidM tags l (4 * k + 1 + f)) * R)) (K3.cast (by unfold Both; ac_rfl))).mono ?_); rintro e w4 ⟨rfl, K4, s4⟩; have K4' := K4.cast (Q := pt wr.heap.size (.cells #[.int .i64 0, .int .i64 0] 24 (0, 0)) * (MemP 120 mb (laidM tags l (4 * k + 1 + (f + 1))) * (MemP 52 yb (laidM tags l (4 * k + 1 + f)) * R))) (by ac_rfl); have hc4 := K4'.cells) | (go_at_call 34; (with_reducible refine (HW.out _).mono ?_); rintro e w5 ⟨rfl, hb⟩; have K5 := K4.kept hb; have s5 : Hid (Strm w4 w5) := Strm.below hb; clear hb) | (go_at_call 33; (refine (S2.out _ (pt wr.heap.size (.cells #[.int .i64 0, .int .i64 0] 24 (0, 0)) * (MemP 120 mb (laidM tags l (4 * k + 1 + (f + 1))) * R)) (K5.cast (by ac_rfl))).mono ?_); rintro e w6 ⟨rfl, K6, s6⟩))
                refine ⟨⟨f + 1, by omega, by go_num, ?_, ?_⟩, by simp [intOf]; omega⟩
                · exact (K6.cast (Q := pt wr.heap.size (.cells #[.int .i64 0, .int .i64 0] 24 (0, 0)) * (Both mb yb (laidM tags l (4 * k + 1 + (f + 1))) R)) (by unfold Both; ac_rfl)).drop
                · exact (((sr.trans s3.out).trans s4).trans s5.out).trans s6
            · go_wp2_with fail
              go_roundw
              case rel => exact ⟨k + 1, by omega, by go_num, by rw [show 4 * (k + 1) = 4 * k + 1 + f by omega]; exact HB, sr⟩
              case measure => simp [intOf]; omega
        · rw [Bool.not_eq_true] at htag
          rw [htag]
          have HW : Hid (∀ w, Calls Try.prog 32 #[.agg #[.int .i64 1, .int .i64 0, .int .i64 3, .int .i64 0, .int .i64 0, .int .i64 0, .int .i64 0]] w (Ret w (.int .u64 hw))) := fun w => by
            have := ref02Word_calls ⟨1, 0, 3, 0, 0, 0, 0⟩ w
            rw [show (HV.mk 1 0 3 0 0 0 0) = headAt tags k by unfold headAt; rw [htag]; rfl] at this
            rw [← hhw]; rw [← show (HV.mk 1 0 3 0 0 0 0) = headAt tags k by unfold headAt; rw [htag]; rfl] at this ⊢; exact this
          have H1 := HB.alloc (.cells #[.int .i64 1, .int .i64 0, .int .i64 3, .int .i64 0, .int .i64 0, .int .i64 0, .int .i64 0] 87)
          have S1 : Hid (∀ w R, Holds w (MemP 120 mb (laidM tags l (4 * k)) * R) → Calls Try.prog 31 #[.pointer (some ⟨mb, 0, none⟩), .int .i64 (96 + 4 * (k : Int)), .int .u64 hw] w fun e w' => e = .returned (.tuple #[]) ∧ Holds w' (MemP 120 mb (laidM tags l (4 * k + 1)) * R) ∧ Strm w w') := fun w R H => by
            have := store_calls w R mb _ (96 + 4 * (k : Int)) hw H (laidM_ok _ _ _ (by omega))
            rw [← hhw, ← laidAt_head tags l k, show (96 + 4 * (k : Int)) = 96 + ((4 * k : Nat) : Int) by omega, laidM_store _ _ _ (by omega)] at this
            rw [show (96 + 4 * (k : Int)) = 96 + ((4 * k : Nat) : Int) by omega, ← hhw, ← laidAt_head tags l k]; exact this
          have S2 : Hid (∀ w R, Holds w (MemP 52 yb (laidM tags l (4 * k)) * R) → Calls Try.prog 33 #[.pointer (some ⟨yb, 0, none⟩), .int .i64 (96 + 4 * (k : Int)), .int .u64 hw] w fun e w' => e = .returned (.tuple #[]) ∧ Holds w' (MemP 52 yb (laidM tags l (4 * k + 1)) * R) ∧ Strm w w') := fun w R H => by
            have := refStore_calls w R yb _ (96 + 4 * (k : Int)) hw H (laidM_ok _ _ _ (by omega))
            rw [← hhw, ← laidAt_head tags l k, show (96 + 4 * (k : Int)) = 96 + ((4 * k : Nat) : Int) by omega, laidM_store _ _ _ (by omega)] at this
            rw [show (96 + 4 * (k : Int)) = 96 + ((4 * k : Nat) : Int) by omega, ← hhw, ← laidAt_head tags l k]; exact this
          clear hhw
          have tk1 : True := trivial
          go_wp2_with (first | (go_at_call 32; have _t := tk1; (with_reducible refine (HW.out _).mono ?_); rintro e w3 ⟨rfl, hb⟩; have K3 := H1.kept hb; have hc3 := K3.cells; have s3 := sr.trans (((Strm.refl wr).alloc _).trans (Strm.below hb)); clear tk1 hb) | (go_at_call 31; refine (S1.out _ (pt wr.heap.size (.cells #[.int .i64 1, .int .i64 0, .int .i64 3, .int .i64 0, .int .i64 0, .int .i64 0, .int .i64 0] 87 (0, 0)) * (MemP 52 yb (laidM tags l (4 * k)) * R)) (K3.cast (by unfold Both; ac_rfl))).mono ?_; rintro e w4 ⟨rfl, K4, s4⟩; have K4' := K4.cast (Q := pt wr.heap.size (.cells #[.int .i64 1, .int .i64 0, .int .i64 3, .int .i64 0, .int .i64 0, .int .i64 0, .int .i64 0] 87 (0, 0)) * (MemP 120 mb (laidM tags l (4 * k + 1)) * (MemP 52 yb (laidM tags l (4 * k)) * R))) (by ac_rfl); have hc4 := K4'.cells) | (go_at_call 32; (with_reducible refine (HW.out _).mono ?_); rintro e w5 ⟨rfl, hb⟩; have K5 := K4.kept hb; have s5 := Strm.below hb; clear hb) | (go_at_call 33; (refine (S2.out _ (pt wr.heap.size (.cells #[.int .i64 1, .int .i64 0, .int .i64 3, .int .i64 0, .int .i64 0, .int .i64 0, .int .i64 0] 87 (0, 0)) * (MemP 120 mb (laidM tags l (4 * k + 1)) * R)) (K5.cast (by ac_rfl))).mono ?_); rintro e w6 ⟨rfl, K6, s6⟩))
          have sx : Hid (Strm w w6) := (((s3.trans s4).trans s5).trans s6)
          have K7 : Hid (Holds w6 (Both mb yb (laidM tags l (4 * k + 1 + 0)) R)) := (K6.cast (Q := pt wr.heap.size (.cells #[.int .i64 1, .int .i64 0, .int .i64 3, .int .i64 0, .int .i64 0, .int .i64 0, .int .i64 0] 87 (0, 0)) * (Both mb yb (laidM tags l (4 * k + 1 + 0)) R)) (by unfold Both; ac_rfl)).drop
          clear HW H1 S1 S2 HB sr hc3 K3 s3 K4 s4 K4' hc4 K5 s5 K6 s6
          obtain ⟨wo, rfl⟩ : ∃ wo : World, wo = wr := ⟨_, rfl⟩
          go_loopw [12] (fun fi wx => ∃ f : Nat, f ≤ 3 ∧ fi = .int .i64 (f : Int) ∧ Holds wx (Both mb yb (laidM tags l (4 * k + 1 + f)) R) ∧ Strm w wx) (fun fi _ => 3 - (intOf fi).toNat)
          case atStart => exact ⟨0, by omega, rfl, K7.out, sx.out⟩
          case round =>
            clear K7 sx
            obtain ⟨f, hf, rfl, HB, sr⟩ := hrel
            by_cases hf3 : f < 3
            · obtain ⟨fw, hfw⟩ : ∃ fw, sW (fldAt l (3 * k + f)).1 (fldAt l (3 * k + f)).2 = fw := ⟨_, rfl⟩
              have S1 : Hid (∀ w R, Holds w (MemP 120 mb (laidM tags l (4 * k + 1 + f)) * R) → Calls Try.prog 31 #[.pointer (some ⟨mb, 0, none⟩), .int .i64 (97 + 4 * (k : Int) + (f : Int)), .int .u64 fw] w fun e w' => e = .returned (.tuple #[]) ∧ Holds w' (MemP 120 mb (laidM tags l (4 * k + 1 + (f + 1))) * R) ∧ Strm w w') := fun w R H => by
                have := store_calls w R mb _ (97 + 4 * (k : Int) + (f : Int)) fw H (laidM_ok _ _ _ (by omega))
                rw [show (97 + 4 * (k : Int) + (f : Int)) = 96 + ((4 * k + 1 + f : Nat) : Int) by omega, ← hfw, ← laidAt_fld tags l k f hf3, show 97 + 4 * k + f = 96 + (4 * k + 1 + f) by omega, laidM_store _ _ _ (by omega)] at this
                rw [show (97 + 4 * (k : Int) + (f : Int)) = 96 + ((4 * k + 1 + f : Nat) : Int) by omega, ← hfw, ← laidAt_fld tags l k f hf3, show 97 + 4 * k + f = 96 + (4 * k + 1 + f) by omega]; exact this
              have S2 : Hid (∀ w R, Holds w (MemP 52 yb (laidM tags l (4 * k + 1 + f)) * R) → Calls Try.prog 33 #[.pointer (some ⟨yb, 0, none⟩), .int .i64 (97 + 4 * (k : Int) + (f : Int)), .int .u64 fw] w fun e w' => e = .returned (.tuple #[]) ∧ Holds w' (MemP 52 yb (laidM tags l (4 * k + 1 + (f + 1))) * R) ∧ Strm w w') := fun w R H => by
                have := refStore_calls w R yb _ (97 + 4 * (k : Int) + (f : Int)) fw H (laidM_ok _ _ _ (by omega))
                rw [show (97 + 4 * (k : Int) + (f : Int)) = 96 + ((4 * k + 1 + f : Nat) : Int) by omega, ← hfw, ← laidAt_fld tags l k f hf3, show 97 + 4 * k + f = 96 + (4 * k + 1 + f) by omega, laidM_store _ _ _ (by omega)] at this
                rw [show (97 + 4 * (k : Int) + (f : Int)) = 96 + ((4 * k + 1 + f : Nat) : Int) by omega, ← hfw, ← laidAt_fld tags l k f hf3, show 97 + 4 * k + f = 96 + (4 * k + 1 + f) by omega]; exact this
              by_cases hj : 3 * k + f < l.length
              · have HI := HL.out wr HB.drop.drop
                obtain ⟨ao, cap, hv, hr, hcl⟩ := HI
                injection hv with hv1 hv2 hv3
                subst hv1 hv3
                rcases hcl with h | ⟨b, off, rfl, hcell⟩
                · exact absurd hj (by rw [h]; simp)
                obtain ⟨x, hx⟩ : ∃ x, l.getD (3 * k + f) (0, 0) = x := ⟨_, rfl⟩
                obtain ⟨hc1, hc2⟩ := hcell _ hj
                have hrx := hr (l.getD (3 * k + f) (0, 0)) (by rw [List.getD_eq_getElem?_getD, List.getElem?_eq_getElem hj]; simp)
                rw [hx] at hc1 hc2 hrx
                obtain ⟨x1, x2⟩ := x
                simp only at hc1 hc2 hrx
                have hbl : b < wr.heap.size := World.block_lt_of_cell? wr _ hc1
                obtain ⟨vk, hvk⟩ : ∃ vk, (opVal x1 x2).1 = vk := ⟨_, rfl⟩
                obtain ⟨vn, hvn⟩ : ∃ vn, (opVal x1 x2).2 = vn := ⟨_, rfl⟩
                have hfl : fldAt l (3 * k + f) = (vk, vn) := by unfold fldAt; rw [if_pos hj, hx, ← hvk, ← hvn]
                have HV' : Hid (∀ w, Calls Try.prog 19 #[.agg #[.int .i64 x1, .int .i64 x2]] w (Ret w (.agg #[.int .i64 vk, .int .i64 vn]))) := fun w => by rw [← hvk, ← hvn]; exact val_calls x1 x2 w hrx.1.1 hrx.1.2 hrx.2.1 hrx.2.2
                have HW : Hid (∀ w, Calls Try.prog 34 #[.agg #[.int .i64 vk, .int .i64 vn]] w (Ret w (.int .u64 fw))) := fun w => by rw [← hfw, hfl]; exact ref01Word_calls vk vn w
                clear hfl hvk hvn hx hr hcell hfw hrx
                have H1 := HB.alloc (.cells #[.int .i64 0, .int .i64 0] 24)
                have tk1 : True := trivial
                go_wp2_with (first | (go_at_call 19; (with_reducible refine (HV'.out _).mono ?_); rintro e w2 ⟨rfl, hb⟩; have K2 := H1.kept hb; have hc2 := K2.cells; have hf2 := K2.frees; have s2 : Hid (Strm wr w2) := ((Strm.refl wr).alloc _).trans (Strm.below hb); have K2' := (K2.set 0 (.int .i64 vk)).set 1 (.int .i64 vn); have hz : wr.heap.size < w2.heap.size := (by (have := hb.size; simp at this; omega)); clear hb) | (go_at_call 34; have _t := tk1; (with_reducible refine (HW.out _).mono ?_); rintro e w3 ⟨rfl, hb⟩; have K3 := K2'.kept hb; have hc3 := K3.cells; have s3 : Hid (Strm wr w3) := ((s2.out.set _ _).set _ _).trans (Strm.below hb); clear tk1 hb) | (go_at_call 31; (refine (S1.out _ (pt wr.heap.size (.cells #[.int .i64 vk, .int .i64 vn] 24 (0, 0)) * (MemP 52 yb (laidM tags l (4 * k + 1 + f)) * R)) (K3.cast (by simp only [List.setIfInBounds_toArray, List.set_cons_succ, List.set_cons_zero]; unfold Both; ac_rfl))).mono ?_); rintro e w4 ⟨rfl, K4, s4⟩; have K4' := K4.cast (Q := pt wr.heap.size (.cells #[.int .i64 vk, .int .i64 vn] 24 (0, 0)) * (MemP 120 mb (laidM tags l (4 * k + 1 + (f + 1))) * (MemP 52 yb (laidM tags l (4 * k + 1 + f)) * R))) (by ac_rfl); have hc4 := K4'.cells) | (go_at_call 34; (with_reducible refine (HW.out _).mono ?_); rintro e w5 ⟨rfl, hb⟩; have K5 := K4.kept hb; have s5 : Hid (Strm w4 w5) := Strm.below hb; clear hb) | (go_at_call 33; (refine (S2.out _ (pt wr.heap.size (.cells #[.int .i64 vk, .int .i64 vn] 24 (0, 0)) * (MemP 120 mb (laidM tags l (4 * k + 1 + (f + 1))) * R)) (K5.cast (by ac_rfl))).mono ?_); rintro e w6 ⟨rfl, K6, s6⟩))
                refine ⟨⟨f + 1, by omega, by go_num, ?_, ?_⟩, by simp [intOf]; omega⟩
                · exact (K6.cast (Q := pt wr.heap.size (.cells #[.int .i64 vk, .int .i64 vn] 24 (0, 0)) * (Both mb yb (laidM tags l (4 * k + 1 + (f + 1))) R)) (by unfold Both; ac_rfl)).drop
                · exact (((sr.trans s3.out).trans s4).trans s5.out).trans s6
              · obtain ⟨vk, hvk⟩ : ∃ vk : Int, 0 = vk := ⟨_, rfl⟩
                obtain ⟨vn, hvn⟩ : ∃ vn : Int, 0 = vn := ⟨_, rfl⟩
                have hfl : fldAt l (3 * k + f) = (vk, vn) := by unfold fldAt; rw [if_neg hj, ← hvk, ← hvn]
                have HW : Hid (∀ w, Calls Try.prog 34 #[.agg #[.int .i64 vk, .int .i64 vn]] w (Ret w (.int .u64 fw))) := fun w => by rw [← hfw, hfl]; exact ref01Word_calls vk vn w
                clear hfl hfw
                subst hvk hvn
                have H1 := HB.alloc (.cells #[.int .i64 0, .int .i64 0] 24)
                have tk1 : True := trivial
                go_wp2_with (first | (go_at_call 34; have _t := tk1; (with_reducible refine (HW.out _).mono ?_); rintro e w3 ⟨rfl, hb⟩; have K3 := H1.kept hb; have hc3 := K3.cells; have s3 : Hid (Strm wr w3) := ((Strm.refl wr).alloc _).trans (Strm.below hb); clear tk1 hb) | (go_at_call 31; (refine (S1.out _ (pt wr.heap.size (.cells #[.int .i64 0, .int .i64 0] 24 (0, 0)) * (MemP 52 yb (laidM tags l (4 * k + 1 + f)) * R)) (K3.cast (by unfold Both; ac_rfl))).mono ?_); rintro e w4 ⟨rfl, K4, s4⟩; have K4' := K4.cast (Q := pt wr.heap.size (.cells #[.int .i64 0, .int .i64 0] 24 (0, 0)) * (MemP 120 mb (laidM tags l (4 * k + 1 + (f + 1))) * (MemP 52 yb (laidM tags l (4 * k + 1 + f)) * R))) (by ac_rfl); have hc4 := K4'.cells) | (go_at_call 34; (with_reducible refine (HW.out _).mono ?_); rintro e w5 ⟨rfl, hb⟩; have K5 := K4.kept hb; have s5 : Hid (Strm w4 w5) := Strm.below hb; clear hb) | (go_at_call 33; (refine (S2.out _ (pt wr.heap.size (.cells #[.int .i64 0, .int .i64 0] 24 (0, 0)) * (MemP 120 mb (laidM tags l (4 * k + 1 + (f + 1))) * R)) (K5.cast (by ac_rfl))).mono ?_); rintro e w6 ⟨rfl, K6, s6⟩))
                refine ⟨⟨f + 1, by omega, by go_num, ?_, ?_⟩, by simp [intOf]; omega⟩
                · exact (K6.cast (Q := pt wr.heap.size (.cells #[.int .i64 0, .int .i64 0] 24 (0, 0)) * (Both mb yb (laidM tags l (4 * k + 1 + (f + 1))) R)) (by unfold Both; ac_rfl)).drop
                · exact (((sr.trans s3.out).trans s4).trans s5.out).trans s6
            · go_wp2_with fail
              go_roundw
              case rel => exact ⟨k + 1, by omega, by go_num, by rw [show 4 * (k + 1) = 4 * k + 1 + f by omega]; exact HB, sr⟩
              case measure => simp [intOf]; omega
    · go_wp2_with fail
      go_ret2
      exact ⟨mb, yb, rfl, by rw [show 64 = 4 * k by omega]; exact HB, sr⟩
end Go.Proofs.Ytfapicccijbanaa.Mem
