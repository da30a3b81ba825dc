/- What is proved: what the symbols of the closed machines mean; their contracts. Conditions: none. -/
import Derived.Test.YtmmpnjcmaodkcaaTyb0
import Derived.Test.YtmmpnjcmaodkcaaTyb1
import Derived.Test.YtmmpnjcmaodkcaaTyb2
import Derived.Test.YtmmpnjcmaodkcaaTyy
namespace Go.Proofs.Ytmmpnjcmaodkcaa.Ef
open Go Go.RowKit Go.Proofs.Ytmmpnjcmaodkcaa.Sep Go.Proofs.Ytmmpnjcmaodkcaa.Num Go.Proofs.Ytmmpnjcmaodkcaa.Mem
open Go.Proofs.Ytmmpnjcmaodkcaa.Ev (Fast)
set_option maxRecDepth 100000
set_option linter.unusedVariables false
set_option linter.unusedSectionVars false
theorem hz0 : ∀ (i : Nat) (J : JP), js0[i]? = some J → CZ0 i J := fun i J h => by
  have := allZ_ok (p := CZ0) (l := js0) (k := 0) ⟨z0_0, z0_1, z0_2, z0_3, z0_4, z0_5, z0_6, z0_7, z0_8, z0_9, z0_10, z0_11, z0_12, z0_13, z0_14, z0_15, z0_16, z0_17, z0_18, z0_19, z0_20, z0_21, z0_22, z0_23, z0_24, z0_25, z0_26, z0_27, z0_28, z0_29, z0_30, z0_31, z0_32, z0_33, z0_34, z0_35, z0_36, z0_37, z0_38, z0_39, z0_40, z0_41, z0_42, z0_43, z0_44, z0_45, z0_46, z0_47, z0_48, z0_49, z0_50, z0_51, z0_52, z0_53, z0_54, z0_55, z0_56, z0_57, z0_58, z0_59, z0_60, z0_61, z0_62, z0_63, z0_64, z0_65, z0_66, z0_67, z0_68, z0_69, z0_70, z0_71, z0_72, z0_73, z0_74, z0_75, z0_76, z0_77, z0_78, z0_79, z0_80, z0_81, z0_82, z0_83, z0_84, z0_85, z0_86, z0_87, z0_88, z0_89, z0_90, z0_91, z0_92, z0_93, z0_94, z0_95, z0_96, z0_97, z0_98, z0_99, z0_100, z0_101, z0_102, z0_103, z0_104, z0_105, z0_106, z0_107, z0_108, z0_109, z0_110, z0_111, z0_112, z0_113, z0_114, z0_115, z0_116, z0_117, z0_118, z0_119, z0_120, z0_121, z0_122, z0_123, z0_124, z0_125, z0_126, z0_127, z0_128, z0_129, z0_130, z0_131, z0_132, z0_133, z0_134, z0_135, z0_136, trivial⟩ i J h
  rwa [Nat.zero_add] at this
theorem hh0 : ∀ (i : Nat) (J : JP), js0[i]? = some J → CH0 J := fun i J h => allZ_ok (p := fun _ J => CH0 J) (l := js0) (k := 0) ⟨h0_0, h0_1, h0_2, h0_3, h0_4, h0_5, h0_6, h0_7, h0_8, h0_9, h0_10, h0_11, h0_12, h0_13, h0_14, h0_15, h0_16, h0_17, h0_18, h0_19, h0_20, h0_21, h0_22, h0_23, h0_24, h0_25, h0_26, h0_27, h0_28, h0_29, h0_30, h0_31, h0_32, h0_33, h0_34, h0_35, h0_36, h0_37, h0_38, h0_39, h0_40, h0_41, h0_42, h0_43, h0_44, h0_45, h0_46, h0_47, h0_48, h0_49, h0_50, h0_51, h0_52, h0_53, h0_54, h0_55, h0_56, h0_57, h0_58, h0_59, h0_60, h0_61, h0_62, h0_63, h0_64, h0_65, h0_66, h0_67, h0_68, h0_69, h0_70, h0_71, h0_72, h0_73, h0_74, h0_75, h0_76, h0_77, h0_78, h0_79, h0_80, h0_81, h0_82, h0_83, h0_84, h0_85, h0_86, h0_87, h0_88, h0_89, h0_90, h0_91, h0_92, h0_93, h0_94, h0_95, h0_96, h0_97, h0_98, h0_99, h0_100, h0_101, h0_102, h0_103, h0_104, h0_105, h0_106, h0_107, h0_108, h0_109, h0_110, h0_111, h0_112, h0_113, h0_114, h0_115, h0_116, h0_117, h0_118, h0_119, h0_120, h0_121, h0_122, h0_123, h0_124, h0_125, h0_126, h0_127, h0_128, h0_129, h0_130, h0_131, h0_132, h0_133, h0_134, h0_135, h0_136, trivial⟩ i J h
theorem hr0 : ∀ (i : Nat) (J : JP), js0[i]? = some J → CR0 J := fun i J h => allZ_ok (p := fun _ J => CR0 J) (l := js0) (k := 0) ⟨r0_0, r0_1, r0_2, r0_3, r0_4, r0_5, r0_6, r0_7, r0_8, r0_9, r0_10, r0_11, r0_12, r0_13, r0_14, r0_15, r0_16, r0_17, r0_18, r0_19, r0_20, r0_21, r0_22, r0_23, r0_24, r0_25, r0_26, r0_27, r0_28, r0_29, r0_30, r0_31, r0_32, r0_33, r0_34, r0_35, r0_36, r0_37, r0_38, r0_39, r0_40, r0_41, r0_42, r0_43, r0_44, r0_45, r0_46, r0_47, r0_48, r0_49, r0_50, r0_51, r0_52, r0_53, r0_54, r0_55, r0_56, r0_57, r0_58, r0_59, r0_60, r0_61, r0_62, r0_63, r0_64, r0_65, r0_66, r0_67, r0_68, r0_69, r0_70, r0_71, r0_72, r0_73, r0_74, r0_75, r0_76, r0_77, r0_78, r0_79, r0_80, r0_81, r0_82, r0_83, r0_84, r0_85, r0_86, r0_87, r0_88, r0_89, r0_90, r0_91, r0_92, r0_93, r0_94, r0_95, r0_96, r0_97, r0_98, r0_99, r0_100, r0_101, r0_102, r0_103, r0_104, r0_105, r0_106, r0_107, r0_108, r0_109, r0_110, r0_111, r0_112, r0_113, r0_114, r0_115, r0_116, r0_117, r0_118, r0_119, r0_120, r0_121, r0_122, r0_123, r0_124, r0_125, r0_126, r0_127, r0_128, r0_129, r0_130, r0_131, r0_132, r0_133, r0_134, r0_135, r0_136, trivial⟩ i J h
def rs0 : List Rdr := [⟨false, [none], .call 29, .load 4 16⟩, ⟨true, kOut, .call 14, .call 30⟩]
theorem ex0 : ∃ T : TwF, @ZSpec (withX ext0 xtraId) Try.prog js0 12 28 rs0 T :=
  @z_pair (withX ext0 xtraId) inferInstance _ _ _ _ _ (fun u W => @z_step (withX ext0 xtraId) inferInstance Try.prog _ (fun V => callZ_ok) js0 js0_ok _ _ _ hz0 u W) fun i r hi => by
    rcases i with _ | _ | i
    · cases hi; exact ⟨by decide, fun u => @z_read (withX ext0 xtraId) inferInstance Try.prog _ _ (fun V => callZ_ok) js0 js0_ok _ _ _ _ hh0 u⟩
    · cases hi; exact ⟨by decide, fun u => @z_read (withX ext0 xtraId) inferInstance Try.prog _ _ (fun V => callZ_ok) js0 js0_ok _ _ _ _ hr0 u⟩
    · exact absurd hi (by simp [rs0])
noncomputable def tw0 : TwF := Classical.choose ex0
theorem sp0 : @ZSpec (withX ext0 xtraId) Try.prog js0 12 28 rs0 tw0 := Classical.choose_spec ex0
noncomputable def twF : Nat → TwF
  | _ => tw0
def twT : Nat → List JP
  | _ => js0
noncomputable instance xtraT : Xtra := mkX (withX ext0 xtraId) twF twT
theorem abT_ok [Vars] : AbOk Try.prog := by
  have base := abL_ok Try.prog
  refine @AbOk.mk _ _ _ Try.prog _ (abT Try.prog) ?_ (fun h => base.inner_ok h) (fun h => base.opens_ok h) (fun h => base.stores_ok h)
  intro π t k x ns off ps v h hπ hps w R β b hw
  have h : tLoad Try.prog t k x ns off = some (ps, v) := h
  unfold tLoad at h
  rw [Bool.cond_eq_ite] at h
  split at h
  · split at h
    · rename_i o
      split at h
      · rename_i s hs
        cases h
        unfold ldT at hs
        rw [Bool.cond_eq_ite] at hs
        split at hs
        · rename_i hc
          simp only [Bool.and_eq_true] at hc
          obtain ⟨c1, c2, c3⟩ := hc
          cases Nat.eq_of_beq_eq_true c1
          cases Nat.eq_of_beq_eq_true c2
          cases Nat.eq_of_beq_eq_true c3
          cases hs
          exact ((@ZSpec.R (withX ext0 xtraId) _ _ _ _ _ _ sp0) 0 _ rfl x.den).2 w R b hw
        cases hs
      · cases h
    · cases h
  · exact base.load_ok h hπ hps hw
instance [Vars] : AbOk Try.prog := abT_ok
theorem callT_ok [Vars] : CallerOk Try.prog (callT Try.prog) := evF_ok noGos mixedOrders Γ2_ok
theorem Γn_ok [Vars] : CtrOk Try.prog (Γn Try.prog) := ctrCons_ok (cPre_ok callT_ok [false, true] 27) <| ctrCons_ok (cPre_ok callT_ok [false, true] 11) <| Γ2_ok
theorem callN_ok [Vars] : CallerOk Try.prog (callN Try.prog) := by
  intro f args s L β h ha htp w R hw Q hk
  unfold callN at h
  split at h
  · rename_i t ht
    exact Γn_ok f args s t ht L β h ha htp w R hw Q hk
  · exact callT_ok f args s L β h ha htp w R hw Q hk
theorem Γt_ok [Vars] : CtrOk Try.prog (Γt Try.prog) :=
  ctrCons_ok (cPre_ok callT_ok [false, true] 11) <|
  ctrCons_ok (cTn_ok (E0 := ext0) (X := xtraT) xtraId js0_ok (fun u b => rfl) (fun u b => rfl) callN_ok) <|
  ctrCons_ok (cTw_ok (E0 := ext0) (X := xtraT) (T := tw0) rfl (fun u b => rfl) (fun u => rfl) (fun u => rfl) (fun u v => rfl) fun u W => (@ZSpec.A (withX ext0 xtraId) _ _ _ _ _ _ sp0) u W) <|
  ctrCons_ok (cTw_ok (E0 := ext0) (X := xtraT) (T := tw0) rfl (fun u b => rfl) (fun u => rfl) (fun u => rfl) (fun u v => rfl) fun u W => (@ZSpec.B (withX ext0 xtraId) _ _ _ _ _ _ sp0) u W) <|
  ctrCons_ok (cTr_ok (E0 := ext0) (X := xtraT) (G := fun u c => tw0.G u (4 * 0 + c)) (fun u b => rfl) (fun u k h => by cases k with | zero => rfl | succ k => exact absurd h (by simp)) fun u => ((@ZSpec.R (withX ext0 xtraId) _ _ _ _ _ _ sp0) 0 _ rfl u).1) <|
  ctrCons_ok (cTr_ok (E0 := ext0) (X := xtraT) (G := fun u c => tw0.G u (4 * 1 + c)) (fun u b => rfl) (fun u k h => by rcases k with _ | _ | _ | _ | k <;> first | rfl | exact absurd h (by simp [kOut])) fun u => ((@ZSpec.R (withX ext0 xtraId) _ _ _ _ _ _ sp0) 1 _ rfl u).1) <|
  ctrCons_ok (cTr_ok (E0 := ext0) (X := xtraT) (G := fun u c => tw0.G u (4 * 1 + c)) (fun u b => rfl) (fun u k h => by rcases k with _ | _ | _ | _ | k <;> first | rfl | exact absurd h (by simp [kOut])) fun u => ((@ZSpec.R (withX ext0 xtraId) _ _ _ _ _ _ sp0) 1 _ rfl u).2) <|
  Γ2_ok
end Go.Proofs.Ytmmpnjcmaodkcaa.Ef
