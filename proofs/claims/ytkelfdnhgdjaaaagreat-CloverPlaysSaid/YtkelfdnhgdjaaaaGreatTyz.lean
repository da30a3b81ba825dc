/- What is proved: what the symbols of the closed machines mean; their contracts. Conditions: none. -/
import Derived.Test.YtkelfdnhgdjaaaaGreatTyb0
import Derived.Test.YtkelfdnhgdjaaaaGreatTyb1
import Derived.Test.YtkelfdnhgdjaaaaGreatTyb2
import Derived.Test.YtkelfdnhgdjaaaaGreatTyb3
import Derived.Test.YtkelfdnhgdjaaaaGreatTyb4
import Derived.Test.YtkelfdnhgdjaaaaGreatTyb5
import Derived.Test.YtkelfdnhgdjaaaaGreatTyy
namespace Go.Proofs.YtkelfdnhgdjaaaaGreat.Ef
open Go Go.RowKit Go.Proofs.YtkelfdnhgdjaaaaGreat.Sep Go.Proofs.YtkelfdnhgdjaaaaGreat.Num Go.Proofs.YtkelfdnhgdjaaaaGreat.Mem
open Go.Proofs.YtkelfdnhgdjaaaaGreat.Ev (Fast)
set_option maxRecDepth 100000
set_option linter.unusedVariables false
set_option linter.unusedSectionVars false
theorem hz0 : ∀ (i : Nat) (J : JP), js0[i]? = some J → CZ0 i J := fun i J h => by
  have := allZ_ok (p := CZ0) (l := js0) (k := 0) ⟨z0_0, z0_1, z0_2, z0_3, z0_4, z0_5, z0_6, z0_7, z0_8, z0_9, z0_10, z0_11, z0_12, z0_13, z0_14, z0_15, z0_16, z0_17, z0_18, z0_19, z0_20, z0_21, z0_22, z0_23, z0_24, z0_25, z0_26, z0_27, z0_28, z0_29, z0_30, z0_31, z0_32, z0_33, z0_34, z0_35, z0_36, z0_37, z0_38, z0_39, z0_40, z0_41, z0_42, z0_43, z0_44, z0_45, z0_46, z0_47, z0_48, z0_49, z0_50, z0_51, z0_52, z0_53, z0_54, z0_55, z0_56, z0_57, z0_58, z0_59, z0_60, z0_61, z0_62, z0_63, z0_64, z0_65, z0_66, z0_67, z0_68, z0_69, z0_70, z0_71, z0_72, z0_73, z0_74, z0_75, z0_76, z0_77, z0_78, z0_79, z0_80, z0_81, z0_82, z0_83, z0_84, z0_85, z0_86, z0_87, z0_88, z0_89, z0_90, z0_91, z0_92, z0_93, z0_94, z0_95, z0_96, z0_97, z0_98, z0_99, z0_100, z0_101, z0_102, z0_103, z0_104, z0_105, z0_106, z0_107, z0_108, z0_109, z0_110, z0_111, z0_112, z0_113, z0_114, z0_115, z0_116, z0_117, z0_118, z0_119, z0_120, z0_121, z0_122, z0_123, z0_124, z0_125, z0_126, z0_127, z0_128, z0_129, z0_130, z0_131, z0_132, z0_133, z0_134, z0_135, z0_136, z0_137, z0_138, z0_139, z0_140, z0_141, z0_142, z0_143, z0_144, z0_145, z0_146, z0_147, z0_148, z0_149, z0_150, z0_151, z0_152, z0_153, z0_154, z0_155, z0_156, z0_157, z0_158, z0_159, z0_160, z0_161, z0_162, z0_163, z0_164, z0_165, z0_166, z0_167, z0_168, z0_169, z0_170, z0_171, z0_172, z0_173, z0_174, z0_175, z0_176, z0_177, z0_178, z0_179, z0_180, z0_181, z0_182, z0_183, z0_184, z0_185, z0_186, z0_187, z0_188, z0_189, z0_190, z0_191, z0_192, z0_193, z0_194, z0_195, z0_196, z0_197, z0_198, z0_199, z0_200, z0_201, z0_202, z0_203, z0_204, z0_205, z0_206, z0_207, z0_208, z0_209, z0_210, z0_211, z0_212, z0_213, z0_214, z0_215, z0_216, z0_217, z0_218, z0_219, z0_220, z0_221, z0_222, z0_223, z0_224, z0_225, z0_226, z0_227, z0_228, z0_229, z0_230, z0_231, z0_232, z0_233, z0_234, z0_235, z0_236, z0_237, z0_238, z0_239, z0_240, z0_241, z0_242, z0_243, z0_244, z0_245, z0_246, z0_247, z0_248, z0_249, z0_250, z0_251, z0_252, z0_253, z0_254, z0_255, z0_256, z0_257, z0_258, z0_259, z0_260, z0_261, z0_262, z0_263, z0_264, z0_265, z0_266, z0_267, z0_268, z0_269, z0_270, z0_271, z0_272, z0_273, z0_274, z0_275, z0_276, z0_277, z0_278, z0_279, z0_280, z0_281, z0_282, z0_283, z0_284, z0_285, z0_286, z0_287, z0_288, z0_289, z0_290, z0_291, z0_292, z0_293, z0_294, z0_295, z0_296, z0_297, z0_298, z0_299, z0_300, z0_301, z0_302, z0_303, z0_304, z0_305, z0_306, z0_307, z0_308, z0_309, z0_310, z0_311, z0_312, z0_313, z0_314, z0_315, z0_316, z0_317, z0_318, z0_319, z0_320, z0_321, z0_322, z0_323, z0_324, z0_325, trivial⟩ i J h
  rwa [Nat.zero_add] at this
theorem hh0 : ∀ (i : Nat) (J : JP), js0[i]? = some J → CH0 J := fun i J h => allZ_ok (p := fun _ J => CH0 J) (l := js0) (k := 0) ⟨h0_0, h0_1, h0_2, h0_3, h0_4, h0_5, h0_6, h0_7, h0_8, h0_9, h0_10, h0_11, h0_12, h0_13, h0_14, h0_15, h0_16, h0_17, h0_18, h0_19, h0_20, h0_21, h0_22, h0_23, h0_24, h0_25, h0_26, h0_27, h0_28, h0_29, h0_30, h0_31, h0_32, h0_33, h0_34, h0_35, h0_36, h0_37, h0_38, h0_39, h0_40, h0_41, h0_42, h0_43, h0_44, h0_45, h0_46, h0_47, h0_48, h0_49, h0_50, h0_51, h0_52, h0_53, h0_54, h0_55, h0_56, h0_57, h0_58, h0_59, h0_60, h0_61, h0_62, h0_63, h0_64, h0_65, h0_66, h0_67, h0_68, h0_69, h0_70, h0_71, h0_72, h0_73, h0_74, h0_75, h0_76, h0_77, h0_78, h0_79, h0_80, h0_81, h0_82, h0_83, h0_84, h0_85, h0_86, h0_87, h0_88, h0_89, h0_90, h0_91, h0_92, h0_93, h0_94, h0_95, h0_96, h0_97, h0_98, h0_99, h0_100, h0_101, h0_102, h0_103, h0_104, h0_105, h0_106, h0_107, h0_108, h0_109, h0_110, h0_111, h0_112, h0_113, h0_114, h0_115, h0_116, h0_117, h0_118, h0_119, h0_120, h0_121, h0_122, h0_123, h0_124, h0_125, h0_126, h0_127, h0_128, h0_129, h0_130, h0_131, h0_132, h0_133, h0_134, h0_135, h0_136, h0_137, h0_138, h0_139, h0_140, h0_141, h0_142, h0_143, h0_144, h0_145, h0_146, h0_147, h0_148, h0_149, h0_150, h0_151, h0_152, h0_153, h0_154, h0_155, h0_156, h0_157, h0_158, h0_159, h0_160, h0_161, h0_162, h0_163, h0_164, h0_165, h0_166, h0_167, h0_168, h0_169, h0_170, h0_171, h0_172, h0_173, h0_174, h0_175, h0_176, h0_177, h0_178, h0_179, h0_180, h0_181, h0_182, h0_183, h0_184, h0_185, h0_186, h0_187, h0_188, h0_189, h0_190, h0_191, h0_192, h0_193, h0_194, h0_195, h0_196, h0_197, h0_198, h0_199, h0_200, h0_201, h0_202, h0_203, h0_204, h0_205, h0_206, h0_207, h0_208, h0_209, h0_210, h0_211, h0_212, h0_213, h0_214, h0_215, h0_216, h0_217, h0_218, h0_219, h0_220, h0_221, h0_222, h0_223, h0_224, h0_225, h0_226, h0_227, h0_228, h0_229, h0_230, h0_231, h0_232, h0_233, h0_234, h0_235, h0_236, h0_237, h0_238, h0_239, h0_240, h0_241, h0_242, h0_243, h0_244, h0_245, h0_246, h0_247, h0_248, h0_249, h0_250, h0_251, h0_252, h0_253, h0_254, h0_255, h0_256, h0_257, h0_258, h0_259, h0_260, h0_261, h0_262, h0_263, h0_264, h0_265, h0_266, h0_267, h0_268, h0_269, h0_270, h0_271, h0_272, h0_273, h0_274, h0_275, h0_276, h0_277, h0_278, h0_279, h0_280, h0_281, h0_282, h0_283, h0_284, h0_285, h0_286, h0_287, h0_288, h0_289, h0_290, h0_291, h0_292, h0_293, h0_294, h0_295, h0_296, h0_297, h0_298, h0_299, h0_300, h0_301, h0_302, h0_303, h0_304, h0_305, h0_306, h0_307, h0_308, h0_309, h0_310, h0_311, h0_312, h0_313, h0_314, h0_315, h0_316, h0_317, h0_318, h0_319, h0_320, h0_321, h0_322, h0_323, h0_324, h0_325, trivial⟩ i J h
theorem hr0 : ∀ (i : Nat) (J : JP), js0[i]? = some J → CR0 J := fun i J h => allZ_ok (p := fun _ J => CR0 J) (l := js0) (k := 0) ⟨r0_0, r0_1, r0_2, r0_3, r0_4, r0_5, r0_6, r0_7, r0_8, r0_9, r0_10, r0_11, r0_12, r0_13, r0_14, r0_15, r0_16, r0_17, r0_18, r0_19, r0_20, r0_21, r0_22, r0_23, r0_24, r0_25, r0_26, r0_27, r0_28, r0_29, r0_30, r0_31, r0_32, r0_33, r0_34, r0_35, r0_36, r0_37, r0_38, r0_39, r0_40, r0_41, r0_42, r0_43, r0_44, r0_45, r0_46, r0_47, r0_48, r0_49, r0_50, r0_51, r0_52, r0_53, r0_54, r0_55, r0_56, r0_57, r0_58, r0_59, r0_60, r0_61, r0_62, r0_63, r0_64, r0_65, r0_66, r0_67, r0_68, r0_69, r0_70, r0_71, r0_72, r0_73, r0_74, r0_75, r0_76, r0_77, r0_78, r0_79, r0_80, r0_81, r0_82, r0_83, r0_84, r0_85, r0_86, r0_87, r0_88, r0_89, r0_90, r0_91, r0_92, r0_93, r0_94, r0_95, r0_96, r0_97, r0_98, r0_99, r0_100, r0_101, r0_102, r0_103, r0_104, r0_105, r0_106, r0_107, r0_108, r0_109, r0_110, r0_111, r0_112, r0_113, r0_114, r0_115, r0_116, r0_117, r0_118, r0_119, r0_120, r0_121, r0_122, r0_123, r0_124, r0_125, r0_126, r0_127, r0_128, r0_129, r0_130, r0_131, r0_132, r0_133, r0_134, r0_135, r0_136, r0_137, r0_138, r0_139, r0_140, r0_141, r0_142, r0_143, r0_144, r0_145, r0_146, r0_147, r0_148, r0_149, r0_150, r0_151, r0_152, r0_153, r0_154, r0_155, r0_156, r0_157, r0_158, r0_159, r0_160, r0_161, r0_162, r0_163, r0_164, r0_165, r0_166, r0_167, r0_168, r0_169, r0_170, r0_171, r0_172, r0_173, r0_174, r0_175, r0_176, r0_177, r0_178, r0_179, r0_180, r0_181, r0_182, r0_183, r0_184, r0_185, r0_186, r0_187, r0_188, r0_189, r0_190, r0_191, r0_192, r0_193, r0_194, r0_195, r0_196, r0_197, r0_198, r0_199, r0_200, r0_201, r0_202, r0_203, r0_204, r0_205, r0_206, r0_207, r0_208, r0_209, r0_210, r0_211, r0_212, r0_213, r0_214, r0_215, r0_216, r0_217, r0_218, r0_219, r0_220, r0_221, r0_222, r0_223, r0_224, r0_225, r0_226, r0_227, r0_228, r0_229, r0_230, r0_231, r0_232, r0_233, r0_234, r0_235, r0_236, r0_237, r0_238, r0_239, r0_240, r0_241, r0_242, r0_243, r0_244, r0_245, r0_246, r0_247, r0_248, r0_249, r0_250, r0_251, r0_252, r0_253, r0_254, r0_255, r0_256, r0_257, r0_258, r0_259, r0_260, r0_261, r0_262, r0_263, r0_264, r0_265, r0_266, r0_267, r0_268, r0_269, r0_270, r0_271, r0_272, r0_273, r0_274, r0_275, r0_276, r0_277, r0_278, r0_279, r0_280, r0_281, r0_282, r0_283, r0_284, r0_285, r0_286, r0_287, r0_288, r0_289, r0_290, r0_291, r0_292, r0_293, r0_294, r0_295, r0_296, r0_297, r0_298, r0_299, r0_300, r0_301, r0_302, r0_303, r0_304, r0_305, r0_306, r0_307, r0_308, r0_309, r0_310, r0_311, r0_312, r0_313, r0_314, r0_315, r0_316, r0_317, r0_318, r0_319, r0_320, r0_321, r0_322, r0_323, r0_324, r0_325, trivial⟩ i J h
def rs0 : List Rdr := [⟨false, [none], .call 17, .load 4 26⟩, ⟨true, kOut, .call 18, .call 19⟩]
theorem ex0 : ∃ T : TwF, @ZSpec (withX ext0 xtraId) Tryz.prog js0 15 16 rs0 T :=
  @z_pair (withX ext0 xtraId) inferInstance _ _ _ _ _ (fun u W => @z_step (withX ext0 xtraId) inferInstance Tryz.prog _ (fun V => callZ_ok) js0 js0_ok _ _ _ hz0 u W) fun i r hi => by
    rcases i with _ | _ | i
    · cases hi; exact ⟨by decide, fun u => @z_read (withX ext0 xtraId) inferInstance Tryz.prog _ _ (fun V => callZ_ok) js0 js0_ok _ _ _ _ hh0 u⟩
    · cases hi; exact ⟨by decide, fun u => @z_read (withX ext0 xtraId) inferInstance Tryz.prog _ _ (fun V => callZ_ok) js0 js0_ok _ _ _ _ hr0 u⟩
    · exact absurd hi (by simp [rs0])
noncomputable def tw0 : TwF := Classical.choose ex0
theorem sp0 : @ZSpec (withX ext0 xtraId) Tryz.prog js0 15 16 rs0 tw0 := Classical.choose_spec ex0
noncomputable def twF : Nat → TwF
  | _ => tw0
def twT : Nat → List JP
  | _ => js0
noncomputable instance xtraT : Xtra := mkX (withX ext0 xtraId) twF twT
theorem abT_ok [Vars] : AbOk Tryz.prog := by
  have base := abL_ok Tryz.prog
  refine @AbOk.mk _ _ _ Tryz.prog _ (abT Tryz.prog) ?_ (fun h => base.inner_ok h) (fun h => base.opens_ok h) (fun h => base.stores_ok h)
  intro π t k x ns off ps v h hπ hps w R β b hw
  have h : tLoad Tryz.prog t k x ns off = some (ps, v) := h
  unfold tLoad at h
  rw [Bool.cond_eq_ite] at h
  split at h
  · split at h
    · rename_i o
      split at h
      · rename_i s hs
        cases h
        unfold ldT at hs
        rw [Bool.cond_eq_ite] at hs
        split at hs
        · rename_i hc
          simp only [Bool.and_eq_true] at hc
          obtain ⟨c1, c2, c3⟩ := hc
          cases Nat.eq_of_beq_eq_true c1
          cases Nat.eq_of_beq_eq_true c2
          cases Nat.eq_of_beq_eq_true c3
          cases hs
          exact ((@ZSpec.R (withX ext0 xtraId) _ _ _ _ _ _ sp0) 0 _ rfl x.den).2 w R b hw
        cases hs
      · cases h
    · cases h
  · exact base.load_ok h hπ hps hw
instance [Vars] : AbOk Tryz.prog := abT_ok
theorem callT_ok [Vars] : CallerOk Tryz.prog (callT Tryz.prog) := evF_ok noGos mixedOrders Γ2_ok
theorem Γn_ok [Vars] : CtrOk Tryz.prog (Γn Tryz.prog) := ctrCons_ok (cPre2_ok callT_ok [true, true] 14) <| ctrCons_ok (cPre2_ok callT_ok [true, true] 10) <| Γ2_ok
theorem callN_ok [Vars] : CallerOk Tryz.prog (callN Tryz.prog) := by
  intro f args s L β h ha htp w R hw Q hk
  unfold callN at h
  split at h
  · rename_i t ht
    exact Γn_ok f args s t ht L β h ha htp w R hw Q hk
  · exact callT_ok f args s L β h ha htp w R hw Q hk
theorem Γt_ok [Vars] : CtrOk Tryz.prog (Γt Tryz.prog) :=
  ctrCons_ok (cPre2_ok callT_ok [true, true] 10) <|
  ctrCons_ok (cTn_ok (E0 := ext0) (X := xtraT) xtraId js0_ok (fun u b => rfl) (fun u b => rfl) callN_ok) <|
  ctrCons_ok (cTw_ok (E0 := ext0) (X := xtraT) (T := tw0) rfl (fun u b => rfl) (fun u => rfl) (fun u => rfl) (fun u v => rfl) fun u W => (@ZSpec.A (withX ext0 xtraId) _ _ _ _ _ _ sp0) u W) <|
  ctrCons_ok (cTw_ok (E0 := ext0) (X := xtraT) (T := tw0) rfl (fun u b => rfl) (fun u => rfl) (fun u => rfl) (fun u v => rfl) fun u W => (@ZSpec.B (withX ext0 xtraId) _ _ _ _ _ _ sp0) u W) <|
  ctrCons_ok (cTr_ok (E0 := ext0) (X := xtraT) (G := fun u c => tw0.G u (4 * 0 + c)) (fun u b => rfl) (fun u k h => by cases k with | zero => rfl | succ k => exact absurd h (by simp)) fun u => ((@ZSpec.R (withX ext0 xtraId) _ _ _ _ _ _ sp0) 0 _ rfl u).1) <|
  ctrCons_ok (cTr_ok (E0 := ext0) (X := xtraT) (G := fun u c => tw0.G u (4 * 1 + c)) (fun u b => rfl) (fun u k h => by rcases k with _ | _ | _ | _ | k <;> first | rfl | exact absurd h (by simp [kOut])) fun u => ((@ZSpec.R (withX ext0 xtraId) _ _ _ _ _ _ sp0) 1 _ rfl u).1) <|
  ctrCons_ok (cTr_ok (E0 := ext0) (X := xtraT) (G := fun u c => tw0.G u (4 * 1 + c)) (fun u b => rfl) (fun u k h => by rcases k with _ | _ | _ | _ | k <;> first | rfl | exact absurd h (by simp [kOut])) fun u => ((@ZSpec.R (withX ext0 xtraId) _ _ _ _ _ _ sp0) 1 _ rfl u).2) <|
  Γ2_ok
end Go.Proofs.YtkelfdnhgdjaaaaGreat.Ef
