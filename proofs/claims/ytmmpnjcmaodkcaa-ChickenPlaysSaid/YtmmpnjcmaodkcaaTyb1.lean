/- What is proved: two machines go the same steps from some of their joint states, and tell the same there. Conditions: none. -/
import Derived.Test.YtmmpnjcmaodkcaaTya
namespace Go.Proofs.Ytmmpnjcmaodkcaa.Ef
set_option maxRecDepth 100000
set_option linter.unusedVariables false
theorem z0_50 : BZ0 50 j0_50 = true := by kernel_rfl
theorem h0_50 : BH0 j0_50 = true := by kernel_rfl
theorem r0_50 : BR0 j0_50 = true := by kernel_rfl
theorem z0_51 : BZ0 51 j0_51 = true := by kernel_rfl
theorem h0_51 : BH0 j0_51 = true := by kernel_rfl
theorem r0_51 : BR0 j0_51 = true := by kernel_rfl
theorem z0_52 : BZ0 52 j0_52 = true := by kernel_rfl
theorem h0_52 : BH0 j0_52 = true := by kernel_rfl
theorem r0_52 : BR0 j0_52 = true := by kernel_rfl
theorem z0_53 : BZ0 53 j0_53 = true := by kernel_rfl
theorem h0_53 : BH0 j0_53 = true := by kernel_rfl
theorem r0_53 : BR0 j0_53 = true := by kernel_rfl
theorem z0_54 : BZ0 54 j0_54 = true := by kernel_rfl
theorem h0_54 : BH0 j0_54 = true := by kernel_rfl
theorem r0_54 : BR0 j0_54 = true := by kernel_rfl
theorem z0_55 : BZ0 55 j0_55 = true := by kernel_rfl
theorem h0_55 : BH0 j0_55 = true := by kernel_rfl
theorem r0_55 : BR0 j0_55 = true := by kernel_rfl
theorem z0_56 : BZ0 56 j0_56 = true := by kernel_rfl
theorem h0_56 : BH0 j0_56 = true := by kernel_rfl
theorem r0_56 : BR0 j0_56 = true := by kernel_rfl
theorem z0_57 : BZ0 57 j0_57 = true := by kernel_rfl
theorem h0_57 : BH0 j0_57 = true := by kernel_rfl
theorem r0_57 : BR0 j0_57 = true := by kernel_rfl
theorem z0_58 : BZ0 58 j0_58 = true := by kernel_rfl
theorem h0_58 : BH0 j0_58 = true := by kernel_rfl
theorem r0_58 : BR0 j0_58 = true := by kernel_rfl
theorem z0_59 : BZ0 59 j0_59 = true := by kernel_rfl
theorem h0_59 : BH0 j0_59 = true := by kernel_rfl
theorem r0_59 : BR0 j0_59 = true := by kernel_rfl
theorem z0_60 : BZ0 60 j0_60 = true := by kernel_rfl
theorem h0_60 : BH0 j0_60 = true := by kernel_rfl
theorem r0_60 : BR0 j0_60 = true := by kernel_rfl
theorem z0_61 : BZ0 61 j0_61 = true := by kernel_rfl
theorem h0_61 : BH0 j0_61 = true := by kernel_rfl
theorem r0_61 : BR0 j0_61 = true := by kernel_rfl
theorem z0_62 : BZ0 62 j0_62 = true := by kernel_rfl
theorem h0_62 : BH0 j0_62 = true := by kernel_rfl
theorem r0_62 : BR0 j0_62 = true := by kernel_rfl
theorem z0_63 : BZ0 63 j0_63 = true := by kernel_rfl
theorem h0_63 : BH0 j0_63 = true := by kernel_rfl
theorem r0_63 : BR0 j0_63 = true := by kernel_rfl
theorem z0_64 : BZ0 64 j0_64 = true := by kernel_rfl
theorem h0_64 : BH0 j0_64 = true := by kernel_rfl
theorem r0_64 : BR0 j0_64 = true := by kernel_rfl
theorem z0_65 : BZ0 65 j0_65 = true := by kernel_rfl
theorem h0_65 : BH0 j0_65 = true := by kernel_rfl
theorem r0_65 : BR0 j0_65 = true := by kernel_rfl
theorem z0_66 : BZ0 66 j0_66 = true := by kernel_rfl
theorem h0_66 : BH0 j0_66 = true := by kernel_rfl
theorem r0_66 : BR0 j0_66 = true := by kernel_rfl
theorem z0_67 : BZ0 67 j0_67 = true := by kernel_rfl
theorem h0_67 : BH0 j0_67 = true := by kernel_rfl
theorem r0_67 : BR0 j0_67 = true := by kernel_rfl
theorem z0_68 : BZ0 68 j0_68 = true := by kernel_rfl
theorem h0_68 : BH0 j0_68 = true := by kernel_rfl
theorem r0_68 : BR0 j0_68 = true := by kernel_rfl
theorem z0_69 : BZ0 69 j0_69 = true := by kernel_rfl
theorem h0_69 : BH0 j0_69 = true := by kernel_rfl
theorem r0_69 : BR0 j0_69 = true := by kernel_rfl
theorem z0_70 : BZ0 70 j0_70 = true := by kernel_rfl
theorem h0_70 : BH0 j0_70 = true := by kernel_rfl
theorem r0_70 : BR0 j0_70 = true := by kernel_rfl
theorem z0_71 : BZ0 71 j0_71 = true := by kernel_rfl
theorem h0_71 : BH0 j0_71 = true := by kernel_rfl
theorem r0_71 : BR0 j0_71 = true := by kernel_rfl
theorem z0_72 : BZ0 72 j0_72 = true := by kernel_rfl
theorem h0_72 : BH0 j0_72 = true := by kernel_rfl
theorem r0_72 : BR0 j0_72 = true := by kernel_rfl
theorem z0_73 : BZ0 73 j0_73 = true := by kernel_rfl
theorem h0_73 : BH0 j0_73 = true := by kernel_rfl
theorem r0_73 : BR0 j0_73 = true := by kernel_rfl
theorem z0_74 : BZ0 74 j0_74 = true := by kernel_rfl
theorem h0_74 : BH0 j0_74 = true := by kernel_rfl
theorem r0_74 : BR0 j0_74 = true := by kernel_rfl
theorem z0_75 : BZ0 75 j0_75 = true := by kernel_rfl
theorem h0_75 : BH0 j0_75 = true := by kernel_rfl
theorem r0_75 : BR0 j0_75 = true := by kernel_rfl
theorem z0_76 : BZ0 76 j0_76 = true := by kernel_rfl
theorem h0_76 : BH0 j0_76 = true := by kernel_rfl
theorem r0_76 : BR0 j0_76 = true := by kernel_rfl
theorem z0_77 : BZ0 77 j0_77 = true := by kernel_rfl
theorem h0_77 : BH0 j0_77 = true := by kernel_rfl
theorem r0_77 : BR0 j0_77 = true := by kernel_rfl
theorem z0_78 : BZ0 78 j0_78 = true := by kernel_rfl
theorem h0_78 : BH0 j0_78 = true := by kernel_rfl
theorem r0_78 : BR0 j0_78 = true := by kernel_rfl
theorem z0_79 : BZ0 79 j0_79 = true := by kernel_rfl
theorem h0_79 : BH0 j0_79 = true := by kernel_rfl
theorem r0_79 : BR0 j0_79 = true := by kernel_rfl
theorem z0_80 : BZ0 80 j0_80 = true := by kernel_rfl
theorem h0_80 : BH0 j0_80 = true := by kernel_rfl
theorem r0_80 : BR0 j0_80 = true := by kernel_rfl
theorem z0_81 : BZ0 81 j0_81 = true := by kernel_rfl
theorem h0_81 : BH0 j0_81 = true := by kernel_rfl
theorem r0_81 : BR0 j0_81 = true := by kernel_rfl
theorem z0_82 : BZ0 82 j0_82 = true := by kernel_rfl
theorem h0_82 : BH0 j0_82 = true := by kernel_rfl
theorem r0_82 : BR0 j0_82 = true := by kernel_rfl
theorem z0_83 : BZ0 83 j0_83 = true := by kernel_rfl
theorem h0_83 : BH0 j0_83 = true := by kernel_rfl
theorem r0_83 : BR0 j0_83 = true := by kernel_rfl
theorem z0_84 : BZ0 84 j0_84 = true := by kernel_rfl
theorem h0_84 : BH0 j0_84 = true := by kernel_rfl
theorem r0_84 : BR0 j0_84 = true := by kernel_rfl
theorem z0_85 : BZ0 85 j0_85 = true := by kernel_rfl
theorem h0_85 : BH0 j0_85 = true := by kernel_rfl
theorem r0_85 : BR0 j0_85 = true := by kernel_rfl
theorem z0_86 : BZ0 86 j0_86 = true := by kernel_rfl
theorem h0_86 : BH0 j0_86 = true := by kernel_rfl
theorem r0_86 : BR0 j0_86 = true := by kernel_rfl
theorem z0_87 : BZ0 87 j0_87 = true := by kernel_rfl
theorem h0_87 : BH0 j0_87 = true := by kernel_rfl
theorem r0_87 : BR0 j0_87 = true := by kernel_rfl
theorem z0_88 : BZ0 88 j0_88 = true := by kernel_rfl
theorem h0_88 : BH0 j0_88 = true := by kernel_rfl
theorem r0_88 : BR0 j0_88 = true := by kernel_rfl
theorem z0_89 : BZ0 89 j0_89 = true := by kernel_rfl
theorem h0_89 : BH0 j0_89 = true := by kernel_rfl
theorem r0_89 : BR0 j0_89 = true := by kernel_rfl
theorem z0_90 : BZ0 90 j0_90 = true := by kernel_rfl
theorem h0_90 : BH0 j0_90 = true := by kernel_rfl
theorem r0_90 : BR0 j0_90 = true := by kernel_rfl
theorem z0_91 : BZ0 91 j0_91 = true := by kernel_rfl
theorem h0_91 : BH0 j0_91 = true := by kernel_rfl
theorem r0_91 : BR0 j0_91 = true := by kernel_rfl
theorem z0_92 : BZ0 92 j0_92 = true := by kernel_rfl
theorem h0_92 : BH0 j0_92 = true := by kernel_rfl
theorem r0_92 : BR0 j0_92 = true := by kernel_rfl
theorem z0_93 : BZ0 93 j0_93 = true := by kernel_rfl
theorem h0_93 : BH0 j0_93 = true := by kernel_rfl
theorem r0_93 : BR0 j0_93 = true := by kernel_rfl
theorem z0_94 : BZ0 94 j0_94 = true := by kernel_rfl
theorem h0_94 : BH0 j0_94 = true := by kernel_rfl
theorem r0_94 : BR0 j0_94 = true := by kernel_rfl
theorem z0_95 : BZ0 95 j0_95 = true := by kernel_rfl
theorem h0_95 : BH0 j0_95 = true := by kernel_rfl
theorem r0_95 : BR0 j0_95 = true := by kernel_rfl
theorem z0_96 : BZ0 96 j0_96 = true := by kernel_rfl
theorem h0_96 : BH0 j0_96 = true := by kernel_rfl
theorem r0_96 : BR0 j0_96 = true := by kernel_rfl
theorem z0_97 : BZ0 97 j0_97 = true := by kernel_rfl
theorem h0_97 : BH0 j0_97 = true := by kernel_rfl
theorem r0_97 : BR0 j0_97 = true := by kernel_rfl
theorem z0_98 : BZ0 98 j0_98 = true := by kernel_rfl
theorem h0_98 : BH0 j0_98 = true := by kernel_rfl
theorem r0_98 : BR0 j0_98 = true := by kernel_rfl
theorem z0_99 : BZ0 99 j0_99 = true := by kernel_rfl
theorem h0_99 : BH0 j0_99 = true := by kernel_rfl
theorem r0_99 : BR0 j0_99 = true := by kernel_rfl
end Go.Proofs.Ytmmpnjcmaodkcaa.Ef
