/- What is proved: two machines go the same steps from some of their joint states, and tell the same there. Conditions: none. -/
import Derived.Test.YtkelfdnhgdjaaaaGreatTya
namespace Go.Proofs.YtkelfdnhgdjaaaaGreat.Ef
set_option maxRecDepth 100000
set_option linter.unusedVariables false
theorem z0_60 : BZ0 60 j0_60 = true := by kernel_rfl
theorem h0_60 : BH0 j0_60 = true := by kernel_rfl
theorem r0_60 : BR0 j0_60 = true := by kernel_rfl
theorem z0_61 : BZ0 61 j0_61 = true := by kernel_rfl
theorem h0_61 : BH0 j0_61 = true := by kernel_rfl
theorem r0_61 : BR0 j0_61 = true := by kernel_rfl
theorem z0_62 : BZ0 62 j0_62 = true := by kernel_rfl
theorem h0_62 : BH0 j0_62 = true := by kernel_rfl
theorem r0_62 : BR0 j0_62 = true := by kernel_rfl
theorem z0_63 : BZ0 63 j0_63 = true := by kernel_rfl
theorem h0_63 : BH0 j0_63 = true := by kernel_rfl
theorem r0_63 : BR0 j0_63 = true := by kernel_rfl
theorem z0_64 : BZ0 64 j0_64 = true := by kernel_rfl
theorem h0_64 : BH0 j0_64 = true := by kernel_rfl
theorem r0_64 : BR0 j0_64 = true := by kernel_rfl
theorem z0_65 : BZ0 65 j0_65 = true := by kernel_rfl
theorem h0_65 : BH0 j0_65 = true := by kernel_rfl
theorem r0_65 : BR0 j0_65 = true := by kernel_rfl
theorem z0_66 : BZ0 66 j0_66 = true := by kernel_rfl
theorem h0_66 : BH0 j0_66 = true := by kernel_rfl
theorem r0_66 : BR0 j0_66 = true := by kernel_rfl
theorem z0_67 : BZ0 67 j0_67 = true := by kernel_rfl
theorem h0_67 : BH0 j0_67 = true := by kernel_rfl
theorem r0_67 : BR0 j0_67 = true := by kernel_rfl
theorem z0_68 : BZ0 68 j0_68 = true := by kernel_rfl
theorem h0_68 : BH0 j0_68 = true := by kernel_rfl
theorem r0_68 : BR0 j0_68 = true := by kernel_rfl
theorem z0_69 : BZ0 69 j0_69 = true := by kernel_rfl
theorem h0_69 : BH0 j0_69 = true := by kernel_rfl
theorem r0_69 : BR0 j0_69 = true := by kernel_rfl
theorem z0_70 : BZ0 70 j0_70 = true := by kernel_rfl
theorem h0_70 : BH0 j0_70 = true := by kernel_rfl
theorem r0_70 : BR0 j0_70 = true := by kernel_rfl
theorem z0_71 : BZ0 71 j0_71 = true := by kernel_rfl
theorem h0_71 : BH0 j0_71 = true := by kernel_rfl
theorem r0_71 : BR0 j0_71 = true := by kernel_rfl
theorem z0_72 : BZ0 72 j0_72 = true := by kernel_rfl
theorem h0_72 : BH0 j0_72 = true := by kernel_rfl
theorem r0_72 : BR0 j0_72 = true := by kernel_rfl
theorem z0_73 : BZ0 73 j0_73 = true := by kernel_rfl
theorem h0_73 : BH0 j0_73 = true := by kernel_rfl
theorem r0_73 : BR0 j0_73 = true := by kernel_rfl
theorem z0_74 : BZ0 74 j0_74 = true := by kernel_rfl
theorem h0_74 : BH0 j0_74 = true := by kernel_rfl
theorem r0_74 : BR0 j0_74 = true := by kernel_rfl
theorem z0_75 : BZ0 75 j0_75 = true := by kernel_rfl
theorem h0_75 : BH0 j0_75 = true := by kernel_rfl
theorem r0_75 : BR0 j0_75 = true := by kernel_rfl
theorem z0_76 : BZ0 76 j0_76 = true := by kernel_rfl
theorem h0_76 : BH0 j0_76 = true := by kernel_rfl
theorem r0_76 : BR0 j0_76 = true := by kernel_rfl
theorem z0_77 : BZ0 77 j0_77 = true := by kernel_rfl
theorem h0_77 : BH0 j0_77 = true := by kernel_rfl
theorem r0_77 : BR0 j0_77 = true := by kernel_rfl
theorem z0_78 : BZ0 78 j0_78 = true := by kernel_rfl
theorem h0_78 : BH0 j0_78 = true := by kernel_rfl
theorem r0_78 : BR0 j0_78 = true := by kernel_rfl
theorem z0_79 : BZ0 79 j0_79 = true := by kernel_rfl
theorem h0_79 : BH0 j0_79 = true := by kernel_rfl
theorem r0_79 : BR0 j0_79 = true := by kernel_rfl
theorem z0_80 : BZ0 80 j0_80 = true := by kernel_rfl
theorem h0_80 : BH0 j0_80 = true := by kernel_rfl
theorem r0_80 : BR0 j0_80 = true := by kernel_rfl
theorem z0_81 : BZ0 81 j0_81 = true := by kernel_rfl
theorem h0_81 : BH0 j0_81 = true := by kernel_rfl
theorem r0_81 : BR0 j0_81 = true := by kernel_rfl
theorem z0_82 : BZ0 82 j0_82 = true := by kernel_rfl
theorem h0_82 : BH0 j0_82 = true := by kernel_rfl
theorem r0_82 : BR0 j0_82 = true := by kernel_rfl
theorem z0_83 : BZ0 83 j0_83 = true := by kernel_rfl
theorem h0_83 : BH0 j0_83 = true := by kernel_rfl
theorem r0_83 : BR0 j0_83 = true := by kernel_rfl
theorem z0_84 : BZ0 84 j0_84 = true := by kernel_rfl
theorem h0_84 : BH0 j0_84 = true := by kernel_rfl
theorem r0_84 : BR0 j0_84 = true := by kernel_rfl
theorem z0_85 : BZ0 85 j0_85 = true := by kernel_rfl
theorem h0_85 : BH0 j0_85 = true := by kernel_rfl
theorem r0_85 : BR0 j0_85 = true := by kernel_rfl
theorem z0_86 : BZ0 86 j0_86 = true := by kernel_rfl
theorem h0_86 : BH0 j0_86 = true := by kernel_rfl
theorem r0_86 : BR0 j0_86 = true := by kernel_rfl
theorem z0_87 : BZ0 87 j0_87 = true := by kernel_rfl
theorem h0_87 : BH0 j0_87 = true := by kernel_rfl
theorem r0_87 : BR0 j0_87 = true := by kernel_rfl
theorem z0_88 : BZ0 88 j0_88 = true := by kernel_rfl
theorem h0_88 : BH0 j0_88 = true := by kernel_rfl
theorem r0_88 : BR0 j0_88 = true := by kernel_rfl
theorem z0_89 : BZ0 89 j0_89 = true := by kernel_rfl
theorem h0_89 : BH0 j0_89 = true := by kernel_rfl
theorem r0_89 : BR0 j0_89 = true := by kernel_rfl
theorem z0_90 : BZ0 90 j0_90 = true := by kernel_rfl
theorem h0_90 : BH0 j0_90 = true := by kernel_rfl
theorem r0_90 : BR0 j0_90 = true := by kernel_rfl
theorem z0_91 : BZ0 91 j0_91 = true := by kernel_rfl
theorem h0_91 : BH0 j0_91 = true := by kernel_rfl
theorem r0_91 : BR0 j0_91 = true := by kernel_rfl
theorem z0_92 : BZ0 92 j0_92 = true := by kernel_rfl
theorem h0_92 : BH0 j0_92 = true := by kernel_rfl
theorem r0_92 : BR0 j0_92 = true := by kernel_rfl
theorem z0_93 : BZ0 93 j0_93 = true := by kernel_rfl
theorem h0_93 : BH0 j0_93 = true := by kernel_rfl
theorem r0_93 : BR0 j0_93 = true := by kernel_rfl
theorem z0_94 : BZ0 94 j0_94 = true := by kernel_rfl
theorem h0_94 : BH0 j0_94 = true := by kernel_rfl
theorem r0_94 : BR0 j0_94 = true := by kernel_rfl
theorem z0_95 : BZ0 95 j0_95 = true := by kernel_rfl
theorem h0_95 : BH0 j0_95 = true := by kernel_rfl
theorem r0_95 : BR0 j0_95 = true := by kernel_rfl
theorem z0_96 : BZ0 96 j0_96 = true := by kernel_rfl
theorem h0_96 : BH0 j0_96 = true := by kernel_rfl
theorem r0_96 : BR0 j0_96 = true := by kernel_rfl
theorem z0_97 : BZ0 97 j0_97 = true := by kernel_rfl
theorem h0_97 : BH0 j0_97 = true := by kernel_rfl
theorem r0_97 : BR0 j0_97 = true := by kernel_rfl
theorem z0_98 : BZ0 98 j0_98 = true := by kernel_rfl
theorem h0_98 : BH0 j0_98 = true := by kernel_rfl
theorem r0_98 : BR0 j0_98 = true := by kernel_rfl
theorem z0_99 : BZ0 99 j0_99 = true := by kernel_rfl
theorem h0_99 : BH0 j0_99 = true := by kernel_rfl
theorem r0_99 : BR0 j0_99 = true := by kernel_rfl
theorem z0_100 : BZ0 100 j0_100 = true := by kernel_rfl
theorem h0_100 : BH0 j0_100 = true := by kernel_rfl
theorem r0_100 : BR0 j0_100 = true := by kernel_rfl
theorem z0_101 : BZ0 101 j0_101 = true := by kernel_rfl
theorem h0_101 : BH0 j0_101 = true := by kernel_rfl
theorem r0_101 : BR0 j0_101 = true := by kernel_rfl
theorem z0_102 : BZ0 102 j0_102 = true := by kernel_rfl
theorem h0_102 : BH0 j0_102 = true := by kernel_rfl
theorem r0_102 : BR0 j0_102 = true := by kernel_rfl
theorem z0_103 : BZ0 103 j0_103 = true := by kernel_rfl
theorem h0_103 : BH0 j0_103 = true := by kernel_rfl
theorem r0_103 : BR0 j0_103 = true := by kernel_rfl
theorem z0_104 : BZ0 104 j0_104 = true := by kernel_rfl
theorem h0_104 : BH0 j0_104 = true := by kernel_rfl
theorem r0_104 : BR0 j0_104 = true := by kernel_rfl
theorem z0_105 : BZ0 105 j0_105 = true := by kernel_rfl
theorem h0_105 : BH0 j0_105 = true := by kernel_rfl
theorem r0_105 : BR0 j0_105 = true := by kernel_rfl
theorem z0_106 : BZ0 106 j0_106 = true := by kernel_rfl
theorem h0_106 : BH0 j0_106 = true := by kernel_rfl
theorem r0_106 : BR0 j0_106 = true := by kernel_rfl
theorem z0_107 : BZ0 107 j0_107 = true := by kernel_rfl
theorem h0_107 : BH0 j0_107 = true := by kernel_rfl
theorem r0_107 : BR0 j0_107 = true := by kernel_rfl
theorem z0_108 : BZ0 108 j0_108 = true := by kernel_rfl
theorem h0_108 : BH0 j0_108 = true := by kernel_rfl
theorem r0_108 : BR0 j0_108 = true := by kernel_rfl
theorem z0_109 : BZ0 109 j0_109 = true := by kernel_rfl
theorem h0_109 : BH0 j0_109 = true := by kernel_rfl
theorem r0_109 : BR0 j0_109 = true := by kernel_rfl
theorem z0_110 : BZ0 110 j0_110 = true := by kernel_rfl
theorem h0_110 : BH0 j0_110 = true := by kernel_rfl
theorem r0_110 : BR0 j0_110 = true := by kernel_rfl
theorem z0_111 : BZ0 111 j0_111 = true := by kernel_rfl
theorem h0_111 : BH0 j0_111 = true := by kernel_rfl
theorem r0_111 : BR0 j0_111 = true := by kernel_rfl
theorem z0_112 : BZ0 112 j0_112 = true := by kernel_rfl
theorem h0_112 : BH0 j0_112 = true := by kernel_rfl
theorem r0_112 : BR0 j0_112 = true := by kernel_rfl
theorem z0_113 : BZ0 113 j0_113 = true := by kernel_rfl
theorem h0_113 : BH0 j0_113 = true := by kernel_rfl
theorem r0_113 : BR0 j0_113 = true := by kernel_rfl
theorem z0_114 : BZ0 114 j0_114 = true := by kernel_rfl
theorem h0_114 : BH0 j0_114 = true := by kernel_rfl
theorem r0_114 : BR0 j0_114 = true := by kernel_rfl
theorem z0_115 : BZ0 115 j0_115 = true := by kernel_rfl
theorem h0_115 : BH0 j0_115 = true := by kernel_rfl
theorem r0_115 : BR0 j0_115 = true := by kernel_rfl
theorem z0_116 : BZ0 116 j0_116 = true := by kernel_rfl
theorem h0_116 : BH0 j0_116 = true := by kernel_rfl
theorem r0_116 : BR0 j0_116 = true := by kernel_rfl
theorem z0_117 : BZ0 117 j0_117 = true := by kernel_rfl
theorem h0_117 : BH0 j0_117 = true := by kernel_rfl
theorem r0_117 : BR0 j0_117 = true := by kernel_rfl
theorem z0_118 : BZ0 118 j0_118 = true := by kernel_rfl
theorem h0_118 : BH0 j0_118 = true := by kernel_rfl
theorem r0_118 : BR0 j0_118 = true := by kernel_rfl
theorem z0_119 : BZ0 119 j0_119 = true := by kernel_rfl
theorem h0_119 : BH0 j0_119 = true := by kernel_rfl
theorem r0_119 : BR0 j0_119 = true := by kernel_rfl
end Go.Proofs.YtkelfdnhgdjaaaaGreat.Ef
