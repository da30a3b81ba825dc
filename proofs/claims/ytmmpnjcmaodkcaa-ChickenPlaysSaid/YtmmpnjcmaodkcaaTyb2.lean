/- What is proved: two machines go the same steps from some of their joint states, and tell the same there. Conditions: none. -/
import Derived.Test.YtmmpnjcmaodkcaaTya
namespace Go.Proofs.Ytmmpnjcmaodkcaa.Ef
set_option maxRecDepth 100000
set_option linter.unusedVariables false
theorem z0_100 : BZ0 100 j0_100 = true := by kernel_rfl
theorem h0_100 : BH0 j0_100 = true := by kernel_rfl
theorem r0_100 : BR0 j0_100 = true := by kernel_rfl
theorem z0_101 : BZ0 101 j0_101 = true := by kernel_rfl
theorem h0_101 : BH0 j0_101 = true := by kernel_rfl
theorem r0_101 : BR0 j0_101 = true := by kernel_rfl
theorem z0_102 : BZ0 102 j0_102 = true := by kernel_rfl
theorem h0_102 : BH0 j0_102 = true := by kernel_rfl
theorem r0_102 : BR0 j0_102 = true := by kernel_rfl
theorem z0_103 : BZ0 103 j0_103 = true := by kernel_rfl
theorem h0_103 : BH0 j0_103 = true := by kernel_rfl
theorem r0_103 : BR0 j0_103 = true := by kernel_rfl
theorem z0_104 : BZ0 104 j0_104 = true := by kernel_rfl
theorem h0_104 : BH0 j0_104 = true := by kernel_rfl
theorem r0_104 : BR0 j0_104 = true := by kernel_rfl
theorem z0_105 : BZ0 105 j0_105 = true := by kernel_rfl
theorem h0_105 : BH0 j0_105 = true := by kernel_rfl
theorem r0_105 : BR0 j0_105 = true := by kernel_rfl
theorem z0_106 : BZ0 106 j0_106 = true := by kernel_rfl
theorem h0_106 : BH0 j0_106 = true := by kernel_rfl
theorem r0_106 : BR0 j0_106 = true := by kernel_rfl
theorem z0_107 : BZ0 107 j0_107 = true := by kernel_rfl
theorem h0_107 : BH0 j0_107 = true := by kernel_rfl
theorem r0_107 : BR0 j0_107 = true := by kernel_rfl
theorem z0_108 : BZ0 108 j0_108 = true := by kernel_rfl
theorem h0_108 : BH0 j0_108 = true := by kernel_rfl
theorem r0_108 : BR0 j0_108 = true := by kernel_rfl
theorem z0_109 : BZ0 109 j0_109 = true := by kernel_rfl
theorem h0_109 : BH0 j0_109 = true := by kernel_rfl
theorem r0_109 : BR0 j0_109 = true := by kernel_rfl
theorem z0_110 : BZ0 110 j0_110 = true := by kernel_rfl
theorem h0_110 : BH0 j0_110 = true := by kernel_rfl
theorem r0_110 : BR0 j0_110 = true := by kernel_rfl
theorem z0_111 : BZ0 111 j0_111 = true := by kernel_rfl
theorem h0_111 : BH0 j0_111 = true := by kernel_rfl
theorem r0_111 : BR0 j0_111 = true := by kernel_rfl
theorem z0_112 : BZ0 112 j0_112 = true := by kernel_rfl
theorem h0_112 : BH0 j0_112 = true := by kernel_rfl
theorem r0_112 : BR0 j0_112 = true := by kernel_rfl
theorem z0_113 : BZ0 113 j0_113 = true := by kernel_rfl
theorem h0_113 : BH0 j0_113 = true := by kernel_rfl
theorem r0_113 : BR0 j0_113 = true := by kernel_rfl
theorem z0_114 : BZ0 114 j0_114 = true := by kernel_rfl
theorem h0_114 : BH0 j0_114 = true := by kernel_rfl
theorem r0_114 : BR0 j0_114 = true := by kernel_rfl
theorem z0_115 : BZ0 115 j0_115 = true := by kernel_rfl
theorem h0_115 : BH0 j0_115 = true := by kernel_rfl
theorem r0_115 : BR0 j0_115 = true := by kernel_rfl
theorem z0_116 : BZ0 116 j0_116 = true := by kernel_rfl
theorem h0_116 : BH0 j0_116 = true := by kernel_rfl
theorem r0_116 : BR0 j0_116 = true := by kernel_rfl
theorem z0_117 : BZ0 117 j0_117 = true := by kernel_rfl
theorem h0_117 : BH0 j0_117 = true := by kernel_rfl
theorem r0_117 : BR0 j0_117 = true := by kernel_rfl
theorem z0_118 : BZ0 118 j0_118 = true := by kernel_rfl
theorem h0_118 : BH0 j0_118 = true := by kernel_rfl
theorem r0_118 : BR0 j0_118 = true := by kernel_rfl
theorem z0_119 : BZ0 119 j0_119 = true := by kernel_rfl
theorem h0_119 : BH0 j0_119 = true := by kernel_rfl
theorem r0_119 : BR0 j0_119 = true := by kernel_rfl
theorem z0_120 : BZ0 120 j0_120 = true := by kernel_rfl
theorem h0_120 : BH0 j0_120 = true := by kernel_rfl
theorem r0_120 : BR0 j0_120 = true := by kernel_rfl
theorem z0_121 : BZ0 121 j0_121 = true := by kernel_rfl
theorem h0_121 : BH0 j0_121 = true := by kernel_rfl
theorem r0_121 : BR0 j0_121 = true := by kernel_rfl
theorem z0_122 : BZ0 122 j0_122 = true := by kernel_rfl
theorem h0_122 : BH0 j0_122 = true := by kernel_rfl
theorem r0_122 : BR0 j0_122 = true := by kernel_rfl
theorem z0_123 : BZ0 123 j0_123 = true := by kernel_rfl
theorem h0_123 : BH0 j0_123 = true := by kernel_rfl
theorem r0_123 : BR0 j0_123 = true := by kernel_rfl
theorem z0_124 : BZ0 124 j0_124 = true := by kernel_rfl
theorem h0_124 : BH0 j0_124 = true := by kernel_rfl
theorem r0_124 : BR0 j0_124 = true := by kernel_rfl
theorem z0_125 : BZ0 125 j0_125 = true := by kernel_rfl
theorem h0_125 : BH0 j0_125 = true := by kernel_rfl
theorem r0_125 : BR0 j0_125 = true := by kernel_rfl
theorem z0_126 : BZ0 126 j0_126 = true := by kernel_rfl
theorem h0_126 : BH0 j0_126 = true := by kernel_rfl
theorem r0_126 : BR0 j0_126 = true := by kernel_rfl
theorem z0_127 : BZ0 127 j0_127 = true := by kernel_rfl
theorem h0_127 : BH0 j0_127 = true := by kernel_rfl
theorem r0_127 : BR0 j0_127 = true := by kernel_rfl
theorem z0_128 : BZ0 128 j0_128 = true := by kernel_rfl
theorem h0_128 : BH0 j0_128 = true := by kernel_rfl
theorem r0_128 : BR0 j0_128 = true := by kernel_rfl
theorem z0_129 : BZ0 129 j0_129 = true := by kernel_rfl
theorem h0_129 : BH0 j0_129 = true := by kernel_rfl
theorem r0_129 : BR0 j0_129 = true := by kernel_rfl
theorem z0_130 : BZ0 130 j0_130 = true := by kernel_rfl
theorem h0_130 : BH0 j0_130 = true := by kernel_rfl
theorem r0_130 : BR0 j0_130 = true := by kernel_rfl
theorem z0_131 : BZ0 131 j0_131 = true := by kernel_rfl
theorem h0_131 : BH0 j0_131 = true := by kernel_rfl
theorem r0_131 : BR0 j0_131 = true := by kernel_rfl
theorem z0_132 : BZ0 132 j0_132 = true := by kernel_rfl
theorem h0_132 : BH0 j0_132 = true := by kernel_rfl
theorem r0_132 : BR0 j0_132 = true := by kernel_rfl
theorem z0_133 : BZ0 133 j0_133 = true := by kernel_rfl
theorem h0_133 : BH0 j0_133 = true := by kernel_rfl
theorem r0_133 : BR0 j0_133 = true := by kernel_rfl
theorem z0_134 : BZ0 134 j0_134 = true := by kernel_rfl
theorem h0_134 : BH0 j0_134 = true := by kernel_rfl
theorem r0_134 : BR0 j0_134 = true := by kernel_rfl
theorem z0_135 : BZ0 135 j0_135 = true := by kernel_rfl
theorem h0_135 : BH0 j0_135 = true := by kernel_rfl
theorem r0_135 : BR0 j0_135 = true := by kernel_rfl
theorem z0_136 : BZ0 136 j0_136 = true := by kernel_rfl
theorem h0_136 : BH0 j0_136 = true := by kernel_rfl
theorem r0_136 : BR0 j0_136 = true := by kernel_rfl
end Go.Proofs.Ytmmpnjcmaodkcaa.Ef
