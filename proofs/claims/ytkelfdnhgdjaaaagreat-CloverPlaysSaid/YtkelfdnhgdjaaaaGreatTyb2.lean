/- What is proved: two machines go the same steps from some of their joint states, and tell the same there. Conditions: none. -/
import Derived.Test.YtkelfdnhgdjaaaaGreatTya
namespace Go.Proofs.YtkelfdnhgdjaaaaGreat.Ef
set_option maxRecDepth 100000
set_option linter.unusedVariables false
theorem z0_120 : BZ0 120 j0_120 = true := by kernel_rfl
theorem h0_120 : BH0 j0_120 = true := by kernel_rfl
theorem r0_120 : BR0 j0_120 = true := by kernel_rfl
theorem z0_121 : BZ0 121 j0_121 = true := by kernel_rfl
theorem h0_121 : BH0 j0_121 = true := by kernel_rfl
theorem r0_121 : BR0 j0_121 = true := by kernel_rfl
theorem z0_122 : BZ0 122 j0_122 = true := by kernel_rfl
theorem h0_122 : BH0 j0_122 = true := by kernel_rfl
theorem r0_122 : BR0 j0_122 = true := by kernel_rfl
theorem z0_123 : BZ0 123 j0_123 = true := by kernel_rfl
theorem h0_123 : BH0 j0_123 = true := by kernel_rfl
theorem r0_123 : BR0 j0_123 = true := by kernel_rfl
theorem z0_124 : BZ0 124 j0_124 = true := by kernel_rfl
theorem h0_124 : BH0 j0_124 = true := by kernel_rfl
theorem r0_124 : BR0 j0_124 = true := by kernel_rfl
theorem z0_125 : BZ0 125 j0_125 = true := by kernel_rfl
theorem h0_125 : BH0 j0_125 = true := by kernel_rfl
theorem r0_125 : BR0 j0_125 = true := by kernel_rfl
theorem z0_126 : BZ0 126 j0_126 = true := by kernel_rfl
theorem h0_126 : BH0 j0_126 = true := by kernel_rfl
theorem r0_126 : BR0 j0_126 = true := by kernel_rfl
theorem z0_127 : BZ0 127 j0_127 = true := by kernel_rfl
theorem h0_127 : BH0 j0_127 = true := by kernel_rfl
theorem r0_127 : BR0 j0_127 = true := by kernel_rfl
theorem z0_128 : BZ0 128 j0_128 = true := by kernel_rfl
theorem h0_128 : BH0 j0_128 = true := by kernel_rfl
theorem r0_128 : BR0 j0_128 = true := by kernel_rfl
theorem z0_129 : BZ0 129 j0_129 = true := by kernel_rfl
theorem h0_129 : BH0 j0_129 = true := by kernel_rfl
theorem r0_129 : BR0 j0_129 = true := by kernel_rfl
theorem z0_130 : BZ0 130 j0_130 = true := by kernel_rfl
theorem h0_130 : BH0 j0_130 = true := by kernel_rfl
theorem r0_130 : BR0 j0_130 = true := by kernel_rfl
theorem z0_131 : BZ0 131 j0_131 = true := by kernel_rfl
theorem h0_131 : BH0 j0_131 = true := by kernel_rfl
theorem r0_131 : BR0 j0_131 = true := by kernel_rfl
theorem z0_132 : BZ0 132 j0_132 = true := by kernel_rfl
theorem h0_132 : BH0 j0_132 = true := by kernel_rfl
theorem r0_132 : BR0 j0_132 = true := by kernel_rfl
theorem z0_133 : BZ0 133 j0_133 = true := by kernel_rfl
theorem h0_133 : BH0 j0_133 = true := by kernel_rfl
theorem r0_133 : BR0 j0_133 = true := by kernel_rfl
theorem z0_134 : BZ0 134 j0_134 = true := by kernel_rfl
theorem h0_134 : BH0 j0_134 = true := by kernel_rfl
theorem r0_134 : BR0 j0_134 = true := by kernel_rfl
theorem z0_135 : BZ0 135 j0_135 = true := by kernel_rfl
theorem h0_135 : BH0 j0_135 = true := by kernel_rfl
theorem r0_135 : BR0 j0_135 = true := by kernel_rfl
theorem z0_136 : BZ0 136 j0_136 = true := by kernel_rfl
theorem h0_136 : BH0 j0_136 = true := by kernel_rfl
theorem r0_136 : BR0 j0_136 = true := by kernel_rfl
theorem z0_137 : BZ0 137 j0_137 = true := by kernel_rfl
theorem h0_137 : BH0 j0_137 = true := by kernel_rfl
theorem r0_137 : BR0 j0_137 = true := by kernel_rfl
theorem z0_138 : BZ0 138 j0_138 = true := by kernel_rfl
theorem h0_138 : BH0 j0_138 = true := by kernel_rfl
theorem r0_138 : BR0 j0_138 = true := by kernel_rfl
theorem z0_139 : BZ0 139 j0_139 = true := by kernel_rfl
theorem h0_139 : BH0 j0_139 = true := by kernel_rfl
theorem r0_139 : BR0 j0_139 = true := by kernel_rfl
theorem z0_140 : BZ0 140 j0_140 = true := by kernel_rfl
theorem h0_140 : BH0 j0_140 = true := by kernel_rfl
theorem r0_140 : BR0 j0_140 = true := by kernel_rfl
theorem z0_141 : BZ0 141 j0_141 = true := by kernel_rfl
theorem h0_141 : BH0 j0_141 = true := by kernel_rfl
theorem r0_141 : BR0 j0_141 = true := by kernel_rfl
theorem z0_142 : BZ0 142 j0_142 = true := by kernel_rfl
theorem h0_142 : BH0 j0_142 = true := by kernel_rfl
theorem r0_142 : BR0 j0_142 = true := by kernel_rfl
theorem z0_143 : BZ0 143 j0_143 = true := by kernel_rfl
theorem h0_143 : BH0 j0_143 = true := by kernel_rfl
theorem r0_143 : BR0 j0_143 = true := by kernel_rfl
theorem z0_144 : BZ0 144 j0_144 = true := by kernel_rfl
theorem h0_144 : BH0 j0_144 = true := by kernel_rfl
theorem r0_144 : BR0 j0_144 = true := by kernel_rfl
theorem z0_145 : BZ0 145 j0_145 = true := by kernel_rfl
theorem h0_145 : BH0 j0_145 = true := by kernel_rfl
theorem r0_145 : BR0 j0_145 = true := by kernel_rfl
theorem z0_146 : BZ0 146 j0_146 = true := by kernel_rfl
theorem h0_146 : BH0 j0_146 = true := by kernel_rfl
theorem r0_146 : BR0 j0_146 = true := by kernel_rfl
theorem z0_147 : BZ0 147 j0_147 = true := by kernel_rfl
theorem h0_147 : BH0 j0_147 = true := by kernel_rfl
theorem r0_147 : BR0 j0_147 = true := by kernel_rfl
theorem z0_148 : BZ0 148 j0_148 = true := by kernel_rfl
theorem h0_148 : BH0 j0_148 = true := by kernel_rfl
theorem r0_148 : BR0 j0_148 = true := by kernel_rfl
theorem z0_149 : BZ0 149 j0_149 = true := by kernel_rfl
theorem h0_149 : BH0 j0_149 = true := by kernel_rfl
theorem r0_149 : BR0 j0_149 = true := by kernel_rfl
theorem z0_150 : BZ0 150 j0_150 = true := by kernel_rfl
theorem h0_150 : BH0 j0_150 = true := by kernel_rfl
theorem r0_150 : BR0 j0_150 = true := by kernel_rfl
theorem z0_151 : BZ0 151 j0_151 = true := by kernel_rfl
theorem h0_151 : BH0 j0_151 = true := by kernel_rfl
theorem r0_151 : BR0 j0_151 = true := by kernel_rfl
theorem z0_152 : BZ0 152 j0_152 = true := by kernel_rfl
theorem h0_152 : BH0 j0_152 = true := by kernel_rfl
theorem r0_152 : BR0 j0_152 = true := by kernel_rfl
theorem z0_153 : BZ0 153 j0_153 = true := by kernel_rfl
theorem h0_153 : BH0 j0_153 = true := by kernel_rfl
theorem r0_153 : BR0 j0_153 = true := by kernel_rfl
theorem z0_154 : BZ0 154 j0_154 = true := by kernel_rfl
theorem h0_154 : BH0 j0_154 = true := by kernel_rfl
theorem r0_154 : BR0 j0_154 = true := by kernel_rfl
theorem z0_155 : BZ0 155 j0_155 = true := by kernel_rfl
theorem h0_155 : BH0 j0_155 = true := by kernel_rfl
theorem r0_155 : BR0 j0_155 = true := by kernel_rfl
theorem z0_156 : BZ0 156 j0_156 = true := by kernel_rfl
theorem h0_156 : BH0 j0_156 = true := by kernel_rfl
theorem r0_156 : BR0 j0_156 = true := by kernel_rfl
theorem z0_157 : BZ0 157 j0_157 = true := by kernel_rfl
theorem h0_157 : BH0 j0_157 = true := by kernel_rfl
theorem r0_157 : BR0 j0_157 = true := by kernel_rfl
theorem z0_158 : BZ0 158 j0_158 = true := by kernel_rfl
theorem h0_158 : BH0 j0_158 = true := by kernel_rfl
theorem r0_158 : BR0 j0_158 = true := by kernel_rfl
theorem z0_159 : BZ0 159 j0_159 = true := by kernel_rfl
theorem h0_159 : BH0 j0_159 = true := by kernel_rfl
theorem r0_159 : BR0 j0_159 = true := by kernel_rfl
theorem z0_160 : BZ0 160 j0_160 = true := by kernel_rfl
theorem h0_160 : BH0 j0_160 = true := by kernel_rfl
theorem r0_160 : BR0 j0_160 = true := by kernel_rfl
theorem z0_161 : BZ0 161 j0_161 = true := by kernel_rfl
theorem h0_161 : BH0 j0_161 = true := by kernel_rfl
theorem r0_161 : BR0 j0_161 = true := by kernel_rfl
theorem z0_162 : BZ0 162 j0_162 = true := by kernel_rfl
theorem h0_162 : BH0 j0_162 = true := by kernel_rfl
theorem r0_162 : BR0 j0_162 = true := by kernel_rfl
theorem z0_163 : BZ0 163 j0_163 = true := by kernel_rfl
theorem h0_163 : BH0 j0_163 = true := by kernel_rfl
theorem r0_163 : BR0 j0_163 = true := by kernel_rfl
theorem z0_164 : BZ0 164 j0_164 = true := by kernel_rfl
theorem h0_164 : BH0 j0_164 = true := by kernel_rfl
theorem r0_164 : BR0 j0_164 = true := by kernel_rfl
theorem z0_165 : BZ0 165 j0_165 = true := by kernel_rfl
theorem h0_165 : BH0 j0_165 = true := by kernel_rfl
theorem r0_165 : BR0 j0_165 = true := by kernel_rfl
theorem z0_166 : BZ0 166 j0_166 = true := by kernel_rfl
theorem h0_166 : BH0 j0_166 = true := by kernel_rfl
theorem r0_166 : BR0 j0_166 = true := by kernel_rfl
theorem z0_167 : BZ0 167 j0_167 = true := by kernel_rfl
theorem h0_167 : BH0 j0_167 = true := by kernel_rfl
theorem r0_167 : BR0 j0_167 = true := by kernel_rfl
theorem z0_168 : BZ0 168 j0_168 = true := by kernel_rfl
theorem h0_168 : BH0 j0_168 = true := by kernel_rfl
theorem r0_168 : BR0 j0_168 = true := by kernel_rfl
theorem z0_169 : BZ0 169 j0_169 = true := by kernel_rfl
theorem h0_169 : BH0 j0_169 = true := by kernel_rfl
theorem r0_169 : BR0 j0_169 = true := by kernel_rfl
theorem z0_170 : BZ0 170 j0_170 = true := by kernel_rfl
theorem h0_170 : BH0 j0_170 = true := by kernel_rfl
theorem r0_170 : BR0 j0_170 = true := by kernel_rfl
theorem z0_171 : BZ0 171 j0_171 = true := by kernel_rfl
theorem h0_171 : BH0 j0_171 = true := by kernel_rfl
theorem r0_171 : BR0 j0_171 = true := by kernel_rfl
theorem z0_172 : BZ0 172 j0_172 = true := by kernel_rfl
theorem h0_172 : BH0 j0_172 = true := by kernel_rfl
theorem r0_172 : BR0 j0_172 = true := by kernel_rfl
theorem z0_173 : BZ0 173 j0_173 = true := by kernel_rfl
theorem h0_173 : BH0 j0_173 = true := by kernel_rfl
theorem r0_173 : BR0 j0_173 = true := by kernel_rfl
theorem z0_174 : BZ0 174 j0_174 = true := by kernel_rfl
theorem h0_174 : BH0 j0_174 = true := by kernel_rfl
theorem r0_174 : BR0 j0_174 = true := by kernel_rfl
theorem z0_175 : BZ0 175 j0_175 = true := by kernel_rfl
theorem h0_175 : BH0 j0_175 = true := by kernel_rfl
theorem r0_175 : BR0 j0_175 = true := by kernel_rfl
theorem z0_176 : BZ0 176 j0_176 = true := by kernel_rfl
theorem h0_176 : BH0 j0_176 = true := by kernel_rfl
theorem r0_176 : BR0 j0_176 = true := by kernel_rfl
theorem z0_177 : BZ0 177 j0_177 = true := by kernel_rfl
theorem h0_177 : BH0 j0_177 = true := by kernel_rfl
theorem r0_177 : BR0 j0_177 = true := by kernel_rfl
theorem z0_178 : BZ0 178 j0_178 = true := by kernel_rfl
theorem h0_178 : BH0 j0_178 = true := by kernel_rfl
theorem r0_178 : BR0 j0_178 = true := by kernel_rfl
theorem z0_179 : BZ0 179 j0_179 = true := by kernel_rfl
theorem h0_179 : BH0 j0_179 = true := by kernel_rfl
theorem r0_179 : BR0 j0_179 = true := by kernel_rfl
end Go.Proofs.YtkelfdnhgdjaaaaGreat.Ef
