/- What is proved: two machines go the same steps from some of their joint states, and tell the same there. Conditions: none. -/
import Derived.Test.YtkelfdnhgdjaaaaGreatTya
namespace Go.Proofs.YtkelfdnhgdjaaaaGreat.Ef
set_option maxRecDepth 100000
set_option linter.unusedVariables false
theorem z0_180 : BZ0 180 j0_180 = true := by kernel_rfl
theorem h0_180 : BH0 j0_180 = true := by kernel_rfl
theorem r0_180 : BR0 j0_180 = true := by kernel_rfl
theorem z0_181 : BZ0 181 j0_181 = true := by kernel_rfl
theorem h0_181 : BH0 j0_181 = true := by kernel_rfl
theorem r0_181 : BR0 j0_181 = true := by kernel_rfl
theorem z0_182 : BZ0 182 j0_182 = true := by kernel_rfl
theorem h0_182 : BH0 j0_182 = true := by kernel_rfl
theorem r0_182 : BR0 j0_182 = true := by kernel_rfl
theorem z0_183 : BZ0 183 j0_183 = true := by kernel_rfl
theorem h0_183 : BH0 j0_183 = true := by kernel_rfl
theorem r0_183 : BR0 j0_183 = true := by kernel_rfl
theorem z0_184 : BZ0 184 j0_184 = true := by kernel_rfl
theorem h0_184 : BH0 j0_184 = true := by kernel_rfl
theorem r0_184 : BR0 j0_184 = true := by kernel_rfl
theorem z0_185 : BZ0 185 j0_185 = true := by kernel_rfl
theorem h0_185 : BH0 j0_185 = true := by kernel_rfl
theorem r0_185 : BR0 j0_185 = true := by kernel_rfl
theorem z0_186 : BZ0 186 j0_186 = true := by kernel_rfl
theorem h0_186 : BH0 j0_186 = true := by kernel_rfl
theorem r0_186 : BR0 j0_186 = true := by kernel_rfl
theorem z0_187 : BZ0 187 j0_187 = true := by kernel_rfl
theorem h0_187 : BH0 j0_187 = true := by kernel_rfl
theorem r0_187 : BR0 j0_187 = true := by kernel_rfl
theorem z0_188 : BZ0 188 j0_188 = true := by kernel_rfl
theorem h0_188 : BH0 j0_188 = true := by kernel_rfl
theorem r0_188 : BR0 j0_188 = true := by kernel_rfl
theorem z0_189 : BZ0 189 j0_189 = true := by kernel_rfl
theorem h0_189 : BH0 j0_189 = true := by kernel_rfl
theorem r0_189 : BR0 j0_189 = true := by kernel_rfl
theorem z0_190 : BZ0 190 j0_190 = true := by kernel_rfl
theorem h0_190 : BH0 j0_190 = true := by kernel_rfl
theorem r0_190 : BR0 j0_190 = true := by kernel_rfl
theorem z0_191 : BZ0 191 j0_191 = true := by kernel_rfl
theorem h0_191 : BH0 j0_191 = true := by kernel_rfl
theorem r0_191 : BR0 j0_191 = true := by kernel_rfl
theorem z0_192 : BZ0 192 j0_192 = true := by kernel_rfl
theorem h0_192 : BH0 j0_192 = true := by kernel_rfl
theorem r0_192 : BR0 j0_192 = true := by kernel_rfl
theorem z0_193 : BZ0 193 j0_193 = true := by kernel_rfl
theorem h0_193 : BH0 j0_193 = true := by kernel_rfl
theorem r0_193 : BR0 j0_193 = true := by kernel_rfl
theorem z0_194 : BZ0 194 j0_194 = true := by kernel_rfl
theorem h0_194 : BH0 j0_194 = true := by kernel_rfl
theorem r0_194 : BR0 j0_194 = true := by kernel_rfl
theorem z0_195 : BZ0 195 j0_195 = true := by kernel_rfl
theorem h0_195 : BH0 j0_195 = true := by kernel_rfl
theorem r0_195 : BR0 j0_195 = true := by kernel_rfl
theorem z0_196 : BZ0 196 j0_196 = true := by kernel_rfl
theorem h0_196 : BH0 j0_196 = true := by kernel_rfl
theorem r0_196 : BR0 j0_196 = true := by kernel_rfl
theorem z0_197 : BZ0 197 j0_197 = true := by kernel_rfl
theorem h0_197 : BH0 j0_197 = true := by kernel_rfl
theorem r0_197 : BR0 j0_197 = true := by kernel_rfl
theorem z0_198 : BZ0 198 j0_198 = true := by kernel_rfl
theorem h0_198 : BH0 j0_198 = true := by kernel_rfl
theorem r0_198 : BR0 j0_198 = true := by kernel_rfl
theorem z0_199 : BZ0 199 j0_199 = true := by kernel_rfl
theorem h0_199 : BH0 j0_199 = true := by kernel_rfl
theorem r0_199 : BR0 j0_199 = true := by kernel_rfl
theorem z0_200 : BZ0 200 j0_200 = true := by kernel_rfl
theorem h0_200 : BH0 j0_200 = true := by kernel_rfl
theorem r0_200 : BR0 j0_200 = true := by kernel_rfl
theorem z0_201 : BZ0 201 j0_201 = true := by kernel_rfl
theorem h0_201 : BH0 j0_201 = true := by kernel_rfl
theorem r0_201 : BR0 j0_201 = true := by kernel_rfl
theorem z0_202 : BZ0 202 j0_202 = true := by kernel_rfl
theorem h0_202 : BH0 j0_202 = true := by kernel_rfl
theorem r0_202 : BR0 j0_202 = true := by kernel_rfl
theorem z0_203 : BZ0 203 j0_203 = true := by kernel_rfl
theorem h0_203 : BH0 j0_203 = true := by kernel_rfl
theorem r0_203 : BR0 j0_203 = true := by kernel_rfl
theorem z0_204 : BZ0 204 j0_204 = true := by kernel_rfl
theorem h0_204 : BH0 j0_204 = true := by kernel_rfl
theorem r0_204 : BR0 j0_204 = true := by kernel_rfl
theorem z0_205 : BZ0 205 j0_205 = true := by kernel_rfl
theorem h0_205 : BH0 j0_205 = true := by kernel_rfl
theorem r0_205 : BR0 j0_205 = true := by kernel_rfl
theorem z0_206 : BZ0 206 j0_206 = true := by kernel_rfl
theorem h0_206 : BH0 j0_206 = true := by kernel_rfl
theorem r0_206 : BR0 j0_206 = true := by kernel_rfl
theorem z0_207 : BZ0 207 j0_207 = true := by kernel_rfl
theorem h0_207 : BH0 j0_207 = true := by kernel_rfl
theorem r0_207 : BR0 j0_207 = true := by kernel_rfl
theorem z0_208 : BZ0 208 j0_208 = true := by kernel_rfl
theorem h0_208 : BH0 j0_208 = true := by kernel_rfl
theorem r0_208 : BR0 j0_208 = true := by kernel_rfl
theorem z0_209 : BZ0 209 j0_209 = true := by kernel_rfl
theorem h0_209 : BH0 j0_209 = true := by kernel_rfl
theorem r0_209 : BR0 j0_209 = true := by kernel_rfl
theorem z0_210 : BZ0 210 j0_210 = true := by kernel_rfl
theorem h0_210 : BH0 j0_210 = true := by kernel_rfl
theorem r0_210 : BR0 j0_210 = true := by kernel_rfl
theorem z0_211 : BZ0 211 j0_211 = true := by kernel_rfl
theorem h0_211 : BH0 j0_211 = true := by kernel_rfl
theorem r0_211 : BR0 j0_211 = true := by kernel_rfl
theorem z0_212 : BZ0 212 j0_212 = true := by kernel_rfl
theorem h0_212 : BH0 j0_212 = true := by kernel_rfl
theorem r0_212 : BR0 j0_212 = true := by kernel_rfl
theorem z0_213 : BZ0 213 j0_213 = true := by kernel_rfl
theorem h0_213 : BH0 j0_213 = true := by kernel_rfl
theorem r0_213 : BR0 j0_213 = true := by kernel_rfl
theorem z0_214 : BZ0 214 j0_214 = true := by kernel_rfl
theorem h0_214 : BH0 j0_214 = true := by kernel_rfl
theorem r0_214 : BR0 j0_214 = true := by kernel_rfl
theorem z0_215 : BZ0 215 j0_215 = true := by kernel_rfl
theorem h0_215 : BH0 j0_215 = true := by kernel_rfl
theorem r0_215 : BR0 j0_215 = true := by kernel_rfl
theorem z0_216 : BZ0 216 j0_216 = true := by kernel_rfl
theorem h0_216 : BH0 j0_216 = true := by kernel_rfl
theorem r0_216 : BR0 j0_216 = true := by kernel_rfl
theorem z0_217 : BZ0 217 j0_217 = true := by kernel_rfl
theorem h0_217 : BH0 j0_217 = true := by kernel_rfl
theorem r0_217 : BR0 j0_217 = true := by kernel_rfl
theorem z0_218 : BZ0 218 j0_218 = true := by kernel_rfl
theorem h0_218 : BH0 j0_218 = true := by kernel_rfl
theorem r0_218 : BR0 j0_218 = true := by kernel_rfl
theorem z0_219 : BZ0 219 j0_219 = true := by kernel_rfl
theorem h0_219 : BH0 j0_219 = true := by kernel_rfl
theorem r0_219 : BR0 j0_219 = true := by kernel_rfl
theorem z0_220 : BZ0 220 j0_220 = true := by kernel_rfl
theorem h0_220 : BH0 j0_220 = true := by kernel_rfl
theorem r0_220 : BR0 j0_220 = true := by kernel_rfl
theorem z0_221 : BZ0 221 j0_221 = true := by kernel_rfl
theorem h0_221 : BH0 j0_221 = true := by kernel_rfl
theorem r0_221 : BR0 j0_221 = true := by kernel_rfl
theorem z0_222 : BZ0 222 j0_222 = true := by kernel_rfl
theorem h0_222 : BH0 j0_222 = true := by kernel_rfl
theorem r0_222 : BR0 j0_222 = true := by kernel_rfl
theorem z0_223 : BZ0 223 j0_223 = true := by kernel_rfl
theorem h0_223 : BH0 j0_223 = true := by kernel_rfl
theorem r0_223 : BR0 j0_223 = true := by kernel_rfl
theorem z0_224 : BZ0 224 j0_224 = true := by kernel_rfl
theorem h0_224 : BH0 j0_224 = true := by kernel_rfl
theorem r0_224 : BR0 j0_224 = true := by kernel_rfl
theorem z0_225 : BZ0 225 j0_225 = true := by kernel_rfl
theorem h0_225 : BH0 j0_225 = true := by kernel_rfl
theorem r0_225 : BR0 j0_225 = true := by kernel_rfl
theorem z0_226 : BZ0 226 j0_226 = true := by kernel_rfl
theorem h0_226 : BH0 j0_226 = true := by kernel_rfl
theorem r0_226 : BR0 j0_226 = true := by kernel_rfl
theorem z0_227 : BZ0 227 j0_227 = true := by kernel_rfl
theorem h0_227 : BH0 j0_227 = true := by kernel_rfl
theorem r0_227 : BR0 j0_227 = true := by kernel_rfl
theorem z0_228 : BZ0 228 j0_228 = true := by kernel_rfl
theorem h0_228 : BH0 j0_228 = true := by kernel_rfl
theorem r0_228 : BR0 j0_228 = true := by kernel_rfl
theorem z0_229 : BZ0 229 j0_229 = true := by kernel_rfl
theorem h0_229 : BH0 j0_229 = true := by kernel_rfl
theorem r0_229 : BR0 j0_229 = true := by kernel_rfl
theorem z0_230 : BZ0 230 j0_230 = true := by kernel_rfl
theorem h0_230 : BH0 j0_230 = true := by kernel_rfl
theorem r0_230 : BR0 j0_230 = true := by kernel_rfl
theorem z0_231 : BZ0 231 j0_231 = true := by kernel_rfl
theorem h0_231 : BH0 j0_231 = true := by kernel_rfl
theorem r0_231 : BR0 j0_231 = true := by kernel_rfl
theorem z0_232 : BZ0 232 j0_232 = true := by kernel_rfl
theorem h0_232 : BH0 j0_232 = true := by kernel_rfl
theorem r0_232 : BR0 j0_232 = true := by kernel_rfl
theorem z0_233 : BZ0 233 j0_233 = true := by kernel_rfl
theorem h0_233 : BH0 j0_233 = true := by kernel_rfl
theorem r0_233 : BR0 j0_233 = true := by kernel_rfl
theorem z0_234 : BZ0 234 j0_234 = true := by kernel_rfl
theorem h0_234 : BH0 j0_234 = true := by kernel_rfl
theorem r0_234 : BR0 j0_234 = true := by kernel_rfl
theorem z0_235 : BZ0 235 j0_235 = true := by kernel_rfl
theorem h0_235 : BH0 j0_235 = true := by kernel_rfl
theorem r0_235 : BR0 j0_235 = true := by kernel_rfl
theorem z0_236 : BZ0 236 j0_236 = true := by kernel_rfl
theorem h0_236 : BH0 j0_236 = true := by kernel_rfl
theorem r0_236 : BR0 j0_236 = true := by kernel_rfl
theorem z0_237 : BZ0 237 j0_237 = true := by kernel_rfl
theorem h0_237 : BH0 j0_237 = true := by kernel_rfl
theorem r0_237 : BR0 j0_237 = true := by kernel_rfl
theorem z0_238 : BZ0 238 j0_238 = true := by kernel_rfl
theorem h0_238 : BH0 j0_238 = true := by kernel_rfl
theorem r0_238 : BR0 j0_238 = true := by kernel_rfl
theorem z0_239 : BZ0 239 j0_239 = true := by kernel_rfl
theorem h0_239 : BH0 j0_239 = true := by kernel_rfl
theorem r0_239 : BR0 j0_239 = true := by kernel_rfl
end Go.Proofs.YtkelfdnhgdjaaaaGreat.Ef
