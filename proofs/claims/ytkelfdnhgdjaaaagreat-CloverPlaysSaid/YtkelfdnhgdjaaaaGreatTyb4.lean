/- What is proved: two machines go the same steps from some of their joint states, and tell the same there. Conditions: none. -/
import Derived.Test.YtkelfdnhgdjaaaaGreatTya
namespace Go.Proofs.YtkelfdnhgdjaaaaGreat.Ef
set_option maxRecDepth 100000
set_option linter.unusedVariables false
theorem z0_240 : BZ0 240 j0_240 = true := by kernel_rfl
theorem h0_240 : BH0 j0_240 = true := by kernel_rfl
theorem r0_240 : BR0 j0_240 = true := by kernel_rfl
theorem z0_241 : BZ0 241 j0_241 = true := by kernel_rfl
theorem h0_241 : BH0 j0_241 = true := by kernel_rfl
theorem r0_241 : BR0 j0_241 = true := by kernel_rfl
theorem z0_242 : BZ0 242 j0_242 = true := by kernel_rfl
theorem h0_242 : BH0 j0_242 = true := by kernel_rfl
theorem r0_242 : BR0 j0_242 = true := by kernel_rfl
theorem z0_243 : BZ0 243 j0_243 = true := by kernel_rfl
theorem h0_243 : BH0 j0_243 = true := by kernel_rfl
theorem r0_243 : BR0 j0_243 = true := by kernel_rfl
theorem z0_244 : BZ0 244 j0_244 = true := by kernel_rfl
theorem h0_244 : BH0 j0_244 = true := by kernel_rfl
theorem r0_244 : BR0 j0_244 = true := by kernel_rfl
theorem z0_245 : BZ0 245 j0_245 = true := by kernel_rfl
theorem h0_245 : BH0 j0_245 = true := by kernel_rfl
theorem r0_245 : BR0 j0_245 = true := by kernel_rfl
theorem z0_246 : BZ0 246 j0_246 = true := by kernel_rfl
theorem h0_246 : BH0 j0_246 = true := by kernel_rfl
theorem r0_246 : BR0 j0_246 = true := by kernel_rfl
theorem z0_247 : BZ0 247 j0_247 = true := by kernel_rfl
theorem h0_247 : BH0 j0_247 = true := by kernel_rfl
theorem r0_247 : BR0 j0_247 = true := by kernel_rfl
theorem z0_248 : BZ0 248 j0_248 = true := by kernel_rfl
theorem h0_248 : BH0 j0_248 = true := by kernel_rfl
theorem r0_248 : BR0 j0_248 = true := by kernel_rfl
theorem z0_249 : BZ0 249 j0_249 = true := by kernel_rfl
theorem h0_249 : BH0 j0_249 = true := by kernel_rfl
theorem r0_249 : BR0 j0_249 = true := by kernel_rfl
theorem z0_250 : BZ0 250 j0_250 = true := by kernel_rfl
theorem h0_250 : BH0 j0_250 = true := by kernel_rfl
theorem r0_250 : BR0 j0_250 = true := by kernel_rfl
theorem z0_251 : BZ0 251 j0_251 = true := by kernel_rfl
theorem h0_251 : BH0 j0_251 = true := by kernel_rfl
theorem r0_251 : BR0 j0_251 = true := by kernel_rfl
theorem z0_252 : BZ0 252 j0_252 = true := by kernel_rfl
theorem h0_252 : BH0 j0_252 = true := by kernel_rfl
theorem r0_252 : BR0 j0_252 = true := by kernel_rfl
theorem z0_253 : BZ0 253 j0_253 = true := by kernel_rfl
theorem h0_253 : BH0 j0_253 = true := by kernel_rfl
theorem r0_253 : BR0 j0_253 = true := by kernel_rfl
theorem z0_254 : BZ0 254 j0_254 = true := by kernel_rfl
theorem h0_254 : BH0 j0_254 = true := by kernel_rfl
theorem r0_254 : BR0 j0_254 = true := by kernel_rfl
theorem z0_255 : BZ0 255 j0_255 = true := by kernel_rfl
theorem h0_255 : BH0 j0_255 = true := by kernel_rfl
theorem r0_255 : BR0 j0_255 = true := by kernel_rfl
theorem z0_256 : BZ0 256 j0_256 = true := by kernel_rfl
theorem h0_256 : BH0 j0_256 = true := by kernel_rfl
theorem r0_256 : BR0 j0_256 = true := by kernel_rfl
theorem z0_257 : BZ0 257 j0_257 = true := by kernel_rfl
theorem h0_257 : BH0 j0_257 = true := by kernel_rfl
theorem r0_257 : BR0 j0_257 = true := by kernel_rfl
theorem z0_258 : BZ0 258 j0_258 = true := by kernel_rfl
theorem h0_258 : BH0 j0_258 = true := by kernel_rfl
theorem r0_258 : BR0 j0_258 = true := by kernel_rfl
theorem z0_259 : BZ0 259 j0_259 = true := by kernel_rfl
theorem h0_259 : BH0 j0_259 = true := by kernel_rfl
theorem r0_259 : BR0 j0_259 = true := by kernel_rfl
theorem z0_260 : BZ0 260 j0_260 = true := by kernel_rfl
theorem h0_260 : BH0 j0_260 = true := by kernel_rfl
theorem r0_260 : BR0 j0_260 = true := by kernel_rfl
theorem z0_261 : BZ0 261 j0_261 = true := by kernel_rfl
theorem h0_261 : BH0 j0_261 = true := by kernel_rfl
theorem r0_261 : BR0 j0_261 = true := by kernel_rfl
theorem z0_262 : BZ0 262 j0_262 = true := by kernel_rfl
theorem h0_262 : BH0 j0_262 = true := by kernel_rfl
theorem r0_262 : BR0 j0_262 = true := by kernel_rfl
theorem z0_263 : BZ0 263 j0_263 = true := by kernel_rfl
theorem h0_263 : BH0 j0_263 = true := by kernel_rfl
theorem r0_263 : BR0 j0_263 = true := by kernel_rfl
theorem z0_264 : BZ0 264 j0_264 = true := by kernel_rfl
theorem h0_264 : BH0 j0_264 = true := by kernel_rfl
theorem r0_264 : BR0 j0_264 = true := by kernel_rfl
theorem z0_265 : BZ0 265 j0_265 = true := by kernel_rfl
theorem h0_265 : BH0 j0_265 = true := by kernel_rfl
theorem r0_265 : BR0 j0_265 = true := by kernel_rfl
theorem z0_266 : BZ0 266 j0_266 = true := by kernel_rfl
theorem h0_266 : BH0 j0_266 = true := by kernel_rfl
theorem r0_266 : BR0 j0_266 = true := by kernel_rfl
theorem z0_267 : BZ0 267 j0_267 = true := by kernel_rfl
theorem h0_267 : BH0 j0_267 = true := by kernel_rfl
theorem r0_267 : BR0 j0_267 = true := by kernel_rfl
theorem z0_268 : BZ0 268 j0_268 = true := by kernel_rfl
theorem h0_268 : BH0 j0_268 = true := by kernel_rfl
theorem r0_268 : BR0 j0_268 = true := by kernel_rfl
theorem z0_269 : BZ0 269 j0_269 = true := by kernel_rfl
theorem h0_269 : BH0 j0_269 = true := by kernel_rfl
theorem r0_269 : BR0 j0_269 = true := by kernel_rfl
theorem z0_270 : BZ0 270 j0_270 = true := by kernel_rfl
theorem h0_270 : BH0 j0_270 = true := by kernel_rfl
theorem r0_270 : BR0 j0_270 = true := by kernel_rfl
theorem z0_271 : BZ0 271 j0_271 = true := by kernel_rfl
theorem h0_271 : BH0 j0_271 = true := by kernel_rfl
theorem r0_271 : BR0 j0_271 = true := by kernel_rfl
theorem z0_272 : BZ0 272 j0_272 = true := by kernel_rfl
theorem h0_272 : BH0 j0_272 = true := by kernel_rfl
theorem r0_272 : BR0 j0_272 = true := by kernel_rfl
theorem z0_273 : BZ0 273 j0_273 = true := by kernel_rfl
theorem h0_273 : BH0 j0_273 = true := by kernel_rfl
theorem r0_273 : BR0 j0_273 = true := by kernel_rfl
theorem z0_274 : BZ0 274 j0_274 = true := by kernel_rfl
theorem h0_274 : BH0 j0_274 = true := by kernel_rfl
theorem r0_274 : BR0 j0_274 = true := by kernel_rfl
theorem z0_275 : BZ0 275 j0_275 = true := by kernel_rfl
theorem h0_275 : BH0 j0_275 = true := by kernel_rfl
theorem r0_275 : BR0 j0_275 = true := by kernel_rfl
theorem z0_276 : BZ0 276 j0_276 = true := by kernel_rfl
theorem h0_276 : BH0 j0_276 = true := by kernel_rfl
theorem r0_276 : BR0 j0_276 = true := by kernel_rfl
theorem z0_277 : BZ0 277 j0_277 = true := by kernel_rfl
theorem h0_277 : BH0 j0_277 = true := by kernel_rfl
theorem r0_277 : BR0 j0_277 = true := by kernel_rfl
theorem z0_278 : BZ0 278 j0_278 = true := by kernel_rfl
theorem h0_278 : BH0 j0_278 = true := by kernel_rfl
theorem r0_278 : BR0 j0_278 = true := by kernel_rfl
theorem z0_279 : BZ0 279 j0_279 = true := by kernel_rfl
theorem h0_279 : BH0 j0_279 = true := by kernel_rfl
theorem r0_279 : BR0 j0_279 = true := by kernel_rfl
theorem z0_280 : BZ0 280 j0_280 = true := by kernel_rfl
theorem h0_280 : BH0 j0_280 = true := by kernel_rfl
theorem r0_280 : BR0 j0_280 = true := by kernel_rfl
theorem z0_281 : BZ0 281 j0_281 = true := by kernel_rfl
theorem h0_281 : BH0 j0_281 = true := by kernel_rfl
theorem r0_281 : BR0 j0_281 = true := by kernel_rfl
theorem z0_282 : BZ0 282 j0_282 = true := by kernel_rfl
theorem h0_282 : BH0 j0_282 = true := by kernel_rfl
theorem r0_282 : BR0 j0_282 = true := by kernel_rfl
theorem z0_283 : BZ0 283 j0_283 = true := by kernel_rfl
theorem h0_283 : BH0 j0_283 = true := by kernel_rfl
theorem r0_283 : BR0 j0_283 = true := by kernel_rfl
theorem z0_284 : BZ0 284 j0_284 = true := by kernel_rfl
theorem h0_284 : BH0 j0_284 = true := by kernel_rfl
theorem r0_284 : BR0 j0_284 = true := by kernel_rfl
theorem z0_285 : BZ0 285 j0_285 = true := by kernel_rfl
theorem h0_285 : BH0 j0_285 = true := by kernel_rfl
theorem r0_285 : BR0 j0_285 = true := by kernel_rfl
theorem z0_286 : BZ0 286 j0_286 = true := by kernel_rfl
theorem h0_286 : BH0 j0_286 = true := by kernel_rfl
theorem r0_286 : BR0 j0_286 = true := by kernel_rfl
theorem z0_287 : BZ0 287 j0_287 = true := by kernel_rfl
theorem h0_287 : BH0 j0_287 = true := by kernel_rfl
theorem r0_287 : BR0 j0_287 = true := by kernel_rfl
theorem z0_288 : BZ0 288 j0_288 = true := by kernel_rfl
theorem h0_288 : BH0 j0_288 = true := by kernel_rfl
theorem r0_288 : BR0 j0_288 = true := by kernel_rfl
theorem z0_289 : BZ0 289 j0_289 = true := by kernel_rfl
theorem h0_289 : BH0 j0_289 = true := by kernel_rfl
theorem r0_289 : BR0 j0_289 = true := by kernel_rfl
theorem z0_290 : BZ0 290 j0_290 = true := by kernel_rfl
theorem h0_290 : BH0 j0_290 = true := by kernel_rfl
theorem r0_290 : BR0 j0_290 = true := by kernel_rfl
theorem z0_291 : BZ0 291 j0_291 = true := by kernel_rfl
theorem h0_291 : BH0 j0_291 = true := by kernel_rfl
theorem r0_291 : BR0 j0_291 = true := by kernel_rfl
theorem z0_292 : BZ0 292 j0_292 = true := by kernel_rfl
theorem h0_292 : BH0 j0_292 = true := by kernel_rfl
theorem r0_292 : BR0 j0_292 = true := by kernel_rfl
theorem z0_293 : BZ0 293 j0_293 = true := by kernel_rfl
theorem h0_293 : BH0 j0_293 = true := by kernel_rfl
theorem r0_293 : BR0 j0_293 = true := by kernel_rfl
theorem z0_294 : BZ0 294 j0_294 = true := by kernel_rfl
theorem h0_294 : BH0 j0_294 = true := by kernel_rfl
theorem r0_294 : BR0 j0_294 = true := by kernel_rfl
theorem z0_295 : BZ0 295 j0_295 = true := by kernel_rfl
theorem h0_295 : BH0 j0_295 = true := by kernel_rfl
theorem r0_295 : BR0 j0_295 = true := by kernel_rfl
theorem z0_296 : BZ0 296 j0_296 = true := by kernel_rfl
theorem h0_296 : BH0 j0_296 = true := by kernel_rfl
theorem r0_296 : BR0 j0_296 = true := by kernel_rfl
theorem z0_297 : BZ0 297 j0_297 = true := by kernel_rfl
theorem h0_297 : BH0 j0_297 = true := by kernel_rfl
theorem r0_297 : BR0 j0_297 = true := by kernel_rfl
theorem z0_298 : BZ0 298 j0_298 = true := by kernel_rfl
theorem h0_298 : BH0 j0_298 = true := by kernel_rfl
theorem r0_298 : BR0 j0_298 = true := by kernel_rfl
theorem z0_299 : BZ0 299 j0_299 = true := by kernel_rfl
theorem h0_299 : BH0 j0_299 = true := by kernel_rfl
theorem r0_299 : BR0 j0_299 = true := by kernel_rfl
end Go.Proofs.YtkelfdnhgdjaaaaGreat.Ef
