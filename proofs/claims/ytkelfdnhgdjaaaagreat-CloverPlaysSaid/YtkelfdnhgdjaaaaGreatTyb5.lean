/- What is proved: two machines go the same steps from some of their joint states, and tell the same there. Conditions: none. -/
import Derived.Test.YtkelfdnhgdjaaaaGreatTya
namespace Go.Proofs.YtkelfdnhgdjaaaaGreat.Ef
set_option maxRecDepth 100000
set_option linter.unusedVariables false
theorem z0_300 : BZ0 300 j0_300 = true := by kernel_rfl
theorem h0_300 : BH0 j0_300 = true := by kernel_rfl
theorem r0_300 : BR0 j0_300 = true := by kernel_rfl
theorem z0_301 : BZ0 301 j0_301 = true := by kernel_rfl
theorem h0_301 : BH0 j0_301 = true := by kernel_rfl
theorem r0_301 : BR0 j0_301 = true := by kernel_rfl
theorem z0_302 : BZ0 302 j0_302 = true := by kernel_rfl
theorem h0_302 : BH0 j0_302 = true := by kernel_rfl
theorem r0_302 : BR0 j0_302 = true := by kernel_rfl
theorem z0_303 : BZ0 303 j0_303 = true := by kernel_rfl
theorem h0_303 : BH0 j0_303 = true := by kernel_rfl
theorem r0_303 : BR0 j0_303 = true := by kernel_rfl
theorem z0_304 : BZ0 304 j0_304 = true := by kernel_rfl
theorem h0_304 : BH0 j0_304 = true := by kernel_rfl
theorem r0_304 : BR0 j0_304 = true := by kernel_rfl
theorem z0_305 : BZ0 305 j0_305 = true := by kernel_rfl
theorem h0_305 : BH0 j0_305 = true := by kernel_rfl
theorem r0_305 : BR0 j0_305 = true := by kernel_rfl
theorem z0_306 : BZ0 306 j0_306 = true := by kernel_rfl
theorem h0_306 : BH0 j0_306 = true := by kernel_rfl
theorem r0_306 : BR0 j0_306 = true := by kernel_rfl
theorem z0_307 : BZ0 307 j0_307 = true := by kernel_rfl
theorem h0_307 : BH0 j0_307 = true := by kernel_rfl
theorem r0_307 : BR0 j0_307 = true := by kernel_rfl
theorem z0_308 : BZ0 308 j0_308 = true := by kernel_rfl
theorem h0_308 : BH0 j0_308 = true := by kernel_rfl
theorem r0_308 : BR0 j0_308 = true := by kernel_rfl
theorem z0_309 : BZ0 309 j0_309 = true := by kernel_rfl
theorem h0_309 : BH0 j0_309 = true := by kernel_rfl
theorem r0_309 : BR0 j0_309 = true := by kernel_rfl
theorem z0_310 : BZ0 310 j0_310 = true := by kernel_rfl
theorem h0_310 : BH0 j0_310 = true := by kernel_rfl
theorem r0_310 : BR0 j0_310 = true := by kernel_rfl
theorem z0_311 : BZ0 311 j0_311 = true := by kernel_rfl
theorem h0_311 : BH0 j0_311 = true := by kernel_rfl
theorem r0_311 : BR0 j0_311 = true := by kernel_rfl
theorem z0_312 : BZ0 312 j0_312 = true := by kernel_rfl
theorem h0_312 : BH0 j0_312 = true := by kernel_rfl
theorem r0_312 : BR0 j0_312 = true := by kernel_rfl
theorem z0_313 : BZ0 313 j0_313 = true := by kernel_rfl
theorem h0_313 : BH0 j0_313 = true := by kernel_rfl
theorem r0_313 : BR0 j0_313 = true := by kernel_rfl
theorem z0_314 : BZ0 314 j0_314 = true := by kernel_rfl
theorem h0_314 : BH0 j0_314 = true := by kernel_rfl
theorem r0_314 : BR0 j0_314 = true := by kernel_rfl
theorem z0_315 : BZ0 315 j0_315 = true := by kernel_rfl
theorem h0_315 : BH0 j0_315 = true := by kernel_rfl
theorem r0_315 : BR0 j0_315 = true := by kernel_rfl
theorem z0_316 : BZ0 316 j0_316 = true := by kernel_rfl
theorem h0_316 : BH0 j0_316 = true := by kernel_rfl
theorem r0_316 : BR0 j0_316 = true := by kernel_rfl
theorem z0_317 : BZ0 317 j0_317 = true := by kernel_rfl
theorem h0_317 : BH0 j0_317 = true := by kernel_rfl
theorem r0_317 : BR0 j0_317 = true := by kernel_rfl
theorem z0_318 : BZ0 318 j0_318 = true := by kernel_rfl
theorem h0_318 : BH0 j0_318 = true := by kernel_rfl
theorem r0_318 : BR0 j0_318 = true := by kernel_rfl
theorem z0_319 : BZ0 319 j0_319 = true := by kernel_rfl
theorem h0_319 : BH0 j0_319 = true := by kernel_rfl
theorem r0_319 : BR0 j0_319 = true := by kernel_rfl
theorem z0_320 : BZ0 320 j0_320 = true := by kernel_rfl
theorem h0_320 : BH0 j0_320 = true := by kernel_rfl
theorem r0_320 : BR0 j0_320 = true := by kernel_rfl
theorem z0_321 : BZ0 321 j0_321 = true := by kernel_rfl
theorem h0_321 : BH0 j0_321 = true := by kernel_rfl
theorem r0_321 : BR0 j0_321 = true := by kernel_rfl
theorem z0_322 : BZ0 322 j0_322 = true := by kernel_rfl
theorem h0_322 : BH0 j0_322 = true := by kernel_rfl
theorem r0_322 : BR0 j0_322 = true := by kernel_rfl
theorem z0_323 : BZ0 323 j0_323 = true := by kernel_rfl
theorem h0_323 : BH0 j0_323 = true := by kernel_rfl
theorem r0_323 : BR0 j0_323 = true := by kernel_rfl
theorem z0_324 : BZ0 324 j0_324 = true := by kernel_rfl
theorem h0_324 : BH0 j0_324 = true := by kernel_rfl
theorem r0_324 : BR0 j0_324 = true := by kernel_rfl
theorem z0_325 : BZ0 325 j0_325 = true := by kernel_rfl
theorem h0_325 : BH0 j0_325 = true := by kernel_rfl
theorem r0_325 : BR0 j0_325 = true := by kernel_rfl
end Go.Proofs.YtkelfdnhgdjaaaaGreat.Ef
