/- What is proved: the walk of CloverKeeps. Conditions: that the arguments can be read. -/
import Derived.Test.YtkelfdnhgdjaaaaCloverKeepsK0
import Derived.Test.YtkelfdnhgdjaaaaCloverKeepsK1
import Derived.Test.YtkelfdnhgdjaaaaCloverKeepsK2
import Derived.Test.YtkelfdnhgdjaaaaCloverKeepsK3
import Derived.Test.YtkelfdnhgdjaaaaCloverKeepsK4
import Derived.Test.YtkelfdnhgdjaaaaCloverKeepsK5
import Derived.Test.YtkelfdnhgdjaaaaCloverKeepsK6
import Derived.Test.YtkelfdnhgdjaaaaCloverKeepsK7
import Derived.Test.YtkelfdnhgdjaaaaCloverKeepsK8
import Derived.Test.YtkelfdnhgdjaaaaCloverKeepsK9
import Derived.Test.YtkelfdnhgdjaaaaTv
namespace Go.Proofs.Ytkelfdnhgdjaaaa.Ef.cloverKeeps
open Go Go.RowKit Go.Proofs.Ytkelfdnhgdjaaaa.Sep Go.Proofs.Ytkelfdnhgdjaaaa.Num Go.Proofs.Ytkelfdnhgdjaaaa.Mem Go.Proofs.Ytkelfdnhgdjaaaa.Ef
open Go.Proofs.Ytkelfdnhgdjaaaa.Ev (Fast)
set_option maxRecDepth 100000
set_option linter.unusedVariables false
def z0 : Tm := (.a2 .eq (i1 102 (.a2 .pair (i2 30 (.var 1) (.lit 2)) (i2 30 (.var 1) (.lit 3)))) (.lit 9))
def z1 : Tm := (.a2 .eq (i1 101 (.a2 .pair (i2 30 (.var 1) (.lit 2)) (i2 30 (.var 1) (.lit 3)))) (.lit 0))
def z2 : Tm := (.a2 .lt (.lit 1) (i1 32 (.var 3)))
def z3 : Tm := (.a2 .eq (i1 102 (.a2 .pair (i2 30 (.var 1) (.lit 0)) (i2 30 (.var 1) (.lit 1)))) (.lit 9))
def z4 : Tm := (.a2 .eq (i1 101 (.a2 .pair (i2 30 (.var 1) (.lit 0)) (i2 30 (.var 1) (.lit 1)))) (.lit 0))
def z5 : Tm := (.a2 .lt (.lit 0) (i1 32 (.var 3)))
theorem allc {p : Cut → Prop} {c : Cut} {l : List Cut} (h : p c) (k : ∀ d ∈ l, p d) : ∀ d ∈ c :: l, p d := fun d hd => (List.mem_cons.1 hd).elim (fun e => e ▸ h) (k d)
theorem kall : ∀ c ∈ Θ, chkCut Try.prog Γ2 mf 1000 sp ks base Θ fin body c = true :=
  allc ck0 <| allc ck1 <| allc ck2 <| allc ck3 <| allc ck4 <| allc ck5 <| allc ck6 <| allc ck7 <| allc ck8 <| allc ck9 <| allc ck10 <| allc ck11 <| allc ck12 <| allc ck13 <| allc ck14 <| allc ck15 <| allc ck16 <| allc ck17 <| allc ck18 <| allc ck19 <| allc ck20 <| allc ck21 <| allc ck22 <| allc ck23 <| allc ck24 <| allc ck25 <| allc ck26 <| allc ck27 <| allc ck28 <| allc ck29 <| allc ck30 <| allc ck31 <| allc ck32 <| allc ck33 <| allc ck34 <| allc ck35 <| allc ck36 <| allc ck37 <| allc ck38 <| allc ck39 <| allc ck40 <| allc ck41 <| allc ck42 <| allc ck43 <| allc ck44 <| allc ck45 <| allc ck46 <| allc ck47 <| allc ck48 <| allc ck49 <| allc ck50 <| allc ck51 <| allc ck52 <| allc ck53 <| allc ck54 <| allc ck55 <| allc ck56 <| allc ck57 <| allc ck58 <| allc ck59 <| allc ck60 <| allc ck61 <| allc ck62 <| allc ck63 <| allc ck64 <| allc ck65 <| allc ck66 <| allc ck67 <| allc ck68 <| allc ck69 <| allc ck70 <| allc ck71 <| allc ck72 <| allc ck73 <| allc ck74 <| allc ck75 <| allc ck76 <| allc ck77 <| allc ck78 <| allc ck79 <| allc ck80 <| allc ck81 <| allc ck82 <| allc ck83 <| allc ck84 <| allc ck85 <| allc ck86 <| allc ck87 <| allc ck88 <| allc ck89 <| allc ck90 <| allc ck91 <| allc ck92 <| allc ck93 <| allc ck94 <| allc ck95 <| allc ck96 <| allc ck97 <| allc ck98 <| allc ck99 <| allc ck100 <| allc ck101 <| allc ck102 <| allc ck103 <| allc ck104 <| allc ck105 <| allc ck106 <| allc ck107 <| allc ck108 <| allc ck109 <| allc ck110 <| allc ck111 <| allc ck112 <| allc ck113 <| allc ck114 <| allc ck115 <| allc ck116 <| allc ck117 <| allc ck118 <| allc ck119 <| allc ck120 <| allc ck121 <| allc ck122 <| allc ck123 <| allc ck124 <| allc ck125 <| allc ck126 <| allc ck127 <| allc ck128 <| allc ck129 <| allc ck130 <| allc ck131 <| allc ck132 <| allc ck133 <| allc ck134 <| allc ck135 <| allc ck136 <| allc ck137 <| allc ck138 <| allc ck139 <| allc ck140 <| allc ck141 <| allc ck142 <| allc ck143 <| allc ck144 <| allc ck145 <| allc ck146 <| allc ck147 <| allc ck148 <| allc ck149 <| allc ck150 <| allc ck151 <| allc ck152 <| allc ck153 <| allc ck154 <| allc ck155 <| allc ck156 <| allc ck157 <| allc ck158 <| allc ck159 <| allc ck160 <| allc ck161 <| allc ck162 <| allc ck163 <| allc ck164 <| allc ck165 <| allc ck166 <| allc ck167 <| allc ck168 <| allc ck169 <| allc ck170 <| allc ck171 <| allc ck172 <| allc ck173 <| allc ck174 <| allc ck175 <| allc ck176 <| allc ck177 <| allc ck178 <| allc ck179 <| allc ck180 <| allc ck181 <| allc ck182 <| allc ck183 <| allc ck184 <| allc ck185 <| allc ck186 <| allc ck187 <| allc ck188 <| allc ck189 <| allc ck190 <| allc ck191 <| allc ck192 <| allc ck193 <| allc ck194 <| allc ck195 <| allc ck196 <| allc ck197 <| allc ck198 <| allc ck199 <| allc ck200 <| allc ck201 <| allc ck202 <| allc ck203 <| allc ck204 <| allc ck205 <| allc ck206 <| allc ck207 <| allc ck208 <| allc ck209 <| allc ck210 <| allc ck211 <| allc ck212 <| allc ck213 <| allc ck214 <| allc ck215 <| allc ck216 <| allc ck217 <| allc ck218 <| allc ck219 <| allc ck220 <| allc ck221 <| allc ck222 <| allc ck223 <| allc ck224 <| allc ck225 <| allc ck226 <| allc ck227 <| allc ck228 <| allc ck229 <| allc ck230 <| allc ck231 <| allc ck232 <| allc ck233 <| allc ck234 <| allc ck235 <| allc ck236 <| allc ck237 <| allc ck238 <| allc ck239 <| allc ck240 <| allc ck241 <| allc ck242 <| allc ck243 <| allc ck244 <| allc ck245 <| allc ck246 <| allc ck247 <| allc ck248 <| allc ck249 <| allc ck250 <| allc ck251 <| allc ck252 <| allc ck253 <| allc ck254 <| allc ck255 <| allc ck256 <| allc ck257 <| allc ck258 <| allc ck259 <| allc ck260 <| allc ck261 <| allc ck262 <| allc ck263 <| allc ck264 <| allc ck265 <| allc ck266 <| allc ck267 <| allc ck268 <| allc ck269 <| allc ck270 <| allc ck271 <| allc ck272 <| allc ck273 <| allc ck274 <| allc ck275 <| allc ck276 <| allc ck277 <| allc ck278 <| allc ck279 <| allc ck280 <| allc ck281 <| allc ck282 <| allc ck283 <| allc ck284 <| allc ck285 <| allc ck286 <| allc ck287 <| allc ck288 <| allc ck289 <| allc ck290 <| allc ck291 <| allc ck292 <| allc ck293 <| allc ck294 <| allc ck295 <| allc ck296 <| allc ck297 <| allc ck298 <| allc ck299 <| allc ck300 <| allc ck301 <| allc ck302 <| allc ck303 <| allc ck304 <| allc ck305 <| allc ck306 <| allc ck307 <| allc ck308 <| allc ck309 <| allc ck310 <| allc ck311 <| allc ck312 <| allc ck313 <| allc ck314 <| allc ck315 <| allc ck316 <| allc ck317 <| allc ck318 <| allc ck319 <| allc ck320 <| allc ck321 <| allc ck322 <| allc ck323 <| allc ck324 <| allc ck325 <| allc ck326 <| allc ck327 <| allc ck328 <| allc ck329 <| allc ck330 <| allc ck331 <| allc ck332 <| allc ck333 <| allc ck334 <| allc ck335 <| allc ck336 <| allc ck337 <| allc ck338 <| allc ck339 <| allc ck340 <| allc ck341 <| allc ck342 <| allc ck343 <| allc ck344 <| allc ck345 <| allc ck346 <| allc ck347 <| allc ck348 <| allc ck349 <| allc ck350 <| allc ck351 <| allc ck352 <| allc ck353 <| allc ck354 <| allc ck355 <| allc ck356 <| allc ck357 <| allc ck358 <| allc ck359 <| allc ck360 <| allc ck361 <| allc ck362 <| allc ck363 <| allc ck364 <| allc ck365 <| allc ck366 <| allc ck367 <| allc ck368 <| allc ck369 <| allc ck370 <| allc ck371 <| allc ck372 <| allc ck373 <| allc ck374 <| allc ck375 <| allc ck376 <| allc ck377 <| allc ck378 <| allc ck379 <| allc ck380 <| allc ck381 <| allc ck382 <| allc ck383 <| allc ck384 <| allc ck385 <| allc ck386 <| allc ck387 <| allc ck388 <| allc ck389 <| allc ck390 <| allc ck391 <| allc ck392 <| allc ck393 <| allc ck394 <| allc ck395 <| allc ck396 <| allc ck397 <| allc ck398 <| allc ck399 <| allc ck400 <| allc ck401 <| allc ck402 <| allc ck403 <| allc ck404 <| allc ck405 <| allc ck406 <| allc ck407 <| allc ck408 <| allc ck409 <| allc ck410 <| allc ck411 <| allc ck412 <| allc ck413 <| allc ck414 <| allc ck415 <| allc ck416 <| allc ck417 <| allc ck418 <| allc ck419 <| allc ck420 <| allc ck421 <| allc ck422 <| allc ck423 <| allc ck424 <| allc ck425 <| allc ck426 <| allc ck427 <| allc ck428 <| allc ck429 <| allc ck430 <| allc ck431 <| allc ck432 <| allc ck433 <| allc ck434 <| allc ck435 <| allc ck436 <| allc ck437 <| allc ck438 <| allc ck439 <| allc ck440 <| allc ck441 <| allc ck442 <| allc ck443 <| allc ck444 <| allc ck445 <| allc ck446 <| allc ck447 <| allc ck448 <| allc ck449 <| allc ck450 <| allc ck451 <| allc ck452 <| allc ck453 <| allc ck454 <| allc ck455 <| allc ck456 <| allc ck457 <| allc ck458 <| allc ck459 <| allc ck460 <| allc ck461 <| allc ck462 <| allc ck463 <| fun d hd => by cases hd
theorem chk0 : (evS Try.prog Γ2 mf 1000 ks body none (Frm.start Try.f5.ntmps args) ⟨[(z0, true), (z1, true), (z2, true), (z3, true), (z4, true), (z5, true)], s0.H, s0.n⟩).allB (okL sp ks base Θ (fun e fr s => (ends Try.prog Try.f5 (e, fr, s)).allB fun q => okV q.1 q.2) none) = true := allHL [0,1,2,0,1,2,3,4,5,3,4,5,3,4,5,3,4,5,0,1,2] (by kernel_rfl)
theorem chk1 : (evS Try.prog Γ2 mf 1000 ks body none (Frm.start Try.f5.ntmps args) ⟨[(z0, false), (z1, true), (z2, true), (z3, true), (z4, true), (z5, true)], s0.H, s0.n⟩).allB (okL sp ks base Θ (fun e fr s => (ends Try.prog Try.f5 (e, fr, s)).allB fun q => okV q.1 q.2) none) = true := allHL [6,7,8,6,7,8,9,10,11,9,10,11,9,10,11,9,10,11,6,7,8] (by kernel_rfl)
theorem chk2 : (evS Try.prog Γ2 mf 1000 ks body none (Frm.start Try.f5.ntmps args) ⟨[(z1, false), (z2, true), (z3, true), (z4, true), (z5, true)], s0.H, s0.n⟩).allB (okL sp ks base Θ (fun e fr s => (ends Try.prog Try.f5 (e, fr, s)).allB fun q => okV q.1 q.2) none) = true := allHL [6,7,8,6,7,8,9,10,11,9,10,11,9,10,11,9,10,11,6,7,8] (by kernel_rfl)
theorem chk3 : (evS Try.prog Γ2 mf 1000 ks body none (Frm.start Try.f5.ntmps args) ⟨[(z2, false), (z3, true), (z4, true), (z5, true)], s0.H, s0.n⟩).allB (okL sp ks base Θ (fun e fr s => (ends Try.prog Try.f5 (e, fr, s)).allB fun q => okV q.1 q.2) none) = true := allHL [0,1,2] (by kernel_rfl)
theorem chk4 : (evS Try.prog Γ2 mf 1000 ks body none (Frm.start Try.f5.ntmps args) ⟨[(z0, true), (z1, true), (z2, true), (z3, false), (z4, true), (z5, true)], s0.H, s0.n⟩).allB (okL sp ks base Θ (fun e fr s => (ends Try.prog Try.f5 (e, fr, s)).allB fun q => okV q.1 q.2) none) = true := allHL [12,13,14,12,13,14,15,16,17,15,16,17,15,16,17,15,16,17,12,13,14] (by kernel_rfl)
theorem chk5 : (evS Try.prog Γ2 mf 1000 ks body none (Frm.start Try.f5.ntmps args) ⟨[(z0, false), (z1, true), (z2, true), (z3, false), (z4, true), (z5, true)], s0.H, s0.n⟩).allB (okL sp ks base Θ (fun e fr s => (ends Try.prog Try.f5 (e, fr, s)).allB fun q => okV q.1 q.2) none) = true := allHL [18,19,20,18,19,20,21,22,23,21,22,23,21,22,23,21,22,23,18,19,20] (by kernel_rfl)
theorem chk6 : (evS Try.prog Γ2 mf 1000 ks body none (Frm.start Try.f5.ntmps args) ⟨[(z1, false), (z2, true), (z3, false), (z4, true), (z5, true)], s0.H, s0.n⟩).allB (okL sp ks base Θ (fun e fr s => (ends Try.prog Try.f5 (e, fr, s)).allB fun q => okV q.1 q.2) none) = true := allHL [18,19,20,18,19,20,21,22,23,21,22,23,21,22,23,21,22,23,18,19,20] (by kernel_rfl)
theorem chk7 : (evS Try.prog Γ2 mf 1000 ks body none (Frm.start Try.f5.ntmps args) ⟨[(z2, false), (z3, false), (z4, true), (z5, true)], s0.H, s0.n⟩).allB (okL sp ks base Θ (fun e fr s => (ends Try.prog Try.f5 (e, fr, s)).allB fun q => okV q.1 q.2) none) = true := allHL [12,13,14] (by kernel_rfl)
theorem chk8 : (evS Try.prog Γ2 mf 1000 ks body none (Frm.start Try.f5.ntmps args) ⟨[(z0, true), (z1, true), (z2, true), (z4, false), (z5, true)], s0.H, s0.n⟩).allB (okL sp ks base Θ (fun e fr s => (ends Try.prog Try.f5 (e, fr, s)).allB fun q => okV q.1 q.2) none) = true := allHL [12,13,14,12,13,14,15,16,17,15,16,17,15,16,17,15,16,17,12,13,14] (by kernel_rfl)
theorem chk9 : (evS Try.prog Γ2 mf 1000 ks body none (Frm.start Try.f5.ntmps args) ⟨[(z0, false), (z1, true), (z2, true), (z4, false), (z5, true)], s0.H, s0.n⟩).allB (okL sp ks base Θ (fun e fr s => (ends Try.prog Try.f5 (e, fr, s)).allB fun q => okV q.1 q.2) none) = true := allHL [18,19,20,18,19,20,21,22,23,21,22,23,21,22,23,21,22,23,18,19,20] (by kernel_rfl)
theorem chk10 : (evS Try.prog Γ2 mf 1000 ks body none (Frm.start Try.f5.ntmps args) ⟨[(z1, false), (z2, true), (z4, false), (z5, true)], s0.H, s0.n⟩).allB (okL sp ks base Θ (fun e fr s => (ends Try.prog Try.f5 (e, fr, s)).allB fun q => okV q.1 q.2) none) = true := allHL [18,19,20,18,19,20,21,22,23,21,22,23,21,22,23,21,22,23,18,19,20] (by kernel_rfl)
theorem chk11 : (evS Try.prog Γ2 mf 1000 ks body none (Frm.start Try.f5.ntmps args) ⟨[(z2, false), (z4, false), (z5, true)], s0.H, s0.n⟩).allB (okL sp ks base Θ (fun e fr s => (ends Try.prog Try.f5 (e, fr, s)).allB fun q => okV q.1 q.2) none) = true := allHL [12,13,14] (by kernel_rfl)
theorem chk12 : (evS Try.prog Γ2 mf 1000 ks body none (Frm.start Try.f5.ntmps args) ⟨[(z5, false)], s0.H, s0.n⟩).allB (okL sp ks base Θ (fun e fr s => (ends Try.prog Try.f5 (e, fr, s)).allB fun q => okV q.1 q.2) none) = true := allHL [0,1,2] (by kernel_rfl)
@[reducible] def vars (w : World) (l0 : List Int) (n0 : Nat) (o0 : Int) (c0 : Nat) (l2 : List Int) (n2 : Nat) (o2 : Int) (c2 : Nat) (l1 : List Int) (ad : Int → Option Addr) : Vars :=
  ⟨fun i => match i with
    | 0 => .o (.old w w.heap.size)
    | 1 => .o (.row l0)
    | 2 => .i o0
    | 3 => .i n0
    | 4 => .i ((c0 : Int) - (n0 : Int))
    | 5 => .o (.row l2)
    | 6 => .i o2
    | 7 => .i n2
    | 8 => .i ((c2 : Int) - (n2 : Int))
    | 9 => .i (l1.getD 0 0)
    | 10 => .i (l1.getD 1 0)
    | 11 => .i (l1.getD 2 0)
    | 12 => .i (l1.getD 3 0)
    | 13 => .i (l1.getD 4 0)
    | 14 => .i (l1.getD 5 0)
    | 15 => .i (l1.getD 6 0)
    | 16 => .i (l1.getD 7 0)
    | 17 => .i (l1.getD 8 0)
    | 18 => .i (l1.getD 9 0)
    | 19 => .i (l1.getD 10 0)
    | 20 => .i (l1.getD 11 0)
    | 21 => .i (l1.getD 12 0)
    | 22 => .i (l1.getD 13 0)
    | 23 => .i (l1.getD 14 0)
    | _ => .i 0, fun _ => undef, ad⟩
theorem cloverKeeps_walk (w : World) (v0 : Value) (l0 : List Int) (n0 : Nat) (h0 : FlatAt w v0 2 l0 n0) (v1 : Value) (l1 : List Int) (h1 : FlatIs v1 15 l1) (v2 : Value) (l2 : List Int) (n2 : Nat) (h2 : FlatAt w v2 1 l2 n2) :
    Calls Try.prog 5 #[v0, v1, v2] w fun e w' => e = .returned (.bool true) ∧ Below w.heap.size w w' := by
  obtain ⟨o0, c0, b0, ao0, L0, R0⟩ := flats_row h0 (by omega) 0
  obtain ⟨o2, c2, b2, ao2, L2, R2⟩ := flats_row h2 (by omega) 1
  let V : Vars := vars w l0 n0 o0 c0 l2 n2 o2 c2 l1 fun x => if x = 0 then ao0 else if x = 1 then ao2 else none
  let β : Bl := fun m => if m = 0 then b0 else if m = 1 then b2 else 0
  have hv1 : ∀ j, j < 15 → @Tm.v _ V (.var (9 + j)) = l1.getD j 0 := by
    intro j hj
    have : j = 0 ∨ j = 1 ∨ j = 2 ∨ j = 3 ∨ j = 4 ∨ j = 5 ∨ j = 6 ∨ j = 7 ∨ j = 8 ∨ j = 9 ∨ j = 10 ∨ j = 11 ∨ j = 12 ∨ j = 13 ∨ j = 14 := by omega
    rcases this with rfl | rfl | rfl | rfl | rfl | rfl | rfl | rfl | rfl | rfl | rfl | rfl | rfl | rfl | rfl <;> rfl
  have hat0 : ∀ e : Pi, @facts _ V e → @At _ V β ⟨e, s0.H, s0.n⟩ w emp := by
    intro e he
    refine ⟨he, hwfB_ok (by kernel_rfl), ?_⟩
    have h : Holds w (OldO (@Tm.den _ V xo) [b0, b2]) := old_start rfl ⟨row_rec R0.r, row_rec R2.r, trivial⟩
    refine h.cast ?_
    show _ = ((OldO (@Tm.den _ V xo) [b0, b2] * emp) * emp : HProp)
    rw [star_comm, star_emp, star_comm, star_emp]
  have e0 : @SV.den _ V β (.c (rowV 0 1)) = v0 := row_den R0 rfl rfl rfl L0 rfl fun hh => by
    have := R0.i hh
    subst this
    rfl
  have e1 : @SV.den _ V β (.a (.agg (flatv 9 15))) = v1 := flat_den h1 hv1
  have e2 : @SV.den _ V β (.c (rowV 1 5)) = v2 := row_den R2 rfl rfl rfl L2 rfl fun hh => by
    have := R2.i hh
    subst this
    rfl
  have hargs : (args.map (@SV.den _ V β)).toArray = #[v0, v1, v2] := by
    show #[@SV.den _ V β (.c (rowV 0 1)), @SV.den _ V β (.a (.agg (flatv 9 15))), @SV.den _ V β (.c (rowV 1 5))] = _
    rw [e0, e1, e2]
  rw [← hargs]
  have core : ∀ e : Pi, @facts _ V e → (evS Try.prog Γ2 mf 1000 ks body none (Frm.start Try.f5.ntmps args) ⟨e, s0.H, s0.n⟩).allB (okL sp ks base Θ (fun e fr s => (ends Try.prog Try.f5 (e, fr, s)).allB fun q => okV q.1 q.2) none) = true → Calls Try.prog 5 (args.map (@SV.den _ V β)).toArray w fun e w' => e = .returned (.bool true) ∧ Below w.heap.size w w' := by
    intro e he chk0
    have hat := hat0 e he
    refine (calls_of_cuts (V0 := V) (P := Try.prog) (okP := fun {_} => abL_ok Try.prog) noGos mixedOrders (fun _ => Γ2_ok) (okV := okV) (f := 5) (fn := Try.f5) (body := body) (by kernel_rfl) (by kernel_rfl) (by kernel_rfl) chk0 kall (β := β) (w := w) (R := emp) ?_ ?_ hat).mono ?_
    · intro x hx
      simp only [args, List.mem_cons, List.not_mem_nil, or_false] at hx
      rcases hx with rfl | rfl | rfl
      · exact (by omega : 0 < 3)
      · exact lwfB_ok (by kernel_rfl)
      · exact (by omega : 1 < 3)
    · intro x hx
      simp only [args, List.mem_cons, List.not_mem_nil, or_false] at hx
      rcases hx with rfl | rfl | rfl <;> rfl
    · rintro e w' ⟨V', β', u, s', hV, hok, rfl, hat', hs⟩
      have hq : oldOf (V'.ρ 0) = some (w, w.heap.size) := by
        rw [hV 0 (by first | omega | (unfold base; omega))]
        rfl
      obtain ⟨g1, g2⟩ := okT_ok hok rfl hat' hq hs
      exact ⟨by rw [g1], g2⟩
  cases h_0 : @Tm.tv _ V z5 with
  | true =>
    cases h_1 : @Tm.tv _ V z4 with
    | true =>
      cases h_2 : @Tm.tv _ V z3 with
      | true =>
        cases h_3 : @Tm.tv _ V z2 with
        | true =>
          cases h_4 : @Tm.tv _ V z1 with
          | true =>
            cases h_5 : @Tm.tv _ V z0 with
            | true =>
              exact core _ (facts_cons (facts_cons (facts_cons (facts_cons (facts_cons (facts_cons facts_nil h_0) h_1) h_2) h_3) h_4) h_5) chk0
            | false =>
              exact core _ (facts_cons (facts_cons (facts_cons (facts_cons (facts_cons (facts_cons facts_nil h_0) h_1) h_2) h_3) h_4) h_5) chk1
          | false =>
            exact core _ (facts_cons (facts_cons (facts_cons (facts_cons (facts_cons facts_nil h_0) h_1) h_2) h_3) h_4) chk2
        | false =>
          exact core _ (facts_cons (facts_cons (facts_cons (facts_cons facts_nil h_0) h_1) h_2) h_3) chk3
      | false =>
        cases h_3 : @Tm.tv _ V z2 with
        | true =>
          cases h_4 : @Tm.tv _ V z1 with
          | true =>
            cases h_5 : @Tm.tv _ V z0 with
            | true =>
              exact core _ (facts_cons (facts_cons (facts_cons (facts_cons (facts_cons (facts_cons facts_nil h_0) h_1) h_2) h_3) h_4) h_5) chk4
            | false =>
              exact core _ (facts_cons (facts_cons (facts_cons (facts_cons (facts_cons (facts_cons facts_nil h_0) h_1) h_2) h_3) h_4) h_5) chk5
          | false =>
            exact core _ (facts_cons (facts_cons (facts_cons (facts_cons (facts_cons facts_nil h_0) h_1) h_2) h_3) h_4) chk6
        | false =>
          exact core _ (facts_cons (facts_cons (facts_cons (facts_cons facts_nil h_0) h_1) h_2) h_3) chk7
    | false =>
      cases h_2 : @Tm.tv _ V z2 with
      | true =>
        cases h_3 : @Tm.tv _ V z1 with
        | true =>
          cases h_4 : @Tm.tv _ V z0 with
          | true =>
            exact core _ (facts_cons (facts_cons (facts_cons (facts_cons (facts_cons facts_nil h_0) h_1) h_2) h_3) h_4) chk8
          | false =>
            exact core _ (facts_cons (facts_cons (facts_cons (facts_cons (facts_cons facts_nil h_0) h_1) h_2) h_3) h_4) chk9
        | false =>
          exact core _ (facts_cons (facts_cons (facts_cons (facts_cons facts_nil h_0) h_1) h_2) h_3) chk10
      | false =>
        exact core _ (facts_cons (facts_cons (facts_cons facts_nil h_0) h_1) h_2) chk11
  | false =>
    exact core _ (facts_cons facts_nil h_0) chk12
end Go.Proofs.Ytkelfdnhgdjaaaa.Ef.cloverKeeps
