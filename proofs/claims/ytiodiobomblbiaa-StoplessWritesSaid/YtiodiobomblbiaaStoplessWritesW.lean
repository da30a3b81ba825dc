/- What is proved: the walk of StoplessWrites. Conditions: that the arguments can be read. -/
import Derived.Test.YtiodiobomblbiaaStoplessWritesK0
import Derived.Test.YtiodiobomblbiaaStoplessWritesK1
import Derived.Test.YtiodiobomblbiaaStoplessWritesK2
import Derived.Test.YtiodiobomblbiaaStoplessWritesK3
import Derived.Test.YtiodiobomblbiaaStoplessWritesK4
import Derived.Test.YtiodiobomblbiaaStoplessWritesK5
import Derived.Test.YtiodiobomblbiaaStoplessWritesK6
import Derived.Test.YtiodiobomblbiaaStoplessWritesK7
import Derived.Test.YtiodiobomblbiaaStoplessWritesS0
import Derived.Test.YtiodiobomblbiaaStoplessWritesS1
import Derived.Test.YtiodiobomblbiaaStoplessWritesS2
import Derived.Test.YtiodiobomblbiaaStoplessWritesS3
import Derived.Test.YtiodiobomblbiaaStoplessWritesS4
import Derived.Test.YtiodiobomblbiaaStoplessWritesS5
import Derived.Test.YtiodiobomblbiaaTv
namespace Go.Proofs.Ytiodiobomblbiaa.Ef.stoplessWrites
open Go Go.RowKit Go.Proofs.Ytiodiobomblbiaa.Sep Go.Proofs.Ytiodiobomblbiaa.Num Go.Proofs.Ytiodiobomblbiaa.Mem Go.Proofs.Ytiodiobomblbiaa.Ef
open Go.Proofs.Ytiodiobomblbiaa.Ev (Fast)
set_option maxRecDepth 100000
set_option linter.unusedVariables false
theorem allc {p : Cut → Prop} {c : Cut} {l : List Cut} (h : p c) (k : ∀ d ∈ l, p d) : ∀ d ∈ c :: l, p d := fun d hd => (List.mem_cons.1 hd).elim (fun e => e ▸ h) (k d)
theorem kall : ∀ c ∈ Θ, chkCut Try.prog Γ2 mf 1000 sp ks base Θ fin body c = true :=
  allc ck0 <| allc ck1 <| allc ck2 <| allc ck3 <| allc ck4 <| allc ck5 <| allc ck6 <| allc ck7 <| allc ck8 <| allc ck9 <| allc ck10 <| allc ck11 <| allc ck12 <| allc ck13 <| allc ck14 <| allc ck15 <| allc ck16 <| allc ck17 <| allc ck18 <| allc ck19 <| allc ck20 <| allc ck21 <| allc ck22 <| allc ck23 <| allc ck24 <| allc ck25 <| allc ck26 <| allc ck27 <| allc ck28 <| allc ck29 <| allc ck30 <| allc ck31 <| allc ck32 <| allc ck33 <| allc ck34 <| allc ck35 <| allc ck36 <| allc ck37 <| allc ck38 <| allc ck39 <| allc ck40 <| allc ck41 <| allc ck42 <| allc ck43 <| allc ck44 <| allc ck45 <| allc ck46 <| allc ck47 <| allc ck48 <| allc ck49 <| allc ck50 <| allc ck51 <| allc ck52 <| allc ck53 <| allc ck54 <| allc ck55 <| allc ck56 <| allc ck57 <| allc ck58 <| allc ck59 <| allc ck60 <| allc ck61 <| allc ck62 <| allc ck63 <| allc ck64 <| allc ck65 <| allc ck66 <| allc ck67 <| allc ck68 <| allc ck69 <| allc ck70 <| allc ck71 <| allc ck72 <| allc ck73 <| allc ck74 <| allc ck75 <| allc ck76 <| allc ck77 <| allc ck78 <| allc ck79 <| allc ck80 <| allc ck81 <| allc ck82 <| allc ck83 <| allc ck84 <| allc ck85 <| allc ck86 <| allc ck87 <| allc ck88 <| allc ck89 <| allc ck90 <| allc ck91 <| allc ck92 <| allc ck93 <| allc ck94 <| allc ck95 <| allc ck96 <| allc ck97 <| allc ck98 <| allc ck99 <| allc ck100 <| allc ck101 <| allc ck102 <| allc ck103 <| allc ck104 <| allc ck105 <| allc ck106 <| allc ck107 <| allc ck108 <| allc ck109 <| allc ck110 <| allc ck111 <| allc ck112 <| allc ck113 <| allc ck114 <| allc ck115 <| allc ck116 <| allc ck117 <| allc ck118 <| allc ck119 <| allc ck120 <| allc ck121 <| allc ck122 <| allc ck123 <| allc ck124 <| allc ck125 <| allc ck126 <| allc ck127 <| allc ck128 <| allc ck129 <| allc ck130 <| allc ck131 <| allc ck132 <| allc ck133 <| allc ck134 <| allc ck135 <| allc ck136 <| allc ck137 <| allc ck138 <| allc ck139 <| allc ck140 <| allc ck141 <| allc ck142 <| allc ck143 <| allc ck144 <| allc ck145 <| allc ck146 <| allc ck147 <| allc ck148 <| allc ck149 <| allc ck150 <| allc ck151 <| allc ck152 <| allc ck153 <| allc ck154 <| allc ck155 <| allc ck156 <| allc ck157 <| allc ck158 <| allc ck159 <| allc ck160 <| allc ck161 <| allc ck162 <| allc ck163 <| allc ck164 <| allc ck165 <| allc ck166 <| allc ck167 <| allc ck168 <| allc ck169 <| allc ck170 <| allc ck171 <| allc ck172 <| allc ck173 <| allc ck174 <| allc ck175 <| allc ck176 <| allc ck177 <| allc ck178 <| allc ck179 <| allc ck180 <| allc ck181 <| allc ck182 <| allc ck183 <| allc ck184 <| allc ck185 <| allc ck186 <| allc ck187 <| allc ck188 <| allc ck189 <| allc ck190 <| allc ck191 <| allc ck192 <| allc ck193 <| allc ck194 <| allc ck195 <| allc ck196 <| allc ck197 <| allc ck198 <| allc ck199 <| allc ck200 <| allc ck201 <| allc ck202 <| allc ck203 <| allc ck204 <| allc ck205 <| allc ck206 <| allc ck207 <| allc ck208 <| allc ck209 <| allc ck210 <| allc ck211 <| allc ck212 <| allc ck213 <| allc ck214 <| allc ck215 <| allc ck216 <| allc ck217 <| allc ck218 <| allc ck219 <| allc ck220 <| allc ck221 <| allc ck222 <| allc ck223 <| allc ck224 <| allc ck225 <| allc ck226 <| allc ck227 <| allc ck228 <| allc ck229 <| allc ck230 <| allc ck231 <| allc ck232 <| allc ck233 <| allc ck234 <| allc ck235 <| allc ck236 <| allc ck237 <| allc ck238 <| allc ck239 <| allc ck240 <| allc ck241 <| allc ck242 <| allc ck243 <| allc ck244 <| allc ck245 <| allc ck246 <| allc ck247 <| allc ck248 <| allc ck249 <| allc ck250 <| allc ck251 <| allc ck252 <| allc ck253 <| allc ck254 <| allc ck255 <| allc ck256 <| allc ck257 <| allc ck258 <| allc ck259 <| allc ck260 <| allc ck261 <| allc ck262 <| allc ck263 <| allc ck264 <| allc ck265 <| allc ck266 <| allc ck267 <| allc ck268 <| allc ck269 <| allc ck270 <| allc ck271 <| allc ck272 <| allc ck273 <| allc ck274 <| allc ck275 <| allc ck276 <| allc ck277 <| allc ck278 <| allc ck279 <| allc ck280 <| allc ck281 <| allc ck282 <| allc ck283 <| allc ck284 <| allc ck285 <| allc ck286 <| allc ck287 <| allc ck288 <| allc ck289 <| allc ck290 <| allc ck291 <| allc ck292 <| allc ck293 <| allc ck294 <| allc ck295 <| allc ck296 <| allc ck297 <| allc ck298 <| allc ck299 <| allc ck300 <| allc ck301 <| allc ck302 <| allc ck303 <| allc ck304 <| allc ck305 <| allc ck306 <| allc ck307 <| allc ck308 <| allc ck309 <| allc ck310 <| allc ck311 <| allc ck312 <| allc ck313 <| allc ck314 <| allc ck315 <| allc ck316 <| allc ck317 <| allc ck318 <| allc ck319 <| allc ck320 <| allc ck321 <| allc ck322 <| allc ck323 <| allc ck324 <| allc ck325 <| allc ck326 <| allc ck327 <| allc ck328 <| allc ck329 <| allc ck330 <| allc ck331 <| allc ck332 <| allc ck333 <| allc ck334 <| allc ck335 <| allc ck336 <| allc ck337 <| allc ck338 <| allc ck339 <| allc ck340 <| allc ck341 <| allc ck342 <| allc ck343 <| allc ck344 <| allc ck345 <| allc ck346 <| allc ck347 <| allc ck348 <| allc ck349 <| allc ck350 <| allc ck351 <| allc ck352 <| allc ck353 <| allc ck354 <| allc ck355 <| allc ck356 <| allc ck357 <| allc ck358 <| allc ck359 <| allc ck360 <| allc ck361 <| allc ck362 <| allc ck363 <| allc ck364 <| allc ck365 <| allc ck366 <| allc ck367 <| allc ck368 <| allc ck369 <| allc ck370 <| allc ck371 <| allc ck372 <| allc ck373 <| allc ck374 <| allc ck375 <| allc ck376 <| allc ck377 <| allc ck378 <| allc ck379 <| allc ck380 <| allc ck381 <| allc ck382 <| allc ck383 <| fun d hd => by cases hd
@[reducible] def vars (w : World) (l101 : List Int) (n101 : Nat) (o101 : Int) (c101 : Nat) (l102 : List Int) (n102 : Nat) (o102 : Int) (c102 : Nat) (a100 : Int) (l1 : List Int) (ad : Int → Option Addr) : Vars :=
  ⟨fun i => match i with
    | 0 => .o (.old w w.heap.size)
    | 1 => .o (.row l101)
    | 2 => .i o101
    | 3 => .i n101
    | 4 => .i ((c101 : Int) - (n101 : Int))
    | 5 => .o (.row l102)
    | 6 => .i o102
    | 7 => .i n102
    | 8 => .i ((c102 : Int) - (n102 : Int))
    | 9 => .i a100
    | 10 => .i (l1.getD 0 0)
    | 11 => .i (l1.getD 1 0)
    | 12 => .i (l1.getD 2 0)
    | 13 => .i (l1.getD 3 0)
    | 14 => .i (l1.getD 4 0)
    | 15 => .i (l1.getD 5 0)
    | 16 => .i (l1.getD 6 0)
    | 17 => .i (l1.getD 7 0)
    | 18 => .i (l1.getD 8 0)
    | 19 => .i (l1.getD 9 0)
    | 20 => .i (l1.getD 10 0)
    | 21 => .i (l1.getD 11 0)
    | 22 => .i (l1.getD 12 0)
    | 23 => .i (l1.getD 13 0)
    | 24 => .i (l1.getD 14 0)
    | _ => .i 0, fun _ => undef, ad⟩
theorem stoplessWrites_walk (w : World) (a100 : Int) (h100 : -9223372036854775808 ≤ a100 ∧ a100 ≤ 9223372036854775807) (v101 : Value) (l101 : List Int) (n101 : Nat) (h101 : FlatAt w v101 1 l101 n101) (v102 : Value) (l102 : List Int) (n102 : Nat) (h102 : FlatAt w v102 2 l102 n102) (v1 : Value) (l1 : List Int) (h1 : FlatIs v1 15 l1) :
    Calls Try.prog 5 #[.agg #[.int .i64 a100, v101, v102], v1] w fun e w' => e = .returned (.bool true) ∧ Below w.heap.size w w' := by
  obtain ⟨o101, c101, b101, ao101, L101, R101⟩ := flats_row h101 (by omega) 0
  obtain ⟨o102, c102, b102, ao102, L102, R102⟩ := flats_row h102 (by omega) 1
  let V : Vars := vars w l101 n101 o101 c101 l102 n102 o102 c102 a100 l1 fun x => if x = 0 then ao101 else if x = 1 then ao102 else none
  let β : Bl := fun m => if m = 0 then b101 else if m = 1 then b102 else 0
  have hv1 : ∀ j, j < 15 → @Tm.v _ V (.var (10 + j)) = l1.getD j 0 := by
    intro j hj
    have : j = 0 ∨ j = 1 ∨ j = 2 ∨ j = 3 ∨ j = 4 ∨ j = 5 ∨ j = 6 ∨ j = 7 ∨ j = 8 ∨ j = 9 ∨ j = 10 ∨ j = 11 ∨ j = 12 ∨ j = 13 ∨ j = 14 := by omega
    rcases this with rfl | rfl | rfl | rfl | rfl | rfl | rfl | rfl | rfl | rfl | rfl | rfl | rfl | rfl | rfl <;> rfl
  have hat0 : ∀ e : Pi, @facts _ V e → @At _ V β ⟨e, s0.H, s0.n⟩ w emp := by
    intro e he
    refine ⟨he, hwfB_ok (by kernel_rfl), ?_⟩
    have h : Holds w (OldO (@Tm.den _ V xo) [b101, b102]) := old_start rfl ⟨row_rec R101.r, row_rec R102.r, trivial⟩
    refine h.cast ?_
    show _ = ((OldO (@Tm.den _ V xo) [b101, b102] * emp) * emp : HProp)
    rw [star_comm, star_emp, star_comm, star_emp]
  have e100 : @SV.den _ V β (.c (.int .i64 (iv 9))) = .int .i64 a100 := int_den h100 rfl
  have e101 : @SV.den _ V β (.c (rowV 0 1)) = v101 := row_den R101 rfl rfl rfl L101 rfl fun hh => by
    have := R101.i hh
    subst this
    rfl
  have e102 : @SV.den _ V β (.c (rowV 1 5)) = v102 := row_den R102 rfl rfl rfl L102 rfl fun hh => by
    have := R102.i hh
    subst this
    rfl
  have e1 : @SV.den _ V β (.a (.agg (flatv 10 15))) = v1 := flat_den h1 hv1
  have E0 : @SV.den _ V β (.a (.agg [(.int .i64 (iv 9)), (rowV 0 1), (rowV 1 5)])) = .agg #[.int .i64 a100, v101, v102] := by
    show Value.agg #[@SV.den _ V β (.c (.int .i64 (iv 9))), @SV.den _ V β (.c (rowV 0 1)), @SV.den _ V β (.c (rowV 1 5))] = _
    rw [e100, e101, e102]
  have hargs : (args.map (@SV.den _ V β)).toArray = #[.agg #[.int .i64 a100, v101, v102], v1] := by
    show #[@SV.den _ V β (.a (.agg [(.int .i64 (iv 9)), (rowV 0 1), (rowV 1 5)])), @SV.den _ V β (.a (.agg (flatv 10 15)))] = _
    rw [E0, e1]
  rw [← hargs]
  have core : ∀ e : Pi, @facts _ V e → (evS Try.prog Γ2 mf 1000 ks body none (Frm.start Try.f5.ntmps args) ⟨e, s0.H, s0.n⟩).allB (okL sp ks base Θ (fun e fr s => (ends Try.prog Try.f5 (e, fr, s)).allB fun q => okV q.1 q.2) none) = true → Calls Try.prog 5 (args.map (@SV.den _ V β)).toArray w fun e w' => e = .returned (.bool true) ∧ Below w.heap.size w w' := by
    intro e he chk0
    have hat := hat0 e he
    refine (calls_of_cuts (V0 := V) (P := Try.prog) (okP := fun {_} => abL_ok Try.prog) noGos mixedOrders (fun _ => Γ2_ok) (okV := okV) (f := 5) (fn := Try.f5) (body := body) (by kernel_rfl) (by kernel_rfl) (by kernel_rfl) chk0 kall (β := β) (w := w) (R := emp) ?_ ?_ hat).mono ?_
    · intro x hx
      simp only [args, List.mem_cons, List.not_mem_nil, or_false] at hx
      rcases hx with rfl | rfl
      · exact lwfB_ok (by kernel_rfl)
      · exact lwfB_ok (by kernel_rfl)
    · intro x hx
      simp only [args, List.mem_cons, List.not_mem_nil, or_false] at hx
      rcases hx with rfl | rfl <;> rfl
    · rintro e w' ⟨V', β', u, s', hV, hok, rfl, hat', hs⟩
      have hq : oldOf (V'.ρ 0) = some (w, w.heap.size) := by
        rw [hV 0 (by first | omega | (unfold base; omega))]
        rfl
      obtain ⟨g1, g2⟩ := okT_ok hok rfl hat' hq hs
      exact ⟨by rw [g1], g2⟩
  cases h0_0 : @Tm.tv _ V (.a2 .lt (nv 3) (.lit 1)) with
  | true =>
    cases h1_0 : @Tm.tv _ V (.a2 .lt (nv 3) (.lit 2)) with
    | true =>
      exact core _ (facts_cons (facts_cons facts_nil h1_0) h0_0) chk0
    | false =>
      cases h1_1 : @Tm.tv _ V (.a2 .lt (i1 1005 (i2 30 (.var 1) (.lit 1))) (.lit 1)) with
      | true =>
        exact core _ (facts_cons (facts_cons (facts_cons facts_nil h1_1) h1_0) h0_0) chk1
      | false =>
        cases h1_2 : @Tm.tv _ V (.a2 .lt (i1 1005 (i2 30 (.var 1) (.lit 1))) (.lit 2)) with
        | true =>
          exact core _ (facts_cons (facts_cons (facts_cons (facts_cons facts_nil h1_2) h1_1) h1_0) h0_0) chk2
        | false =>
          cases h1_3 : @Tm.tv _ V (.a2 .lt (i1 1005 (i2 30 (.var 1) (.lit 1))) (.lit 3)) with
          | true =>
            exact core _ (facts_cons (facts_cons (facts_cons (facts_cons (facts_cons facts_nil h1_3) h1_2) h1_1) h1_0) h0_0) chk3
          | false =>
            cases h1_4 : @Tm.tv _ V (.a2 .lt (i1 1005 (i2 30 (.var 1) (.lit 1))) (.lit 4)) with
            | true =>
              exact core _ (facts_cons (facts_cons (facts_cons (facts_cons (facts_cons (facts_cons facts_nil h1_4) h1_3) h1_2) h1_1) h1_0) h0_0) chk4
            | false =>
              exact core _ (facts_cons (facts_cons (facts_cons (facts_cons (facts_cons (facts_cons facts_nil h1_4) h1_3) h1_2) h1_1) h1_0) h0_0) chk5
  | false =>
    cases h0_1 : @Tm.tv _ V (.a2 .lt (i1 1005 (i2 30 (.var 1) (.lit 0))) (.lit 1)) with
    | true =>
      cases h1_0 : @Tm.tv _ V (.a2 .lt (nv 3) (.lit 2)) with
      | true =>
        exact core _ (facts_cons (facts_cons (facts_cons facts_nil h1_0) h0_1) h0_0) chk6
      | false =>
        cases h1_1 : @Tm.tv _ V (.a2 .lt (i1 1005 (i2 30 (.var 1) (.lit 1))) (.lit 1)) with
        | true =>
          exact core _ (facts_cons (facts_cons (facts_cons (facts_cons facts_nil h1_1) h1_0) h0_1) h0_0) chk7
        | false =>
          cases h1_2 : @Tm.tv _ V (.a2 .lt (i1 1005 (i2 30 (.var 1) (.lit 1))) (.lit 2)) with
          | true =>
            exact core _ (facts_cons (facts_cons (facts_cons (facts_cons (facts_cons facts_nil h1_2) h1_1) h1_0) h0_1) h0_0) chk8
          | false =>
            cases h1_3 : @Tm.tv _ V (.a2 .lt (i1 1005 (i2 30 (.var 1) (.lit 1))) (.lit 3)) with
            | true =>
              exact core _ (facts_cons (facts_cons (facts_cons (facts_cons (facts_cons (facts_cons facts_nil h1_3) h1_2) h1_1) h1_0) h0_1) h0_0) chk9
            | false =>
              cases h1_4 : @Tm.tv _ V (.a2 .lt (i1 1005 (i2 30 (.var 1) (.lit 1))) (.lit 4)) with
              | true =>
                exact core _ (facts_cons (facts_cons (facts_cons (facts_cons (facts_cons (facts_cons (facts_cons facts_nil h1_4) h1_3) h1_2) h1_1) h1_0) h0_1) h0_0) chk10
              | false =>
                exact core _ (facts_cons (facts_cons (facts_cons (facts_cons (facts_cons (facts_cons (facts_cons facts_nil h1_4) h1_3) h1_2) h1_1) h1_0) h0_1) h0_0) chk11
    | false =>
      cases h0_2 : @Tm.tv _ V (.a2 .lt (i1 1005 (i2 30 (.var 1) (.lit 0))) (.lit 2)) with
      | true =>
        cases h1_0 : @Tm.tv _ V (.a2 .lt (nv 3) (.lit 2)) with
        | true =>
          exact core _ (facts_cons (facts_cons (facts_cons (facts_cons facts_nil h1_0) h0_2) h0_1) h0_0) chk12
        | false =>
          cases h1_1 : @Tm.tv _ V (.a2 .lt (i1 1005 (i2 30 (.var 1) (.lit 1))) (.lit 1)) with
          | true =>
            exact core _ (facts_cons (facts_cons (facts_cons (facts_cons (facts_cons facts_nil h1_1) h1_0) h0_2) h0_1) h0_0) chk13
          | false =>
            cases h1_2 : @Tm.tv _ V (.a2 .lt (i1 1005 (i2 30 (.var 1) (.lit 1))) (.lit 2)) with
            | true =>
              exact core _ (facts_cons (facts_cons (facts_cons (facts_cons (facts_cons (facts_cons facts_nil h1_2) h1_1) h1_0) h0_2) h0_1) h0_0) chk14
            | false =>
              cases h1_3 : @Tm.tv _ V (.a2 .lt (i1 1005 (i2 30 (.var 1) (.lit 1))) (.lit 3)) with
              | true =>
                exact core _ (facts_cons (facts_cons (facts_cons (facts_cons (facts_cons (facts_cons (facts_cons facts_nil h1_3) h1_2) h1_1) h1_0) h0_2) h0_1) h0_0) chk15
              | false =>
                cases h1_4 : @Tm.tv _ V (.a2 .lt (i1 1005 (i2 30 (.var 1) (.lit 1))) (.lit 4)) with
                | true =>
                  exact core _ (facts_cons (facts_cons (facts_cons (facts_cons (facts_cons (facts_cons (facts_cons (facts_cons facts_nil h1_4) h1_3) h1_2) h1_1) h1_0) h0_2) h0_1) h0_0) chk16
                | false =>
                  exact core _ (facts_cons (facts_cons (facts_cons (facts_cons (facts_cons (facts_cons (facts_cons (facts_cons facts_nil h1_4) h1_3) h1_2) h1_1) h1_0) h0_2) h0_1) h0_0) chk17
      | false =>
        cases h0_3 : @Tm.tv _ V (.a2 .lt (i1 1005 (i2 30 (.var 1) (.lit 0))) (.lit 3)) with
        | true =>
          cases h1_0 : @Tm.tv _ V (.a2 .lt (nv 3) (.lit 2)) with
          | true =>
            exact core _ (facts_cons (facts_cons (facts_cons (facts_cons (facts_cons facts_nil h1_0) h0_3) h0_2) h0_1) h0_0) chk18
          | false =>
            cases h1_1 : @Tm.tv _ V (.a2 .lt (i1 1005 (i2 30 (.var 1) (.lit 1))) (.lit 1)) with
            | true =>
              exact core _ (facts_cons (facts_cons (facts_cons (facts_cons (facts_cons (facts_cons facts_nil h1_1) h1_0) h0_3) h0_2) h0_1) h0_0) chk19
            | false =>
              cases h1_2 : @Tm.tv _ V (.a2 .lt (i1 1005 (i2 30 (.var 1) (.lit 1))) (.lit 2)) with
              | true =>
                exact core _ (facts_cons (facts_cons (facts_cons (facts_cons (facts_cons (facts_cons (facts_cons facts_nil h1_2) h1_1) h1_0) h0_3) h0_2) h0_1) h0_0) chk20
              | false =>
                cases h1_3 : @Tm.tv _ V (.a2 .lt (i1 1005 (i2 30 (.var 1) (.lit 1))) (.lit 3)) with
                | true =>
                  exact core _ (facts_cons (facts_cons (facts_cons (facts_cons (facts_cons (facts_cons (facts_cons (facts_cons facts_nil h1_3) h1_2) h1_1) h1_0) h0_3) h0_2) h0_1) h0_0) chk21
                | false =>
                  cases h1_4 : @Tm.tv _ V (.a2 .lt (i1 1005 (i2 30 (.var 1) (.lit 1))) (.lit 4)) with
                  | true =>
                    exact core _ (facts_cons (facts_cons (facts_cons (facts_cons (facts_cons (facts_cons (facts_cons (facts_cons (facts_cons facts_nil h1_4) h1_3) h1_2) h1_1) h1_0) h0_3) h0_2) h0_1) h0_0) chk22
                  | false =>
                    exact core _ (facts_cons (facts_cons (facts_cons (facts_cons (facts_cons (facts_cons (facts_cons (facts_cons (facts_cons facts_nil h1_4) h1_3) h1_2) h1_1) h1_0) h0_3) h0_2) h0_1) h0_0) chk23
        | false =>
          cases h0_4 : @Tm.tv _ V (.a2 .lt (i1 1005 (i2 30 (.var 1) (.lit 0))) (.lit 4)) with
          | true =>
            cases h1_0 : @Tm.tv _ V (.a2 .lt (nv 3) (.lit 2)) with
            | true =>
              exact core _ (facts_cons (facts_cons (facts_cons (facts_cons (facts_cons (facts_cons facts_nil h1_0) h0_4) h0_3) h0_2) h0_1) h0_0) chk24
            | false =>
              cases h1_1 : @Tm.tv _ V (.a2 .lt (i1 1005 (i2 30 (.var 1) (.lit 1))) (.lit 1)) with
              | true =>
                exact core _ (facts_cons (facts_cons (facts_cons (facts_cons (facts_cons (facts_cons (facts_cons facts_nil h1_1) h1_0) h0_4) h0_3) h0_2) h0_1) h0_0) chk25
              | false =>
                cases h1_2 : @Tm.tv _ V (.a2 .lt (i1 1005 (i2 30 (.var 1) (.lit 1))) (.lit 2)) with
                | true =>
                  exact core _ (facts_cons (facts_cons (facts_cons (facts_cons (facts_cons (facts_cons (facts_cons (facts_cons facts_nil h1_2) h1_1) h1_0) h0_4) h0_3) h0_2) h0_1) h0_0) chk26
                | false =>
                  cases h1_3 : @Tm.tv _ V (.a2 .lt (i1 1005 (i2 30 (.var 1) (.lit 1))) (.lit 3)) with
                  | true =>
                    exact core _ (facts_cons (facts_cons (facts_cons (facts_cons (facts_cons (facts_cons (facts_cons (facts_cons (facts_cons facts_nil h1_3) h1_2) h1_1) h1_0) h0_4) h0_3) h0_2) h0_1) h0_0) chk27
                  | false =>
                    cases h1_4 : @Tm.tv _ V (.a2 .lt (i1 1005 (i2 30 (.var 1) (.lit 1))) (.lit 4)) with
                    | true =>
                      exact core _ (facts_cons (facts_cons (facts_cons (facts_cons (facts_cons (facts_cons (facts_cons (facts_cons (facts_cons (facts_cons facts_nil h1_4) h1_3) h1_2) h1_1) h1_0) h0_4) h0_3) h0_2) h0_1) h0_0) chk28
                    | false =>
                      exact core _ (facts_cons (facts_cons (facts_cons (facts_cons (facts_cons (facts_cons (facts_cons (facts_cons (facts_cons (facts_cons facts_nil h1_4) h1_3) h1_2) h1_1) h1_0) h0_4) h0_3) h0_2) h0_1) h0_0) chk29
          | false =>
            cases h1_0 : @Tm.tv _ V (.a2 .lt (nv 3) (.lit 2)) with
            | true =>
              exact core _ (facts_cons (facts_cons (facts_cons (facts_cons (facts_cons (facts_cons facts_nil h1_0) h0_4) h0_3) h0_2) h0_1) h0_0) chk30
            | false =>
              cases h1_1 : @Tm.tv _ V (.a2 .lt (i1 1005 (i2 30 (.var 1) (.lit 1))) (.lit 1)) with
              | true =>
                exact core _ (facts_cons (facts_cons (facts_cons (facts_cons (facts_cons (facts_cons (facts_cons facts_nil h1_1) h1_0) h0_4) h0_3) h0_2) h0_1) h0_0) chk31
              | false =>
                cases h1_2 : @Tm.tv _ V (.a2 .lt (i1 1005 (i2 30 (.var 1) (.lit 1))) (.lit 2)) with
                | true =>
                  exact core _ (facts_cons (facts_cons (facts_cons (facts_cons (facts_cons (facts_cons (facts_cons (facts_cons facts_nil h1_2) h1_1) h1_0) h0_4) h0_3) h0_2) h0_1) h0_0) chk32
                | false =>
                  cases h1_3 : @Tm.tv _ V (.a2 .lt (i1 1005 (i2 30 (.var 1) (.lit 1))) (.lit 3)) with
                  | true =>
                    exact core _ (facts_cons (facts_cons (facts_cons (facts_cons (facts_cons (facts_cons (facts_cons (facts_cons (facts_cons facts_nil h1_3) h1_2) h1_1) h1_0) h0_4) h0_3) h0_2) h0_1) h0_0) chk33
                  | false =>
                    cases h1_4 : @Tm.tv _ V (.a2 .lt (i1 1005 (i2 30 (.var 1) (.lit 1))) (.lit 4)) with
                    | true =>
                      exact core _ (facts_cons (facts_cons (facts_cons (facts_cons (facts_cons (facts_cons (facts_cons (facts_cons (facts_cons (facts_cons facts_nil h1_4) h1_3) h1_2) h1_1) h1_0) h0_4) h0_3) h0_2) h0_1) h0_0) chk34
                    | false =>
                      exact core _ (facts_cons (facts_cons (facts_cons (facts_cons (facts_cons (facts_cons (facts_cons (facts_cons (facts_cons (facts_cons facts_nil h1_4) h1_3) h1_2) h1_1) h1_0) h0_4) h0_3) h0_2) h0_1) h0_0) chk35
end Go.Proofs.Ytiodiobomblbiaa.Ef.stoplessWrites
