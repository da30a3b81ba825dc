/- What is proved: the walk of CloverWaits. Conditions: that the arguments can be read. -/
import Derived.Test.YtkelfdnhgdjaaaaCloverWaitsK0
import Derived.Test.YtkelfdnhgdjaaaaCloverWaitsK1
import Derived.Test.YtkelfdnhgdjaaaaCloverWaitsK2
import Derived.Test.YtkelfdnhgdjaaaaCloverWaitsK3
namespace Go.Proofs.Ytkelfdnhgdjaaaa.Ef.cloverWaits
open Go Go.RowKit Go.Proofs.Ytkelfdnhgdjaaaa.Sep Go.Proofs.Ytkelfdnhgdjaaaa.Num Go.Proofs.Ytkelfdnhgdjaaaa.Mem Go.Proofs.Ytkelfdnhgdjaaaa.Ef
open Go.Proofs.Ytkelfdnhgdjaaaa.Ev (Fast)
set_option maxRecDepth 100000
set_option linter.unusedVariables false
@[reducible] def vars (w : World) (l0 : List Int) (n0 : Nat) (o0 : Int) (c0 : Nat) (l1 : List Int) (ad : Int → Option Addr) : Vars :=
  ⟨fun i => match i with
    | 0 => .o (.old w w.heap.size)
    | 1 => .o (.row l0)
    | 2 => .i o0
    | 3 => .i n0
    | 4 => .i ((c0 : Int) - (n0 : Int))
    | 5 => .i (l1.getD 0 0)
    | 6 => .i (l1.getD 1 0)
    | 7 => .i (l1.getD 2 0)
    | 8 => .i (l1.getD 3 0)
    | 9 => .i (l1.getD 4 0)
    | 10 => .i (l1.getD 5 0)
    | 11 => .i (l1.getD 6 0)
    | 12 => .i (l1.getD 7 0)
    | 13 => .i (l1.getD 8 0)
    | 14 => .i (l1.getD 9 0)
    | 15 => .i (l1.getD 10 0)
    | 16 => .i (l1.getD 11 0)
    | 17 => .i (l1.getD 12 0)
    | 18 => .i (l1.getD 13 0)
    | 19 => .i (l1.getD 14 0)
    | _ => .i 0, fun _ => undef, ad⟩
theorem cloverWaits_walk (w : World) (v0 : Value) (l0 : List Int) (n0 : Nat) (h0 : FlatAt w v0 2 l0 n0) (v1 : Value) (l1 : List Int) (h1 : FlatIs v1 15 l1) :
    Calls Try.prog 4 #[v0, v1] w fun e w' => e = .returned (.bool true) ∧ Below w.heap.size w w' := by
  obtain ⟨o0, c0, b0, ao0, L0, R0⟩ := flats_row h0 (by omega) 0
  let V : Vars := vars w l0 n0 o0 c0 l1 fun x => if x = 0 then ao0 else none
  let β : Bl := fun m => if m = 0 then b0 else 0
  have hv1 : ∀ j, j < 15 → @Tm.v _ V (.var (5 + j)) = l1.getD j 0 := by
    intro j hj
    have : j = 0 ∨ j = 1 ∨ j = 2 ∨ j = 3 ∨ j = 4 ∨ j = 5 ∨ j = 6 ∨ j = 7 ∨ j = 8 ∨ j = 9 ∨ j = 10 ∨ j = 11 ∨ j = 12 ∨ j = 13 ∨ j = 14 := by omega
    rcases this with rfl | rfl | rfl | rfl | rfl | rfl | rfl | rfl | rfl | rfl | rfl | rfl | rfl | rfl | rfl <;> rfl
  have hat0 : ∀ e : Pi, @facts _ V e → @At _ V β ⟨e, s0.H, s0.n⟩ w emp := by
    intro e he
    refine ⟨he, hwfB_ok (by kernel_rfl), ?_⟩
    have h : Holds w (OldO (@Tm.den _ V xo) [b0]) := old_start rfl ⟨row_rec R0.r, trivial⟩
    refine h.cast ?_
    show _ = ((OldO (@Tm.den _ V xo) [b0] * emp) * emp : HProp)
    rw [star_comm, star_emp, star_comm, star_emp]
  have e0 : @SV.den _ V β (.c (rowV 0 1)) = v0 := row_den R0 rfl rfl rfl L0 rfl fun hh => by
    have := R0.i hh
    subst this
    rfl
  have e1 : @SV.den _ V β (.a (.agg (flatv 5 15))) = v1 := flat_den h1 hv1
  have hargs : (args.map (@SV.den _ V β)).toArray = #[v0, v1] := by
    show #[@SV.den _ V β (.c (rowV 0 1)), @SV.den _ V β (.a (.agg (flatv 5 15)))] = _
    rw [e0, e1]
  rw [← hargs]
  have core : ∀ e : Pi, @facts _ V e → noCut Try.prog Γ2 mf Try.f4 body args ⟨e, s0.H, s0.n⟩ okV = true → Calls Try.prog 4 (args.map (@SV.den _ V β)).toArray w fun e w' => e = .returned (.bool true) ∧ Below w.heap.size w w' := by
    intro e he chk0
    have hat := hat0 e he
    refine (calls_of_cuts (V0 := V) (P := Try.prog) (okP := fun {_} => abL_ok Try.prog) noGos mixedOrders (fun _ => Γ2_ok) (ks := []) (sp := []) (base := 100) (Θ := []) (okV := okV) (f := 4) (fn := Try.f4) (body := body) (by kernel_rfl) (by kernel_rfl) (by kernel_rfl) chk0 (fun c hc => by cases hc) (β := β) (w := w) (R := emp) ?_ ?_ hat).mono ?_
    · intro x hx
      simp only [args, List.mem_cons, List.not_mem_nil, or_false] at hx
      rcases hx with rfl | rfl
      · exact (by omega : 0 < 2)
      · exact lwfB_ok (by kernel_rfl)
    · intro x hx
      simp only [args, List.mem_cons, List.not_mem_nil, or_false] at hx
      rcases hx with rfl | rfl <;> rfl
    · rintro e w' ⟨V', β', u, s', hV, hok, rfl, hat', hs⟩
      have hq : oldOf (V'.ρ 0) = some (w, w.heap.size) := by
        rw [hV 0 (by first | omega | (unfold base; omega))]
        rfl
      obtain ⟨g1, g2⟩ := okT_ok hok rfl hat' hq hs
      exact ⟨by rw [g1], g2⟩
  cases h_0 : @Tm.tv _ V z6 with
  | true =>
    cases h_1 : @Tm.tv _ V z5 with
    | true =>
      cases h_2 : @Tm.tv _ V z4 with
      | true =>
        cases h_3 : @Tm.tv _ V z3 with
        | true =>
          cases h_4 : @Tm.tv _ V z2 with
          | true =>
            cases h_5 : @Tm.tv _ V z1 with
            | true =>
              cases h_6 : @Tm.tv _ V z0 with
              | true =>
                exact core _ (facts_cons (facts_cons (facts_cons (facts_cons (facts_cons (facts_cons (facts_cons facts_nil h_0) h_1) h_2) h_3) h_4) h_5) h_6) chk0
              | false =>
                exact core _ (facts_cons (facts_cons (facts_cons (facts_cons (facts_cons (facts_cons (facts_cons facts_nil h_0) h_1) h_2) h_3) h_4) h_5) h_6) chk1
            | false =>
              cases h_6 : @Tm.tv _ V z0 with
              | true =>
                exact core _ (facts_cons (facts_cons (facts_cons (facts_cons (facts_cons (facts_cons (facts_cons facts_nil h_0) h_1) h_2) h_3) h_4) h_5) h_6) chk2
              | false =>
                exact core _ (facts_cons (facts_cons (facts_cons (facts_cons (facts_cons (facts_cons (facts_cons facts_nil h_0) h_1) h_2) h_3) h_4) h_5) h_6) chk3
          | false =>
            cases h_5 : @Tm.tv _ V z1 with
            | true =>
              cases h_6 : @Tm.tv _ V z0 with
              | true =>
                exact core _ (facts_cons (facts_cons (facts_cons (facts_cons (facts_cons (facts_cons (facts_cons facts_nil h_0) h_1) h_2) h_3) h_4) h_5) h_6) chk4
              | false =>
                exact core _ (facts_cons (facts_cons (facts_cons (facts_cons (facts_cons (facts_cons (facts_cons facts_nil h_0) h_1) h_2) h_3) h_4) h_5) h_6) chk5
            | false =>
              cases h_6 : @Tm.tv _ V z0 with
              | true =>
                exact core _ (facts_cons (facts_cons (facts_cons (facts_cons (facts_cons (facts_cons (facts_cons facts_nil h_0) h_1) h_2) h_3) h_4) h_5) h_6) chk6
              | false =>
                exact core _ (facts_cons (facts_cons (facts_cons (facts_cons (facts_cons (facts_cons (facts_cons facts_nil h_0) h_1) h_2) h_3) h_4) h_5) h_6) chk7
        | false =>
          cases h_4 : @Tm.tv _ V z0 with
          | true =>
            exact core _ (facts_cons (facts_cons (facts_cons (facts_cons (facts_cons facts_nil h_0) h_1) h_2) h_3) h_4) chk8
          | false =>
            exact core _ (facts_cons (facts_cons (facts_cons (facts_cons (facts_cons facts_nil h_0) h_1) h_2) h_3) h_4) chk9
      | false =>
        cases h_3 : @Tm.tv _ V z3 with
        | true =>
          cases h_4 : @Tm.tv _ V z2 with
          | true =>
            cases h_5 : @Tm.tv _ V z1 with
            | true =>
              cases h_6 : @Tm.tv _ V z0 with
              | true =>
                exact core _ (facts_cons (facts_cons (facts_cons (facts_cons (facts_cons (facts_cons (facts_cons facts_nil h_0) h_1) h_2) h_3) h_4) h_5) h_6) chk10
              | false =>
                exact core _ (facts_cons (facts_cons (facts_cons (facts_cons (facts_cons (facts_cons (facts_cons facts_nil h_0) h_1) h_2) h_3) h_4) h_5) h_6) chk11
            | false =>
              cases h_6 : @Tm.tv _ V z0 with
              | true =>
                exact core _ (facts_cons (facts_cons (facts_cons (facts_cons (facts_cons (facts_cons (facts_cons facts_nil h_0) h_1) h_2) h_3) h_4) h_5) h_6) chk12
              | false =>
                exact core _ (facts_cons (facts_cons (facts_cons (facts_cons (facts_cons (facts_cons (facts_cons facts_nil h_0) h_1) h_2) h_3) h_4) h_5) h_6) chk13
          | false =>
            cases h_5 : @Tm.tv _ V z1 with
            | true =>
              cases h_6 : @Tm.tv _ V z0 with
              | true =>
                exact core _ (facts_cons (facts_cons (facts_cons (facts_cons (facts_cons (facts_cons (facts_cons facts_nil h_0) h_1) h_2) h_3) h_4) h_5) h_6) chk14
              | false =>
                exact core _ (facts_cons (facts_cons (facts_cons (facts_cons (facts_cons (facts_cons (facts_cons facts_nil h_0) h_1) h_2) h_3) h_4) h_5) h_6) chk15
            | false =>
              cases h_6 : @Tm.tv _ V z0 with
              | true =>
                exact core _ (facts_cons (facts_cons (facts_cons (facts_cons (facts_cons (facts_cons (facts_cons facts_nil h_0) h_1) h_2) h_3) h_4) h_5) h_6) chk16
              | false =>
                exact core _ (facts_cons (facts_cons (facts_cons (facts_cons (facts_cons (facts_cons (facts_cons facts_nil h_0) h_1) h_2) h_3) h_4) h_5) h_6) chk17
        | false =>
          cases h_4 : @Tm.tv _ V z0 with
          | true =>
            exact core _ (facts_cons (facts_cons (facts_cons (facts_cons (facts_cons facts_nil h_0) h_1) h_2) h_3) h_4) chk18
          | false =>
            exact core _ (facts_cons (facts_cons (facts_cons (facts_cons (facts_cons facts_nil h_0) h_1) h_2) h_3) h_4) chk19
    | false =>
      cases h_2 : @Tm.tv _ V z0 with
      | true =>
        exact core _ (facts_cons (facts_cons (facts_cons facts_nil h_0) h_1) h_2) chk20
      | false =>
        exact core _ (facts_cons (facts_cons (facts_cons facts_nil h_0) h_1) h_2) chk21
  | false =>
    exact core _ (facts_cons facts_nil h_0) chk22
end Go.Proofs.Ytkelfdnhgdjaaaa.Ef.cloverWaits
