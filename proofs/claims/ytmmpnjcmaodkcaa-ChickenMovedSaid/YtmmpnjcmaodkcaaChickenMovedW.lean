/- What is proved: the walk of ChickenMoved. Conditions: that the arguments can be read. -/
import Derived.Test.YtmmpnjcmaodkcaaChickenMovedK0
import Derived.Test.YtmmpnjcmaodkcaaChickenMovedK1
import Derived.Test.YtmmpnjcmaodkcaaChickenMovedK2
import Derived.Test.YtmmpnjcmaodkcaaChickenMovedK3
import Derived.Test.YtmmpnjcmaodkcaaChickenMovedK4
import Derived.Test.YtmmpnjcmaodkcaaChickenMovedK5
import Derived.Test.YtmmpnjcmaodkcaaChickenMovedK6
import Derived.Test.YtmmpnjcmaodkcaaChickenMovedK7
import Derived.Test.YtmmpnjcmaodkcaaChickenMovedK8
namespace Go.Proofs.Ytmmpnjcmaodkcaa.Ef.chickenMoved
open Go Go.RowKit Go.Proofs.Ytmmpnjcmaodkcaa.Sep Go.Proofs.Ytmmpnjcmaodkcaa.Num Go.Proofs.Ytmmpnjcmaodkcaa.Mem Go.Proofs.Ytmmpnjcmaodkcaa.Ef
open Go.Proofs.Ytmmpnjcmaodkcaa.Ev (Fast)
set_option maxRecDepth 100000
set_option linter.unusedVariables false
@[reducible] def vars (w : World) (l0 : List Int) (n0 : Nat) (o0 : Int) (c0 : Nat) (l1 : List Int) (n1 : Nat) (o1 : Int) (c1 : Nat) (l2 : List Int) (ad : Int → Option Addr) : Vars :=
  ⟨fun i => match i with
    | 0 => .o (.old w w.heap.size)
    | 1 => .o (.row l0)
    | 2 => .i o0
    | 3 => .i n0
    | 4 => .i c0
    | 5 => .o (.row l1)
    | 6 => .i o1
    | 7 => .i n1
    | 8 => .i c1
    | 9 => .i (l2.getD 0 0)
    | 10 => .i (l2.getD 1 0)
    | 11 => .i (l2.getD 2 0)
    | 12 => .i (l2.getD 3 0)
    | 13 => .i (l2.getD 4 0)
    | 14 => .i (l2.getD 5 0)
    | 15 => .i (l2.getD 6 0)
    | 16 => .i (l2.getD 7 0)
    | 17 => .i (l2.getD 8 0)
    | 18 => .i (l2.getD 9 0)
    | 19 => .i (l2.getD 10 0)
    | 20 => .i (l2.getD 11 0)
    | 21 => .i (l2.getD 12 0)
    | 22 => .i (l2.getD 13 0)
    | 23 => .i (l2.getD 14 0)
    | _ => .i 0, fun _ => undef, ad⟩
theorem chickenMoved_walk (w : World) (v0 : Value) (l0 : List Int) (n0 : Nat) (h0 : FlatAt w v0 2 l0 n0) (v1 : Value) (l1 : List Int) (n1 : Nat) (h1 : FlatAt w v1 2 l1 n1) (v2 : Value) (l2 : List Int) (h2 : FlatIs v2 15 l2) :
    Calls Try.prog 5 #[v0, v1, v2] w fun e w' => e = .returned (.bool true) ∧ Below w.heap.size w w' := by
  obtain ⟨o0, c0, b0, ao0, R0⟩ := flats_row h0 (by omega) 0
  obtain ⟨o1, c1, b1, ao1, R1⟩ := flats_row h1 (by omega) 1
  let V : Vars := vars w l0 n0 o0 c0 l1 n1 o1 c1 l2 fun x => if x = 0 then ao0 else if x = 1 then ao1 else none
  let β : Bl := fun m => if m = 0 then b0 else if m = 1 then b1 else 0
  have hv2 : ∀ j, j < 15 → @Tm.v _ V (.var (9 + j)) = l2.getD j 0 := by
    intro j hj
    have : j = 0 ∨ j = 1 ∨ j = 2 ∨ j = 3 ∨ j = 4 ∨ j = 5 ∨ j = 6 ∨ j = 7 ∨ j = 8 ∨ j = 9 ∨ j = 10 ∨ j = 11 ∨ j = 12 ∨ j = 13 ∨ j = 14 := by omega
    rcases this with rfl | rfl | rfl | rfl | rfl | rfl | rfl | rfl | rfl | rfl | rfl | rfl | rfl | rfl | rfl <;> rfl
  have hat0 : ∀ e : Pi, @facts _ V e → @At _ V β ⟨e, s0.H, s0.n⟩ w emp := by
    intro e he
    refine ⟨he, hwfB_ok (by kernel_rfl), ?_⟩
    have h : Holds w (OldO (@Tm.den _ V xo) [b0, b1]) := old_start rfl ⟨row_rec R0.r, row_rec R1.r, trivial⟩
    refine h.cast ?_
    show _ = ((OldO (@Tm.den _ V xo) [b0, b1] * emp) * emp : HProp)
    rw [star_comm, star_emp, star_comm, star_emp]
  have e0 : @SV.den _ V β (.c (rowV 0 1)) = v0 := row_den R0 rfl rfl rfl rfl fun hh => by
    have := R0.i hh
    subst this
    rfl
  have e1 : @SV.den _ V β (.c (rowV 1 5)) = v1 := row_den R1 rfl rfl rfl rfl fun hh => by
    have := R1.i hh
    subst this
    rfl
  have e2 : @SV.den _ V β (.a (.agg (flatv 9 15))) = v2 := flat_den h2 hv2
  have hargs : (args.map (@SV.den _ V β)).toArray = #[v0, v1, v2] := by
    show #[@SV.den _ V β (.c (rowV 0 1)), @SV.den _ V β (.c (rowV 1 5)), @SV.den _ V β (.a (.agg (flatv 9 15)))] = _
    rw [e0, e1, e2]
  rw [← hargs]
  have core : ∀ e : Pi, @facts _ V e → noCut Try.prog Γs mf Try.f5 body args ⟨e, s0.H, s0.n⟩ okV = true → Calls Try.prog 5 (args.map (@SV.den _ V β)).toArray w fun e w' => e = .returned (.bool true) ∧ Below w.heap.size w w' := by
    intro e he chk0
    have hat := hat0 e he
    refine (calls_of_cuts (V0 := V) (P := Try.prog) (okP := fun {_} => abM_ok Try.prog) noGos mixedOrders (fun _ => Γs_ok) (ks := []) (sp := []) (base := 100) (Θ := []) (okV := okV) (f := 5) (fn := Try.f5) (body := body) (by kernel_rfl) (by kernel_rfl) (by kernel_rfl) chk0 (fun c hc => by cases hc) (β := β) (w := w) (R := emp) ?_ ?_ hat).mono ?_
    · intro x hx
      simp only [args, List.mem_cons, List.not_mem_nil, or_false] at hx
      rcases hx with rfl | rfl | rfl
      · exact (by omega : 0 < 3)
      · exact (by omega : 1 < 3)
      · exact lwfB_ok (by kernel_rfl)
    · intro x hx
      simp only [args, List.mem_cons, List.not_mem_nil, or_false] at hx
      rcases hx with rfl | rfl | rfl <;> rfl
    · rintro e w' ⟨V', β', u, s', hV, hok, rfl, hat', hs⟩
      have hq : oldOf (V'.ρ 0) = some (w, w.heap.size) := by
        rw [hV 0 (by first | omega | (unfold base; omega))]
        rfl
      obtain ⟨g1, g2⟩ := okT_ok hok rfl hat' hq hs
      exact ⟨by rw [g1], g2⟩
  cases h0_0 : @Tm.tv _ V (k3 10 1) with
  | true =>
    cases h1_0 : @Tm.tv _ V (kq 11 0) with
    | true =>
      exact core _ (facts_cons (facts_cons facts_nil h1_0) h0_0) chk0
    | false =>
      cases h1_1 : @Tm.tv _ V (kq 11 1) with
      | true =>
        exact core _ (facts_cons (facts_cons (facts_cons facts_nil h1_1) h1_0) h0_0) chk1
      | false =>
        exact core _ (facts_cons (facts_cons (facts_cons facts_nil h1_1) h1_0) h0_0) chk2
  | false =>
    cases h0_1 : @Tm.tv _ V (k3 10 2) with
    | true =>
      cases h1_0 : @Tm.tv _ V (kq 11 0) with
      | true =>
        exact core _ (facts_cons (facts_cons (facts_cons facts_nil h1_0) h0_1) h0_0) chk3
      | false =>
        cases h1_1 : @Tm.tv _ V (kq 11 1) with
        | true =>
          exact core _ (facts_cons (facts_cons (facts_cons (facts_cons facts_nil h1_1) h1_0) h0_1) h0_0) chk4
        | false =>
          exact core _ (facts_cons (facts_cons (facts_cons (facts_cons facts_nil h1_1) h1_0) h0_1) h0_0) chk5
    | false =>
      cases h1_0 : @Tm.tv _ V (kq 11 0) with
      | true =>
        exact core _ (facts_cons (facts_cons (facts_cons facts_nil h1_0) h0_1) h0_0) chk6
      | false =>
        cases h1_1 : @Tm.tv _ V (kq 11 1) with
        | true =>
          exact core _ (facts_cons (facts_cons (facts_cons (facts_cons facts_nil h1_1) h1_0) h0_1) h0_0) chk7
        | false =>
          exact core _ (facts_cons (facts_cons (facts_cons (facts_cons facts_nil h1_1) h1_0) h0_1) h0_0) chk8
end Go.Proofs.Ytmmpnjcmaodkcaa.Ef.chickenMoved
