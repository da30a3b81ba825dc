/- What is proved: the walk of CloverPlays. Conditions: that the arguments can be read. -/
import Derived.Test.YtkelfdnhgdjaaaaGreatCloverPlaysS
import Derived.Test.YtkelfdnhgdjaaaaGreatCloverPlaysK0
import Derived.Test.YtkelfdnhgdjaaaaGreatCloverPlaysK1
import Derived.Test.YtkelfdnhgdjaaaaGreatTv
namespace Go.Proofs.YtkelfdnhgdjaaaaGreat.Ef.cloverPlays
open Go Go.RowKit Go.Proofs.YtkelfdnhgdjaaaaGreat.Sep Go.Proofs.YtkelfdnhgdjaaaaGreat.Num Go.Proofs.YtkelfdnhgdjaaaaGreat.Mem Go.Proofs.YtkelfdnhgdjaaaaGreat.Ef
open Go.Proofs.YtkelfdnhgdjaaaaGreat.Ev (Fast)
set_option maxRecDepth 100000
set_option linter.unusedVariables false
noncomputable section
theorem allc {p : Cut → Prop} {c : Cut} {l : List Cut} (h : p c) (k : ∀ d ∈ l, p d) : ∀ d ∈ c :: l, p d := fun d hd => (List.mem_cons.1 hd).elim (fun e => e ▸ h) (k d)
theorem ck0 : CutP Tryz.prog (Γt Tryz.prog) mf 1000 sp ks base Θ fin body c0 := ⟨by kernel_rfl, by kernel_rfl, ((.two (t := z0) (π := c0.pi) (.two (t := z1) (π := n0) (.nrm (π := n2) [8, 9] (.two (t := z6) (π := n2) (.two (t := z5) (π := n4) (.two (t := z4) (π := n6) (.two (t := z3) (π := n8) (.two (t := z2) (π := n10) ck0_0 (.two (t := z7) (π := n13) ck0_1 ck0_2)) ck0_3) ck0_4) ck0_5) ck0_6)) (.nrm (π := n3) [8, 9] ck0_7)) (.two (t := z8) (π := n1) (.two (t := z9) (π := n16) (.nrm (π := n18) [10, 11] (.two (t := z6) (π := n18) (.two (t := z5) (π := n20) (.two (t := z4) (π := n22) (.two (t := z3) (π := n24) (.two (t := z2) (π := n26) ck0_8 (.two (t := z7) (π := n29) ck0_9 ck0_10)) ck0_11) ck0_12) ck0_13) ck0_14)) (.nrm (π := n19) [10, 11] ck0_15)) (.two (t := z10) (π := n17) (.nrm (π := n32) [12, 13] (.two (t := z6) (π := n32) (.two (t := z5) (π := n34) (.two (t := z4) (π := n36) (.two (t := z3) (π := n38) (.two (t := z2) (π := n40) ck0_16 (.two (t := z7) (π := n43) ck0_17 ck0_18)) ck0_19) ck0_20) ck0_21) ck0_22)) (.nrm (π := n33) [12, 13] ck0_23)))) : PP c0 c0.pi c0.H)⟩
theorem kall : ∀ c ∈ Θ, CutP Tryz.prog (Γt Tryz.prog) mf 1000 sp ks base Θ fin body c :=
  allc ck0 <| fun d hd => by cases hd
theorem chk0 : (evS Tryz.prog (Γt Tryz.prog) mf 1000 ks body none (Frm.start Tryz.f3.ntmps args) s0).allB (okL sp ks base Θ (fun e fr s => (ends Tryz.prog Tryz.f3 (e, fr, s)).allB fun q => okV q.1 q.2) none) = true := by kernel_rfl
@[reducible] def vars (w : World) (l102 : List Int) (n102 : Nat) (o102 : Int) (c102 : Nat) (l1 : List Int) (n1 : Nat) (o1 : Int) (c1 : Nat) (l2 : List Int) (n2 : Nat) (o2 : Int) (c2 : Nat) (a100 : Int) (a101 : Int) (ad : Int → Option Addr) : Vars :=
  ⟨fun i => match i with
    | 0 => .o (.old w w.heap.size)
    | 1 => .o (.row l102)
    | 2 => .i o102
    | 3 => .i n102
    | 4 => .i ((c102 : Int) - (n102 : Int))
    | 5 => .o (.row l1)
    | 6 => .i o1
    | 7 => .i n1
    | 8 => .i ((c1 : Int) - (n1 : Int))
    | 9 => .o (.row l2)
    | 10 => .i o2
    | 11 => .i n2
    | 12 => .i ((c2 : Int) - (n2 : Int))
    | 13 => .i a100
    | 14 => .i a101
    | _ => .i 0, fun _ => undef, ad⟩
theorem cloverPlays_walk (w : World) (a100 : Int) (h100 : -9223372036854775808 ≤ a100 ∧ a100 ≤ 9223372036854775807) (a101 : Int) (h101 : -9223372036854775808 ≤ a101 ∧ a101 ≤ 9223372036854775807) (v102 : Value) (l102 : List Int) (n102 : Nat) (h102 : FlatAt w v102 2 l102 n102) (v1 : Value) (l1 : List Int) (n1 : Nat) (h1 : FlatAt w v1 15 l1 n1) (v2 : Value) (l2 : List Int) (n2 : Nat) (h2 : FlatAt w v2 1 l2 n2) :
    Calls Tryz.prog 3 #[.agg #[.int .i64 a100, .int .i64 a101, v102], v1, v2] w fun e w' => e = .returned (.bool true) ∧ Below w.heap.size w w' := by
  obtain ⟨o102, c102, b102, ao102, L102, R102⟩ := flats_row h102 (by omega) 0
  obtain ⟨o1, c1, b1, ao1, L1, R1⟩ := flats_row h1 (by omega) 1
  obtain ⟨o2, c2, b2, ao2, L2, R2⟩ := flats_row h2 (by omega) 2
  let V : Vars := vars w l102 n102 o102 c102 l1 n1 o1 c1 l2 n2 o2 c2 a100 a101 fun x => if x = 0 then ao102 else if x = 1 then ao1 else if x = 2 then ao2 else none
  let β : Bl := fun m => if m = 0 then b102 else if m = 1 then b1 else if m = 2 then b2 else 0
  have hat : @At _ V β s0 w emp := by
    refine ⟨facts_nil, hwfB_ok (by kernel_rfl), ?_⟩
    have h : Holds w (OldO (@Tm.den _ V xo) [b102, b1, b2]) := old_start rfl ⟨row_rec R102.r, row_rec R1.r, row_rec R2.r, trivial⟩
    refine h.cast ?_
    show _ = ((OldO (@Tm.den _ V xo) [b102, b1, b2] * emp) * emp : HProp)
    rw [star_comm, star_emp, star_comm, star_emp]
  have e100 : @SV.den _ V β (.c (.int .i64 (iv 13))) = .int .i64 a100 := int_den h100 rfl
  have e101 : @SV.den _ V β (.c (.int .i64 (iv 14))) = .int .i64 a101 := int_den h101 rfl
  have e102 : @SV.den _ V β (.c (rowV 0 1)) = v102 := row_den R102 rfl rfl rfl L102 rfl fun hh => by
    have := R102.i hh
    subst this
    rfl
  have e1 : @SV.den _ V β (.c (rowV 1 5)) = v1 := row_den R1 rfl rfl rfl L1 rfl fun hh => by
    have := R1.i hh
    subst this
    rfl
  have e2 : @SV.den _ V β (.c (rowV 2 9)) = v2 := row_den R2 rfl rfl rfl L2 rfl fun hh => by
    have := R2.i hh
    subst this
    rfl
  have E0 : @SV.den _ V β (.a (.agg [(.int .i64 (iv 13)), (.int .i64 (iv 14)), (rowV 0 1)])) = .agg #[.int .i64 a100, .int .i64 a101, v102] := by
    show Value.agg #[@SV.den _ V β (.c (.int .i64 (iv 13))), @SV.den _ V β (.c (.int .i64 (iv 14))), @SV.den _ V β (.c (rowV 0 1))] = _
    rw [e100, e101, e102]
  have hargs : (args.map (@SV.den _ V β)).toArray = #[.agg #[.int .i64 a100, .int .i64 a101, v102], v1, v2] := by
    show #[@SV.den _ V β (.a (.agg [(.int .i64 (iv 13)), (.int .i64 (iv 14)), (rowV 0 1)])), @SV.den _ V β (.c (rowV 1 5)), @SV.den _ V β (.c (rowV 2 9))] = _
    rw [E0, e1, e2]
  rw [← hargs]
  refine (calls_of_cutsP (V0 := V) (P := Tryz.prog) (okP := fun {_} => abT_ok) noGos mixedOrders (fun _ => Γt_ok) (okV := okV) (f := 3) (fn := Tryz.f3) (body := body) (by kernel_rfl) (by kernel_rfl) (by kernel_rfl) chk0 kall (β := β) (w := w) (R := emp) ?_ ?_ hat).mono ?_
  · intro x hx
    simp only [args, List.mem_cons, List.not_mem_nil, or_false] at hx
    rcases hx with rfl | rfl | rfl
    · exact lwfB_ok (by kernel_rfl)
    · exact (by omega : 1 < 4)
    · exact (by omega : 2 < 4)
  · intro x hx
    simp only [args, List.mem_cons, List.not_mem_nil, or_false] at hx
    rcases hx with rfl | rfl | rfl <;> rfl
  · rintro e w' ⟨V', β', u, s', hV, hok, rfl, hat', hs⟩
    have hq : oldOf (V'.ρ 0) = some (w, w.heap.size) := by
      rw [hV 0 (by first | omega | (unfold base; omega))]
      rfl
    obtain ⟨g1, g2⟩ := okT_ok hok rfl hat' hq hs
    exact ⟨by rw [g1], g2⟩
end
end Go.Proofs.YtkelfdnhgdjaaaaGreat.Ef.cloverPlays
