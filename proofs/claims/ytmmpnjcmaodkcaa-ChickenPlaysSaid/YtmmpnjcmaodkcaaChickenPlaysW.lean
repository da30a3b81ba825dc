/- What is proved: the walk of ChickenPlays. Conditions: that the arguments can be read. -/
import Derived.Test.YtmmpnjcmaodkcaaChickenPlaysS
import Derived.Test.YtmmpnjcmaodkcaaChickenPlaysK0
import Derived.Test.YtmmpnjcmaodkcaaTv
namespace Go.Proofs.Ytmmpnjcmaodkcaa.Ef.chickenPlays
open Go Go.RowKit Go.Proofs.Ytmmpnjcmaodkcaa.Sep Go.Proofs.Ytmmpnjcmaodkcaa.Num Go.Proofs.Ytmmpnjcmaodkcaa.Mem Go.Proofs.Ytmmpnjcmaodkcaa.Ef
open Go.Proofs.Ytmmpnjcmaodkcaa.Ev (Fast)
set_option maxRecDepth 100000
set_option linter.unusedVariables false
noncomputable section
theorem allc {p : Cut → Prop} {c : Cut} {l : List Cut} (h : p c) (k : ∀ d ∈ l, p d) : ∀ d ∈ c :: l, p d := fun d hd => (List.mem_cons.1 hd).elim (fun e => e ▸ h) (k d)
theorem ck0 : CutP Try.prog (Γt Try.prog) mf 1000 sp ks base Θ fin body c0 := ⟨by kernel_rfl, by kernel_rfl, ((.two (t := z0) (π := c0.pi) (.two (t := z1) (π := n0) (.nrm (π := n2) [8, 9] ck0_0) (.nrm (π := n3) [8, 9] ck0_1)) (.two (t := z2) (π := n1) (.two (t := z3) (π := n4) (.nrm (π := n6) [10, 11] ck0_2) (.nrm (π := n7) [10, 11] ck0_3)) (.two (t := z4) (π := n5) (.nrm (π := n8) [12, 13] ck0_4) (.nrm (π := n9) [12, 13] ck0_5)))) : PP c0 c0.pi c0.H)⟩
theorem kall : ∀ c ∈ Θ, CutP Try.prog (Γt Try.prog) mf 1000 sp ks base Θ fin body c :=
  allc ck0 <| fun d hd => by cases hd
theorem chk0 : (evS Try.prog (Γt Try.prog) mf 1000 ks body none (Frm.start Try.f7.ntmps args) s0).allB (okL sp ks base Θ (fun e fr s => (ends Try.prog Try.f7 (e, fr, s)).allB fun q => okV q.1 q.2) none) = true := by kernel_rfl
@[reducible] def vars (w : World) (l101 : List Int) (n101 : Nat) (o101 : Int) (c101 : Nat) (l1 : List Int) (n1 : Nat) (o1 : Int) (c1 : Nat) (l2 : List Int) (n2 : Nat) (o2 : Int) (c2 : Nat) (a100 : Int) (ad : Int → Option Addr) : Vars :=
  ⟨fun i => match i with
    | 0 => .o (.old w w.heap.size)
    | 1 => .o (.row l101)
    | 2 => .i o101
    | 3 => .i n101
    | 4 => .i ((c101 : Int) - (n101 : Int))
    | 5 => .o (.row l1)
    | 6 => .i o1
    | 7 => .i n1
    | 8 => .i ((c1 : Int) - (n1 : Int))
    | 9 => .o (.row l2)
    | 10 => .i o2
    | 11 => .i n2
    | 12 => .i ((c2 : Int) - (n2 : Int))
    | 13 => .i a100
    | _ => .i 0, fun _ => undef, ad⟩
theorem chickenPlays_walk (w : World) (a100 : Int) (h100 : -9223372036854775808 ≤ a100 ∧ a100 ≤ 9223372036854775807) (v101 : Value) (l101 : List Int) (n101 : Nat) (h101 : FlatAt w v101 2 l101 n101) (v1 : Value) (l1 : List Int) (n1 : Nat) (h1 : FlatAt w v1 15 l1 n1) (v2 : Value) (l2 : List Int) (n2 : Nat) (h2 : FlatAt w v2 1 l2 n2) :
    Calls Try.prog 7 #[.agg #[.int .i64 a100, v101], v1, v2] w fun e w' => e = .returned (.bool true) ∧ Below w.heap.size w w' := by
  obtain ⟨o101, c101, b101, ao101, L101, R101⟩ := flats_row h101 (by omega) 0
  obtain ⟨o1, c1, b1, ao1, L1, R1⟩ := flats_row h1 (by omega) 1
  obtain ⟨o2, c2, b2, ao2, L2, R2⟩ := flats_row h2 (by omega) 2
  let V : Vars := vars w l101 n101 o101 c101 l1 n1 o1 c1 l2 n2 o2 c2 a100 fun x => if x = 0 then ao101 else if x = 1 then ao1 else if x = 2 then ao2 else none
  let β : Bl := fun m => if m = 0 then b101 else if m = 1 then b1 else if m = 2 then b2 else 0
  have hat : @At _ V β s0 w emp := by
    refine ⟨facts_nil, hwfB_ok (by kernel_rfl), ?_⟩
    have h : Holds w (OldO (@Tm.den _ V xo) [b101, b1, b2]) := old_start rfl ⟨row_rec R101.r, row_rec R1.r, row_rec R2.r, trivial⟩
    refine h.cast ?_
    show _ = ((OldO (@Tm.den _ V xo) [b101, b1, b2] * emp) * emp : HProp)
    rw [star_comm, star_emp, star_comm, star_emp]
  have e100 : @SV.den _ V β (.c (.int .i64 (iv 13))) = .int .i64 a100 := int_den h100 rfl
  have e101 : @SV.den _ V β (.c (rowV 0 1)) = v101 := row_den R101 rfl rfl rfl L101 rfl fun hh => by
    have := R101.i hh
    subst this
    rfl
  have e1 : @SV.den _ V β (.c (rowV 1 5)) = v1 := row_den R1 rfl rfl rfl L1 rfl fun hh => by
    have := R1.i hh
    subst this
    rfl
  have e2 : @SV.den _ V β (.c (rowV 2 9)) = v2 := row_den R2 rfl rfl rfl L2 rfl fun hh => by
    have := R2.i hh
    subst this
    rfl
  have E0 : @SV.den _ V β (.a (.agg [(.int .i64 (iv 13)), (rowV 0 1)])) = .agg #[.int .i64 a100, v101] := by
    show Value.agg #[@SV.den _ V β (.c (.int .i64 (iv 13))), @SV.den _ V β (.c (rowV 0 1))] = _
    rw [e100, e101]
  have hargs : (args.map (@SV.den _ V β)).toArray = #[.agg #[.int .i64 a100, v101], v1, v2] := by
    show #[@SV.den _ V β (.a (.agg [(.int .i64 (iv 13)), (rowV 0 1)])), @SV.den _ V β (.c (rowV 1 5)), @SV.den _ V β (.c (rowV 2 9))] = _
    rw [E0, e1, e2]
  rw [← hargs]
  refine (calls_of_cutsP (V0 := V) (P := Try.prog) (okP := fun {_} => abT_ok) noGos mixedOrders (fun _ => Γt_ok) (okV := okV) (f := 7) (fn := Try.f7) (body := body) (by kernel_rfl) (by kernel_rfl) (by kernel_rfl) chk0 kall (β := β) (w := w) (R := emp) ?_ ?_ hat).mono ?_
  · intro x hx
    simp only [args, List.mem_cons, List.not_mem_nil, or_false] at hx
    rcases hx with rfl | rfl | rfl
    · exact lwfB_ok (by kernel_rfl)
    · exact (by omega : 1 < 4)
    · exact (by omega : 2 < 4)
  · intro x hx
    simp only [args, List.mem_cons, List.not_mem_nil, or_false] at hx
    rcases hx with rfl | rfl | rfl <;> rfl
  · rintro e w' ⟨V', β', u, s', hV, hok, rfl, hat', hs⟩
    have hq : oldOf (V'.ρ 0) = some (w, w.heap.size) := by
      rw [hV 0 (by first | omega | (unfold base; omega))]
      rfl
    obtain ⟨g1, g2⟩ := okT_ok hok rfl hat' hq hs
    exact ⟨by rw [g1], g2⟩
end
end Go.Proofs.Ytmmpnjcmaodkcaa.Ef.chickenPlays
