/- What is proved: of two Swaps of one field one is done: the walk. Conditions: that the arguments can be read. -/
import Derived.Test.YtfapicccijbanaaDsw
import Derived.Test.YtfapicccijbanaaTr
namespace Go.Proofs.Ytfapicccijbanaa.Ef.dsw
open Go Go.RowKit Go.Proofs.Ytfapicccijbanaa.Sep Go.Proofs.Ytfapicccijbanaa.Num Go.Proofs.Ytfapicccijbanaa.Mem Go.Proofs.Ytfapicccijbanaa.Ef
open Go.Proofs.Ytfapicccijbanaa.Ev (Fast)
set_option maxRecDepth 100000
set_option linter.unusedVariables false
theorem chk0 : (evS Try.prog Γ2 mf 1000 ks body none (Frm.start Try.f4.ntmps args) s0).allB (okL sp ks base Θ (fun e fr s => (ends Try.prog Try.f4 (e, fr, s)).allB fun q => okV q.1 q.2) none) = true := by kernel_rfl
@[reducible] def vars (w : World) (l : List (Int × Int)) (picks : List Int) (o1 o2 : Int) (c1 c2 : Nat) (a0 a1 b0 b1 : Int) (ad : Int → Option Addr) : Vars :=
  ⟨fun i => match i with
    | 0 => .o (.old w w.heap.size)
    | 1 => .o (.row (flat2 l))
    | 2 => .i o1
    | 3 => .i l.length
    | 4 => .i c1
    | 5 => .o (.row picks)
    | 6 => .i o2
    | 7 => .i picks.length
    | 8 => .i c2
    | 9 => .i a0
    | 10 => .i a1
    | 11 => .i b0
    | 12 => .i b1
    | _ => .i 0, fun _ => undef, ad⟩
theorem directSwaps_walk (w : World) (lv kv : Value) (l : List (Int × Int)) (picks : List Int) (a0 a1 b0 b1 : Int) (hL : ValsAt w lv l) (hP : IntsAt w kv picks)
    (ha0 : -9223372036854775808 ≤ a0 ∧ a0 ≤ 9223372036854775807) (ha1 : -9223372036854775808 ≤ a1 ∧ a1 ≤ 9223372036854775807) (hb0 : -9223372036854775808 ≤ b0 ∧ b0 ≤ 9223372036854775807) (hb1 : -9223372036854775808 ≤ b1 ∧ b1 ≤ 9223372036854775807) :
    Calls Try.prog 4 #[lv, .agg #[.int .i64 a0, .int .i64 a1, .int .i64 b0, .int .i64 b1], kv] w fun e w' => e = .returned (.bool true) ∧ Below w.heap.size w w' := by
  obtain ⟨o1, c1, n1, ao1, R1⟩ := vals_row hL 0
  obtain ⟨o2, c2, n2, ao2, R2⟩ := ints_row hP 1
  let V : Vars := vars w l picks o1 o2 c1 c2 a0 a1 b0 b1 fun x => if x = 0 then ao1 else ao2
  let β : Bl := fun m => if m = 0 then n1 else n2
  have hat : @At _ V β s0 w emp := by
    refine ⟨?_, ?_, ?_⟩
    · intro q hq
      simp only [s0, lenf, i64f, List.cons_append, List.nil_append, List.mem_cons, List.not_mem_nil, or_false] at hq
      rcases hq with rfl | rfl | rfl | rfl | rfl | rfl | rfl | rfl | rfl | rfl
      · exact decide_eq_false (show ¬ ((l.length : Int) < 0) by omega)
      · exact decide_eq_false (show ¬ ((picks.length : Int) < 0) by omega)
      · exact decide_eq_false (show ¬ (a0 < -9223372036854775808) by omega)
      · exact decide_eq_true (show a0 < 9223372036854775808 by omega)
      · exact decide_eq_false (show ¬ (a1 < -9223372036854775808) by omega)
      · exact decide_eq_true (show a1 < 9223372036854775808 by omega)
      · exact decide_eq_false (show ¬ (b0 < -9223372036854775808) by omega)
      · exact decide_eq_true (show b0 < 9223372036854775808 by omega)
      · exact decide_eq_false (show ¬ (b1 < -9223372036854775808) by omega)
      · exact decide_eq_true (show b1 < 9223372036854775808 by omega)
    · exact hwfB_ok (by kernel_rfl)
    · have h : Holds w (OldO (@Tm.den _ V x9) [n1, n2]) := old_start rfl ⟨R1.r, R2.r, trivial⟩
      refine h.cast ?_
      show _ = ((OldO (@Tm.den _ V x9) [n1, n2] * emp) * emp : HProp)
      rw [star_comm, star_emp, star_comm, star_emp]
  have hargs : (args.map (@SV.den _ V β)).toArray = #[lv, .agg #[.int .i64 a0, .int .i64 a1, .int .i64 b0, .int .i64 b1], kv] := by
    have e1 : @SC.den _ V β (.sliceQ 0 (.var 2) (.var 3) (.var 4)) = lv := by
      rw [R1.v]
      show Value.slice (if (l.length : Int) ≤ 0 then (if o1 = 0 then ao1 else ao2) else some ⟨n1, o1.toNat, none⟩) (l.length : Int).toNat ((c1 : Int)).toNat = _
      by_cases h : (l.length : Int) ≤ 0
      · have := R1.i h
        rw [if_pos h, if_pos h, if_pos (by omega)]; simp
      · rw [if_neg h, if_neg h]; simp
    have e2 : @SC.den _ V β (.sliceQ 1 (.var 6) (.var 7) (.var 8)) = kv := by
      rw [R2.v]
      show Value.slice (if (picks.length : Int) ≤ 0 then (if o2 = 0 then ao1 else ao2) else some ⟨n2, o2.toNat, none⟩) (picks.length : Int).toNat ((c2 : Int)).toNat = _
      by_cases h : (picks.length : Int) ≤ 0
      · have := R2.i h
        rw [if_pos h, if_pos h, if_neg (by omega)]; simp
      · rw [if_neg h, if_neg h]; simp
    show #[@SC.den _ V β (.sliceQ 0 (.var 2) (.var 3) (.var 4)), _, @SC.den _ V β (.sliceQ 1 (.var 6) (.var 7) (.var 8))] = _
    rw [e1, e2]
    rfl
  rw [← hargs]
  refine (calls_of_cuts (V0 := V) (P := Try.prog) (okP := fun {_} => abM_ok Try.prog) noGos mixedOrders (fun _ => Γ2_ok) (f := 4) (fn := Try.f4) (body := body) (by kernel_rfl) (by kernel_rfl) (by kernel_rfl) chk0 kall (β := β) (w := w) (R := emp) ?_ ?_ hat).mono ?_
  · intro x hx
    simp only [args, List.mem_cons, List.not_mem_nil, or_false] at hx
    rcases hx with rfl | rfl | rfl
    · exact (by omega : 0 < 3)
    · exact lwfB_ok (by kernel_rfl)
    · exact (by omega : 1 < 3)
  · intro x hx
    simp only [args, List.mem_cons, List.not_mem_nil, or_false] at hx
    rcases hx with rfl | rfl | rfl <;> rfl
  · rintro e w' ⟨V', β', u, s', hV, hok, rfl, hat', hs⟩
    unfold okV at hok
    rw [Bool.and_eq_true] at hok
    have hu := svBeq_ok hok.1
    subst hu
    refine ⟨rfl, ?_⟩
    have h2 := hok.2
    split at h2
    · rename_i x ns hf
      rw [Bool.and_eq_true] at h2
      have hx := Tm.beq_eq h2.1
      subst hx
      have H := @focus _ V' w' emp β' s'.H 2 _ hf hat'.hold
      have hq : oldOf (@Tm.den _ V' x9).fst = some (w, w.heap.size) := by
        show oldOf (V'.ρ 0) = _
        rw [hV 0 (by unfold base; omega)]
        rfl
      exact old_end hq H hs
    · cases h2
end Go.Proofs.Ytfapicccijbanaa.Ef.dsw
