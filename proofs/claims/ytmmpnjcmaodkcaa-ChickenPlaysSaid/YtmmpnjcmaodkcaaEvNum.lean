/- What is proved: contracts of head.Word, of package stamp and of its reference. Conditions: stated with each contract. -/
import Derived.Test.YtmmpnjcmaodkcaaEvTab
namespace Go.Proofs.Ytmmpnjcmaodkcaa.Ev
open Go Go.RowKit Go.Proofs.Ytmmpnjcmaodkcaa.Sep Go.Proofs.Ytmmpnjcmaodkcaa.Num Go.Proofs.Ytmmpnjcmaodkcaa.Mem
set_option maxRecDepth 100000
set_option linter.unusedVariables false
set_option linter.unusedSimpArgs false
instance : Obj Empty where
  den := fun x _ => Empty.elim x
  known := fun _ _ => none
  known_ok := fun {x} => Empty.elim x
set_option maxRecDepth 1000000 in
theorem ofTop_ev (w : Int) : evF (A := MO Empty) Try.prog Γ 1000 false 98 [.c (sU w)] [] 0 [] =
  Tree.new fun (b1 : Nat) => Tree.new fun (b2 : Nat) => same [b1, b1, b1, b1, b1, b1, b2, b2] (Tree.done (Leaf.val (SV.a (SA.agg [sI (IntKind.wrap IntKind.i64 (bitsV BinOp.and IntKind.u64 w (IntKind.wrap IntKind.u64 (shlV IntKind.u64 1 12 - 1)))), sI (IntKind.wrap IntKind.i64 (bitsV BinOp.and IntKind.u64 (shrV IntKind.u64 w 12) (IntKind.wrap IntKind.u64 (shlV IntKind.u64 1 40 - 1))))])) [] 2)) := by kernel_rfl
set_option maxRecDepth 1000000 in
theorem next_ev (w a : Int) : evF (A := MO Empty) Try.prog Γ 1000 false 99 [.c (sU w), .c (sI a)] [] 0 [] =
  Tree.new fun (b2 : Nat) => Tree.new fun (b3 : Nat) => same [b2, b2, b2, b2, b2, b2, b3, b3] (Tree.need (inR IntKind.i64 (IntKind.wrap IntKind.i64 (bitsV BinOp.and IntKind.u64 (shrV IntKind.u64 w 12) (IntKind.wrap IntKind.u64 (shlV IntKind.u64 1 40 - 1))) + 1)) (Tree.new fun (b4 : Nat) => same [b4, b4] (Tree.new fun (b5 : Nat) => Tree.new fun (b6 : Nat) => same [b5, b5, b5, b5] (sameC [lI 0] (same [b5] (sameC [lI 0] (same [b5] (sameC [lU 0] (same [b6, b5] (sameC [lI 0] (same [b5] (sameC [lI 0] (same [b5] (sameC [lU 0] (same [b6, b4] (sameC [sI (IntKind.wrap IntKind.i64 (bitsV BinOp.and IntKind.u64 (shrV IntKind.u64 w 12) (IntKind.wrap IntKind.u64 (shlV IntKind.u64 1 40 - 1))) + 1)] (same [b4] (sameC [sI a] (Tree.new fun (b7 : Nat) => Tree.new fun (b8 : Nat) => same [b7, b7, b7, b7] (sameC [lI (IntKind.wrap IntKind.i64 (0 + 12))] (same [b7] (sameC [lI (IntKind.wrap IntKind.i64 (0 + 12))] (same [b7] (sameC [sU (bitsV BinOp.or IntKind.u64 0 (shlV IntKind.u64 (bitsV BinOp.and IntKind.u64 (IntKind.wrap IntKind.u64 a) (IntKind.wrap IntKind.u64 (shlV IntKind.u64 1 12 - 1))) 0))] (same [b8, b7] (sameC [lI (IntKind.wrap IntKind.i64 (0 + 12))] (same [b7] (sameC [lI (IntKind.wrap IntKind.i64 (0 + 12))] (same [b7] (sameC [sU (bitsV BinOp.or IntKind.u64 0 (shlV IntKind.u64 (bitsV BinOp.and IntKind.u64 (IntKind.wrap IntKind.u64 a) (IntKind.wrap IntKind.u64 (shlV IntKind.u64 1 12 - 1))) 0))] (same [b8, b4] (sameC [sI (IntKind.wrap IntKind.i64 (bitsV BinOp.and IntKind.u64 (shrV IntKind.u64 w 12) (IntKind.wrap IntKind.u64 (shlV IntKind.u64 1 40 - 1))) + 1)] (same [b4] (sameC [sI a] (Tree.done (Leaf.val (SV.a (SA.one (sU (bitsV BinOp.or IntKind.u64 (bitsV BinOp.or IntKind.u64 0 (shlV IntKind.u64 (bitsV BinOp.and IntKind.u64 (IntKind.wrap IntKind.u64 a) (IntKind.wrap IntKind.u64 (shlV IntKind.u64 1 12 - 1))) 0)) (shlV IntKind.u64 (bitsV BinOp.and IntKind.u64 (IntKind.wrap IntKind.u64 (IntKind.wrap IntKind.i64 (bitsV BinOp.and IntKind.u64 (shrV IntKind.u64 w 12) (IntKind.wrap IntKind.u64 (shlV IntKind.u64 1 40 - 1))) + 1)) (IntKind.wrap IntKind.u64 (shlV IntKind.u64 1 40 - 1))) (IntKind.wrap IntKind.i64 (0 + 12))))))) [] 7)))))))))))))))))))))))))))))))))))) := by kernel_rfl
set_option maxRecDepth 1000000 in
theorem headWord_ev (a b c d e f g : Int) : evF (A := MO Empty) Try.prog Γ 1000 false 45 [.a (.agg [sI a, sI b, sI c, sI d, sI e, sI f, sI g])] [] 0 [] =
  Tree.new fun (b7 : Nat) => same [b7, b7, b7, b7, b7, b7, b7] (Tree.new fun (b8 : Nat) => same [b8] (Tree.new fun (b9 : Nat) => same [b9, b9, b9, b9, b8] (Tree.new fun (b10 : Nat) => same [b10, b10, b10, b10, b8] (Tree.new fun (b11 : Nat) => same [b11, b11, b11, b11, b8] (Tree.new fun (b12 : Nat) => same [b12, b12, b12, b12, b8] (Tree.new fun (b13 : Nat) => same [b13, b13, b13, b13, b8] (Tree.new fun (b14 : Nat) => same [b14, b14, b14, b14, b8] (Tree.new fun (b15 : Nat) => same [b15, b15, b15, b15] (Tree.done (Leaf.val (SV.a (SA.one (sU (bitsV BinOp.or IntKind.u64 (bitsV BinOp.or IntKind.u64 (bitsV BinOp.or IntKind.u64 (bitsV BinOp.or IntKind.u64 (bitsV BinOp.or IntKind.u64 (bitsV BinOp.or IntKind.u64 (bitsV BinOp.or IntKind.u64 0 (shlV IntKind.u64 (bitsV BinOp.and IntKind.u64 (IntKind.wrap IntKind.u64 a) (IntKind.wrap IntKind.u64 (shlV IntKind.u64 1 2 - 1))) 0)) (shlV IntKind.u64 (bitsV BinOp.and IntKind.u64 (IntKind.wrap IntKind.u64 b) (IntKind.wrap IntKind.u64 (shlV IntKind.u64 1 2 - 1))) (IntKind.wrap IntKind.i64 (0 + 2)))) (shlV IntKind.u64 (bitsV BinOp.and IntKind.u64 (IntKind.wrap IntKind.u64 c) (IntKind.wrap IntKind.u64 (shlV IntKind.u64 1 3 - 1))) (IntKind.wrap IntKind.i64 (IntKind.wrap IntKind.i64 (0 + 2) + 2)))) (shlV IntKind.u64 (bitsV BinOp.and IntKind.u64 (IntKind.wrap IntKind.u64 d) (IntKind.wrap IntKind.u64 (shlV IntKind.u64 1 1 - 1))) (IntKind.wrap IntKind.i64 (IntKind.wrap IntKind.i64 (IntKind.wrap IntKind.i64 (0 + 2) + 2) + 3)))) (shlV IntKind.u64 (bitsV BinOp.and IntKind.u64 (IntKind.wrap IntKind.u64 e) (IntKind.wrap IntKind.u64 (shlV IntKind.u64 1 1 - 1))) (IntKind.wrap IntKind.i64 (IntKind.wrap IntKind.i64 (IntKind.wrap IntKind.i64 (IntKind.wrap IntKind.i64 (0 + 2) + 2) + 3) + 1)))) (shlV IntKind.u64 (bitsV BinOp.and IntKind.u64 (IntKind.wrap IntKind.u64 f) (IntKind.wrap IntKind.u64 (shlV IntKind.u64 1 3 - 1))) (IntKind.wrap IntKind.i64 (IntKind.wrap IntKind.i64 (IntKind.wrap IntKind.i64 (IntKind.wrap IntKind.i64 (IntKind.wrap IntKind.i64 (0 + 2) + 2) + 3) + 1) + 1)))) (shlV IntKind.u64 (bitsV BinOp.and IntKind.u64 (IntKind.wrap IntKind.u64 g) (IntKind.wrap IntKind.u64 (shlV IntKind.u64 1 12 - 1))) (IntKind.wrap IntKind.i64 (IntKind.wrap IntKind.i64 (IntKind.wrap IntKind.i64 (IntKind.wrap IntKind.i64 (IntKind.wrap IntKind.i64 (IntKind.wrap IntKind.i64 (0 + 2) + 2) + 3) + 1) + 1) + 3))))))) [] 9)))))))))) := by kernel_rfl
set_option maxRecDepth 1000000 in
theorem rofTop_ev (w : Int) : evF (A := MO Empty) Try.prog Γ 1000 false 79 [.c (sU w)] [] 0 [] =
  Tree.new fun (b1 : Nat) => same [b1, b1] (Tree.done (Leaf.val (SV.a (SA.agg [sI (IntKind.wrap IntKind.i64 (Int.tmod (shrV IntKind.u64 w 0) (shlV IntKind.u64 1 12))), sI (IntKind.wrap IntKind.i64 (Int.tmod (shrV IntKind.u64 w 12) (shlV IntKind.u64 1 40)))])) [] 1)) := by kernel_rfl
set_option maxRecDepth 1000000 in
theorem rnext_ev (w a : Int) : evF (A := MO Empty) Try.prog Γ 1000 false 80 [.c (sU w), .c (sI a)] [] 0 [] =
  Tree.new fun (b2 : Nat) => same [b2, b2] (Tree.new fun (b3 : Nat) => same [b3, b3] (Tree.need (inR IntKind.i64 (IntKind.wrap IntKind.i64 (Int.tmod (shrV IntKind.u64 w 12) (shlV IntKind.u64 1 40)) + 1)) (Tree.new fun (b4 : Nat) => same [b4, b4, b4] (sameC [sI (IntKind.wrap IntKind.i64 (Int.tmod (shrV IntKind.u64 w 12) (shlV IntKind.u64 1 40)) + 1)] (same [b4] (sameC [sI a] (same [b4] (sameC [sI (IntKind.wrap IntKind.i64 (Int.tmod (shrV IntKind.u64 w 12) (shlV IntKind.u64 1 40)) + 1)] (same [b4] (sameC [sI a] (Tree.done (Leaf.val (SV.a (SA.one (sU (IntKind.wrap IntKind.u64 (IntKind.wrap IntKind.u64 (0 + shlV IntKind.u64 (Int.tmod (IntKind.wrap IntKind.u64 a) (shlV IntKind.u64 1 12)) 0) + shlV IntKind.u64 (Int.tmod (IntKind.wrap IntKind.u64 (IntKind.wrap IntKind.i64 (Int.tmod (shrV IntKind.u64 w 12) (shlV IntKind.u64 1 40)) + 1)) (shlV IntKind.u64 1 40)) 12))))) [] 3)))))))))))) := by kernel_rfl
/-! ### the numbers -/
theorem bitsV_and (x y : Int) : bitsV .and .u64 x y = bits .and .u64 x y := rfl
theorem bitsV_or (x y : Int) : bitsV .or .u64 x y = bits .or .u64 x y := rfl
theorem maskV {x : Int} (n m : Nat) (c : Int) (hc : c = (m : Int)) (h0 : 0 ≤ x) (h : x < 18446744073709551616) (hm : m = 2 ^ n - 1) (hn : m < 18446744073709551616) : bitsV .and .u64 x c = x % (2 ^ n : Nat) := by
  rw [hc, bitsV_and]; exact andMask x n m h0 h hm hn
theorem orShl {a v : Int} (n p : Nat) (c : Int) (hp : p = 2 ^ n) (hc : c = (n : Int)) (hn : n < 64) (a0 : 0 ≤ a) (a1 : a < (p : Int)) (v0 : 0 ≤ v) (v1 : v * (p : Int) < 18446744073709551616) : bitsV .or .u64 a (shlV .u64 v c) = a + v * (p : Int) := by
  subst hc
  have e1 : shlV .u64 v (n : Int) = v * (p : Int) := by
    unfold shlV
    have e : min ((n : Int).toNat) (IntKind.u64.bits) = n := by
      show min ((n : Int).toNat) 64 = n
      omega
    rw [e, show ((2 : Int) ^ n) = (p : Int) by rw [hp, Int.natCast_pow]; rfl]
    exact wrapU_in _ (Int.mul_nonneg v0 (by omega)) v1
  rw [e1, bitsV_or]
  obtain ⟨a, rfl⟩ := Int.eq_ofNat_of_zero_le a0
  obtain ⟨v, rfl⟩ := Int.eq_ofNat_of_zero_le v0
  have hlt : a < 2 ^ n := by rw [← hp]; omega
  have hb : v * p < 18446744073709551616 := by
    have h1 : ((v * p : Nat) : Int) < 18446744073709551616 := by rw [Int.natCast_mul]; exact v1
    omega
  have ha : a < 18446744073709551616 := by
    have h1 : (2 : Nat) ^ n ≤ 2 ^ 63 := Nat.pow_le_pow_right (by omega) (by omega)
    have h2 : (2 : Nat) ^ 63 = 9223372036854775808 := by decide
    rw [h2] at h1
    omega
  have := bits_or_u64_nat a (v * p) ha hb
  rw [show ((v : Int) * (p : Int)) = ((v * p : Nat) : Int) from (Int.natCast_mul v p).symm, this]
  have e2 := Nat.two_pow_add_eq_or_of_lt hlt v
  rw [← hp] at e2
  rw [Nat.or_comm, show v * p = p * v by rw [Nat.mul_comm], ← e2]
  omega
/-- A function that only computes, out of what the evaluator finds. -/
theorem ret_of_ev {f g : Nat} {s : Bool} {args : List SV} {t : Tree (MO Empty)} (ht : evF Try.prog Γ g s f args [] 0 [] = t) {v : SV} (hl : t.Leads Try.prog fun x => ∃ u H n, x = .val u H n ∧ u.den = v.den) (w : World) :
    Calls Try.prog f (args.map SV.den).toArray w (Ret w v.den) := by
  refine (evF_ok noGos mixedOrders Γ_ok ht hl (R := old w.heap.size w) ((holds_old _ w).cast (star_empl _).symm)).mono ?_
  rintro e w' ⟨u, H', n', ⟨u', H'', n'', hx, he⟩, rfl, h, st⟩
  simp only [Leaf.val.injEq] at hx
  obtain ⟨rfl, rfl, rfl⟩ := hx
  exact ⟨by rw [he], h.drop.below (Nat.le_refl _) st⟩
theorem headWord_c (v : HV) (w : World) : Calls Try.prog 45 #[v.agg] w (Ret w (.int .u64 v.w)) := by
  obtain ⟨a, b, c, d, e, f, g⟩ := v
  refine ret_of_ev (headWord_ev a b c d e f g) (v := .c (sU (HV.w ⟨a, b, c, d, e, f, g⟩))) ?_ w
  simp only [Tree.Leads, same_leads, sameC_leads]
  intro _ _ _ _ _ _ _ _ _
  refine ⟨_, _, _, rfl, ?_⟩
  show Value.int .u64 _ = Value.int .u64 _
  congr 1
  simp only [SI.v, HV.w]
  have wr : ∀ x : Int, 0 ≤ IntKind.u64.wrap x ∧ IntKind.u64.wrap x < 18446744073709551616 := fun x => by rw [IntKind.wrap_u64]; omega
  have k1 := fun x => maskV 1 1 _ (show IntKind.wrap IntKind.u64 (shlV IntKind.u64 1 1 - 1) = ((1 : Nat) : Int) by decide +kernel) (wr x).1 (wr x).2 (by decide) (by decide)
  have k2 := fun x => maskV 2 3 _ (show IntKind.wrap IntKind.u64 (shlV IntKind.u64 1 2 - 1) = ((3 : Nat) : Int) by decide +kernel) (wr x).1 (wr x).2 (by decide) (by decide)
  have k3 := fun x => maskV 3 7 _ (show IntKind.wrap IntKind.u64 (shlV IntKind.u64 1 3 - 1) = ((7 : Nat) : Int) by decide +kernel) (wr x).1 (wr x).2 (by decide) (by decide)
  have k12 := fun x => maskV 12 4095 _ (show IntKind.wrap IntKind.u64 (shlV IntKind.u64 1 12 - 1) = ((4095 : Nat) : Int) by decide +kernel) (wr x).1 (wr x).2 (by decide) (by decide)
  simp only [k1, k2, k3, k12]
  have m : ∀ x : Int, IntKind.u64.wrap x % ((2 ^ 1 : Nat) : Int) = x % 2 ∧ IntKind.u64.wrap x % ((2 ^ 2 : Nat) : Int) = x % 4 ∧ IntKind.u64.wrap x % ((2 ^ 3 : Nat) : Int) = x % 8 ∧ IntKind.u64.wrap x % ((2 ^ 12 : Nat) : Int) = x % 4096 := fun x => by
    rw [IntKind.wrap_u64]; refine ⟨?_, ?_, ?_, ?_⟩ <;> simp <;> omega
  simp only [(m _).1, (m _).2.1, (m _).2.2.1, (m _).2.2.2]
  rw [show IntKind.i64.wrap (0 + 2) = 2 from rfl, show IntKind.i64.wrap (2 + 2) = 4 from rfl, show IntKind.i64.wrap (4 + 3) = 7 from rfl, show IntKind.i64.wrap (7 + 1) = 8 from rfl, show IntKind.i64.wrap (8 + 1) = 9 from rfl, show IntKind.i64.wrap (9 + 3) = 12 from rfl]
  rw [orShl 0 1 0 rfl rfl (by decide) (by omega) (by omega) (by omega) (by omega)]
  rw [orShl 2 4 2 rfl rfl (by decide) (by omega) (by omega) (by omega) (by omega)]
  rw [orShl 4 16 4 rfl rfl (by decide) (by omega) (by omega) (by omega) (by omega)]
  rw [orShl 7 128 7 rfl rfl (by decide) (by omega) (by omega) (by omega) (by omega)]
  rw [orShl 8 256 8 rfl rfl (by decide) (by omega) (by omega) (by omega) (by omega)]
  rw [orShl 9 512 9 rfl rfl (by decide) (by omega) (by omega) (by omega) (by omega)]
  rw [orShl 12 4096 12 rfl rfl (by decide) (by omega) (by omega) (by omega) (by omega)]
  omega
/-! ### heads of lists -/
def topAt (w : Int) : Int := w % 4096
def topVer (w : Int) : Int := w / 4096 % 1099511627776
def topNext (w a : Int) : Int := a % 4096 + (topVer w + 1) % 1099511627776 * 4096
theorem topNext_rng (w a : Int) : 0 ≤ topNext w a ∧ topNext w a < 18446744073709551616 := by unfold topNext; omega
theorem shr12 {w : Int} (h0 : 0 ≤ w) (h : w < 18446744073709551616) : shrV .u64 w 12 = w / 4096 := by
  unfold shrV
  rw [show min ((12 : Int).toNat) IntKind.u64.bits = 12 from rfl, show ((2 : Int) ^ 12) = 4096 from rfl, Int.fdiv_eq_ediv_of_nonneg _ (by omega)]
theorem shr0 {w : Int} : shrV .u64 w 0 = w := by
  unfold shrV
  rw [show min ((0 : Int).toNat) IntKind.u64.bits = 0 from rfl, show ((2 : Int) ^ 0) = 1 from rfl]
  simp
theorem ofTop_c (w : Int) (W : World) (h0 : 0 ≤ w) (h : w < 18446744073709551616) : Calls Try.prog 98 #[.int .u64 w] W (Ret W (.agg #[.int .i64 (topAt w), .int .i64 (topVer w)])) := by
  refine ret_of_ev (ofTop_ev w) (v := .a (.agg [sI (topAt w), sI (topVer w)])) ?_ W
  simp only [Tree.Leads, same_leads, sameC_leads]
  intro _ _
  refine ⟨_, _, _, rfl, ?_⟩
  have k12 := maskV 12 4095 _ (show IntKind.wrap IntKind.u64 (shlV IntKind.u64 1 12 - 1) = ((4095 : Nat) : Int) by decide +kernel) h0 h (by decide) (by decide)
  have k40 := maskV (x := w / 4096) 40 1099511627775 _ (show IntKind.wrap IntKind.u64 (shlV IntKind.u64 1 40 - 1) = ((1099511627775 : Nat) : Int) by decide +kernel) (by omega) (by omega) (by decide) (by decide)
  rw [shr12 h0 h, k12, k40]
  have e1 : IntKind.i64.wrap (w % ((2 ^ 12 : Nat) : Int)) = topAt w := by rw [IntKind.wrap_i64]; unfold topAt; simp; omega
  have e2 : IntKind.i64.wrap (w / 4096 % ((2 ^ 40 : Nat) : Int)) = topVer w := by rw [IntKind.wrap_i64]; unfold topVer; simp; omega
  rw [e1, e2]
theorem rofTop_c (w : Int) (W : World) (h0 : 0 ≤ w) (h : w < 18446744073709551616) : Calls Try.prog 79 #[.int .u64 w] W (Ret W (.agg #[.int .i64 (topAt w), .int .i64 (topVer w)])) := by
  refine ret_of_ev (rofTop_ev w) (v := .a (.agg [sI (topAt w), sI (topVer w)])) ?_ W
  simp only [Tree.Leads, same_leads, sameC_leads]
  intro _
  refine ⟨_, _, _, rfl, ?_⟩
  rw [shr12 h0 h, shr0, show shlV .u64 1 12 = 4096 from rfl, show shlV .u64 1 40 = 1099511627776 from rfl, Int.tmod_eq_emod_of_nonneg h0, Int.tmod_eq_emod_of_nonneg (by omega)]
  have e1 : IntKind.i64.wrap (w % 4096) = topAt w := by rw [IntKind.wrap_i64]; unfold topAt; omega
  have e2 : IntKind.i64.wrap (w / 4096 % 1099511627776) = topVer w := by rw [IntKind.wrap_i64]; unfold topVer; omega
  rw [e1, e2]
theorem next_c (w a : Int) (W : World) (h0 : 0 ≤ w) (h : w < 18446744073709551616) : Calls Try.prog 99 #[.int .u64 w, .int .i64 a] W (Ret W (.int .u64 (topNext w a))) := by
  refine ret_of_ev (next_ev w a) (v := .c (sU (topNext w a))) ?_ W
  have k40 := maskV (x := w / 4096) 40 1099511627775 _ (show IntKind.wrap IntKind.u64 (shlV IntKind.u64 1 40 - 1) = ((1099511627775 : Nat) : Int) by decide +kernel) (by omega) (by omega) (by decide) (by decide)
  have e2 : IntKind.i64.wrap (w / 4096 % ((2 ^ 40 : Nat) : Int)) = topVer w := by rw [IntKind.wrap_i64]; unfold topVer; simp; omega
  have t0 : 0 ≤ topVer w ∧ topVer w < 1099511627776 := by unfold topVer; omega
  simp only [Tree.Leads, same_leads, sameC_leads]
  rw [shr12 h0 h, k40, e2]
  intro _ _
  refine ⟨by unfold inR; simp [IntKind.min, IntKind.max, IntKind.signed, IntKind.bits]; omega, ?_⟩
  intro _ _ _ _ _
  refine ⟨_, _, _, rfl, ?_⟩
  show Value.int .u64 _ = Value.int .u64 _
  congr 1
  simp only [SI.v]
  have wr : ∀ x : Int, 0 ≤ IntKind.u64.wrap x ∧ IntKind.u64.wrap x < 18446744073709551616 := fun x => by rw [IntKind.wrap_u64]; omega
  have k12 := fun x => maskV 12 4095 _ (show IntKind.wrap IntKind.u64 (shlV IntKind.u64 1 12 - 1) = ((4095 : Nat) : Int) by decide +kernel) (wr x).1 (wr x).2 (by decide) (by decide)
  have k40' := fun x => maskV 40 1099511627775 _ (show IntKind.wrap IntKind.u64 (shlV IntKind.u64 1 40 - 1) = ((1099511627775 : Nat) : Int) by decide +kernel) (wr x).1 (wr x).2 (by decide) (by decide)
  have m : ∀ x : Int, IntKind.u64.wrap x % ((2 ^ 12 : Nat) : Int) = x % 4096 ∧ IntKind.u64.wrap x % ((2 ^ 40 : Nat) : Int) = x % 1099511627776 := fun x => by
    rw [IntKind.wrap_u64]; refine ⟨?_, ?_⟩ <;> simp <;> omega
  simp only [k12, k40', (m _).1, (m _).2]
  rw [show IntKind.i64.wrap (0 + 12) = 12 from rfl]
  rw [orShl 0 1 0 rfl rfl (by decide) (by omega) (by omega) (by omega) (by omega)]
  rw [orShl 12 4096 12 rfl rfl (by decide) (by omega) (by omega) (by omega) (by omega)]
  unfold topNext
  omega
theorem rnext_c (w a : Int) (W : World) (h0 : 0 ≤ w) (h : w < 18446744073709551616) : Calls Try.prog 80 #[.int .u64 w, .int .i64 a] W (Ret W (.int .u64 (topNext w a))) := by
  refine ret_of_ev (rnext_ev w a) (v := .c (sU (topNext w a))) ?_ W
  have e2 : IntKind.i64.wrap (w / 4096 % 1099511627776) = topVer w := by rw [IntKind.wrap_i64]; unfold topVer; omega
  have t0 : 0 ≤ topVer w ∧ topVer w < 1099511627776 := by unfold topVer; omega
  have wr : ∀ x : Int, 0 ≤ IntKind.u64.wrap x ∧ IntKind.u64.wrap x < 18446744073709551616 := fun x => by rw [IntKind.wrap_u64]; omega
  have sh : ∀ x : Int, shlV .u64 x 0 = IntKind.u64.wrap x ∧ shlV .u64 x 12 = IntKind.u64.wrap (x * 4096) := fun x => by
    unfold shlV
    rw [show min ((12 : Int).toNat) IntKind.u64.bits = 12 from rfl, show ((2 : Int) ^ 12) = 4096 from rfl, show min ((0 : Int).toNat) IntKind.u64.bits = 0 from rfl, show ((2 : Int) ^ 0) = 1 from rfl, Int.mul_one]
    exact ⟨rfl, rfl⟩
  have c12 : shlV .u64 1 12 = 4096 := rfl
  have c40 : shlV .u64 1 40 = 1099511627776 := rfl
  simp only [Tree.Leads, same_leads, sameC_leads]
  rw [shr12 h0 h, c40, c12, Int.tmod_eq_emod_of_nonneg (by omega), e2]
  intro _ _
  refine ⟨by unfold inR; simp [IntKind.min, IntKind.max, IntKind.signed, IntKind.bits]; omega, ?_⟩
  intro _
  refine ⟨_, _, _, rfl, ?_⟩
  show Value.int .u64 _ = Value.int .u64 _
  congr 1
  simp only [SI.v]
  rw [Int.tmod_eq_emod_of_nonneg (wr _).1, Int.tmod_eq_emod_of_nonneg (wr _).1, (sh _).1, (sh _).2]
  simp only [IntKind.wrap_u64]
  unfold topNext
  omega
end Go.Proofs.Ytmmpnjcmaodkcaa.Ev
