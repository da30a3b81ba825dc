/- What is proved: laws on words of 64 bits, over numbers alone: masks, shifts, what slot and head make of a word. Conditions: stated with each lemma. -/
import Derived.Laws.Entries
import Derived.Laws.Bits64b
import Derived.RowKit
open Go
namespace Go.Proofs.Ytmmpnjcmaodkcaa.Num
theorem bits_u64_toNat (op : BinOp) (a b : Nat) (r : Nat) (hr : r < 18446744073709551616)
    (h : (match op with
    | .and => BitVec.ofNat 64 a &&& BitVec.ofNat 64 b
    | .or => BitVec.ofNat 64 a ||| BitVec.ofNat 64 b
    | .xor => BitVec.ofNat 64 a ^^^ BitVec.ofNat 64 b
    | _ => BitVec.ofNat 64 a &&& ~~~BitVec.ofNat 64 b).toNat = r) : bits op .u64 (a : Int) (b : Int) = (r : Int) := by
  show IntKind.u64.wrap _ = _
  have h1 : BitVec.ofInt 64 (a : Int) = BitVec.ofNat 64 a := BitVec.ofInt_natCast ..
  have h2 : BitVec.ofInt 64 (b : Int) = BitVec.ofNat 64 b := BitVec.ofInt_natCast ..
  show IntKind.u64.wrap ((match op with
    | .and => BitVec.ofInt 64 (a:Int) &&& BitVec.ofInt 64 (b:Int)
    | .or => BitVec.ofInt 64 (a:Int) ||| BitVec.ofInt 64 (b:Int)
    | .xor => BitVec.ofInt 64 (a:Int) ^^^ BitVec.ofInt 64 (b:Int)
    | _ => BitVec.ofInt 64 (a:Int) &&& ~~~BitVec.ofInt 64 (b:Int)).toNat : Int) = _
  rw [h1, h2, h, IntKind.wrap_u64]
  omega

theorem and8 (a b : Nat) : a &&& b = 8 * (a / 8 &&& b / 8) + (a % 8 &&& b % 8) := by
  have h1 := Nat.and_div_two_pow (a := a) (b := b) (n := 3)
  have h2 := Nat.and_mod_two_pow (a := a) (b := b) (n := 3)
  have := Nat.div_add_mod (a &&& b) 8
  simp at h1 h2
  omega
theorem or8 (a b : Nat) : a ||| b = 8 * (a / 8 ||| b / 8) + (a % 8 ||| b % 8) := by
  have h1 := Nat.or_div_two_pow (a := a) (b := b) (n := 3)
  have h2 := Nat.or_mod_two_pow (a := a) (b := b) (n := 3)
  have := Nat.div_add_mod (a ||| b) 8
  simp at h1 h2
  omega

theorem eight {P : Nat → Prop} (h0 : P 0) (h1 : P 1) (h2 : P 2) (h3 : P 3) (h4 : P 4) (h5 : P 5) (h6 : P 6) (h7 : P 7) (s : Nat) (h : s < 8) : P s := by
  have : s = 0 ∨ s = 1 ∨ s = 2 ∨ s = 3 ∨ s = 4 ∨ s = 5 ∨ s = 6 ∨ s = 7 := by omega
  rcases this with rfl | rfl | rfl | rfl | rfl | rfl | rfl | rfl <;> assumption

theorem and3n (n : Nat) : n &&& 3 = n % 4 := by
  have := Nat.and_two_pow_sub_one_eq_mod n 2
  simpa using this
theorem and4n (n : Nat) : n &&& 4 = (n / 4 % 2) * 4 := by
  rw [and8]
  have h : n % 8 < 8 := Nat.mod_lt _ (by omega)
  have e : n % 8 &&& 4 % 8 = (n % 8 / 4 % 2) * 4 := eight (P := fun s => s &&& 4 % 8 = (s / 4 % 2) * 4) rfl rfl rfl rfl rfl rfl rfl rfl _ h
  rw [e]; simp; omega
theorem or4n (n : Nat) : n ||| 4 = n + (1 - n / 4 % 2) * 4 := by
  rw [or8]
  have h : n % 8 < 8 := Nat.mod_lt _ (by omega)
  have e : n % 8 ||| 4 % 8 = n % 8 + (1 - n % 8 / 4 % 2) * 4 := eight (P := fun s => s ||| 4 % 8 = s + (1 - s / 4 % 2) * 4) rfl rfl rfl rfl rfl rfl rfl rfl _ h
  rw [e]; simp; omega
theorem andM (n : Nat) (h : n < 18446744073709551616) : n &&& 18446744073709551611 = n - (n / 4 % 2) * 4 := by
  rw [and8]
  have hs : n % 8 < 8 := Nat.mod_lt _ (by omega)
  have e : n % 8 &&& 18446744073709551611 % 8 = n % 8 - (n % 8 / 4 % 2) * 4 := eight (P := fun s => s &&& 18446744073709551611 % 8 = s - (s / 4 % 2) * 4) rfl rfl rfl rfl rfl rfl rfl rfl _ hs
  have e2 : n / 8 &&& 18446744073709551611 / 8 = n / 8 := by
    have := Nat.and_two_pow_sub_one_eq_mod (n / 8) 61
    have q : (18446744073709551611 / 8 : Nat) = 2 ^ 61 - 1 := by decide
    rw [q, this]; exact Nat.mod_eq_of_lt (by omega)
  rw [e, e2]; omega

theorem and3 (x : Int) (h0 : 0 ≤ x) (h : x < 18446744073709551616) : bits .and .u64 x 3 = x % 4 := by
  obtain ⟨n, rfl⟩ := Int.eq_ofNat_of_zero_le h0
  have := bits_and_u64_nat n 3 (by omega) (by omega)
  rw [and3n] at this
  simpa using this
theorem and4 (x : Int) (h0 : 0 ≤ x) (h : x < 18446744073709551616) : bits .and .u64 x 4 = (x / 4 % 2) * 4 := by
  obtain ⟨n, rfl⟩ := Int.eq_ofNat_of_zero_le h0
  have := bits_and_u64_nat n 4 (by omega) (by omega)
  rw [and4n] at this
  simpa using this
theorem or4 (x : Int) (h0 : 0 ≤ x) (h : x < 18446744073709551616) : bits .or .u64 x 4 = x + (1 - x / 4 % 2) * 4 := by
  obtain ⟨n, rfl⟩ := Int.eq_ofNat_of_zero_le h0
  have := bits_or_u64_nat n 4 (by omega) (by omega)
  rw [or4n] at this
  rw [show (4 : Int) = ((4 : Nat) : Int) from rfl, this]; omega
theorem andNot4 (x : Int) (h0 : 0 ≤ x) (h : x < 18446744073709551616) : bits .andNot .u64 x 4 = x - (x / 4 % 2) * 4 := by
  obtain ⟨n, rfl⟩ := Int.eq_ofNat_of_zero_le h0
  have := bits_u64_toNat .andNot n 4 (n - (n / 4 % 2) * 4) (by omega) (by
    rw [BitVec.toNat_and, BitVec.toNat_not, BitVec.toNat_ofNat, BitVec.toNat_ofNat, Nat.mod_eq_of_lt (by omega : n < 2 ^ 64)]
    exact andM n (by omega))
  rw [show (4 : Int) = ((4 : Nat) : Int) from rfl, this]; omega
theorem orJoin (k m : Int) (hk0 : 0 ≤ k) (hk : k < 4) (hm0 : 0 ≤ m) (hm : m < 2305843009213693952) : bits .or .u64 k (m * 8) = k + m * 8 := by
  obtain ⟨k, rfl⟩ := Int.eq_ofNat_of_zero_le hk0
  obtain ⟨m, rfl⟩ := Int.eq_ofNat_of_zero_le hm0
  have := bits_or_u64_nat k (m * 8) (by omega) (by omega)
  rw [or8, show k / 8 = 0 by omega, show m * 8 % 8 = 0 by omega, show m * 8 / 8 = m by omega, Nat.zero_or, Nat.or_zero] at this
  rw [show ((m : Int) * 8) = ((m * 8 : Nat) : Int) by omega, this]; omega
theorem of_u64 {a : Int} (h : (Lit.int .u64 a).wf = true) : 0 ≤ a ∧ a < 18446744073709551616 := by
  simp [Lit.wf, IntKind.min, IntKind.max, IntKind.signed, IntKind.bits] at h; omega
theorem of_i64 {a : Int} (h : (Lit.int .i64 a).wf = true) : -9223372036854775808 ≤ a ∧ a ≤ 9223372036854775807 := by
  simp [Lit.wf, IntKind.min, IntKind.max, IntKind.signed, IntKind.bits] at h; omega
/-- What 'slot.Of', 'slot.Thaw', 'slot.Freeze', 'slot.Frozen', 'slot.Word' come to. -/
theorem of1 (a : Int) (h0 : 0 ≤ a) (h : a < 18446744073709551616) : RowKit.wrap64 (bits .and .u64 a 3) = a % 4 := by
  rw [and3 a h0 h]; unfold RowKit.wrap64; omega
theorem of2 (a : Int) (h0 : 0 ≤ a) (h : a < 18446744073709551616) : RowKit.wrap64 (IntKind.u64.wrap (Int.tdiv a 8)) = a / 8 := by
  rw [Int.tdiv_eq_ediv_of_nonneg h0, IntKind.wrap_u64]; unfold RowKit.wrap64; omega
theorem frozen1 (a : Int) (h0 : 0 ≤ a) (h : a < 18446744073709551616) : (bits .and .u64 a 4 != 0) = decide (a / 4 % 2 = 1) := by
  rw [and4 a h0 h, Bool.eq_iff_iff]; simp; omega
theorem word1 (k n : Int) : bits .or .u64 (bits .and .u64 (IntKind.u64.wrap k) 3) (IntKind.u64.wrap (IntKind.u64.wrap n * 8)) = k % 4 + n % 2305843009213693952 * 8 := by
  have hk : IntKind.u64.wrap k = k % 18446744073709551616 := IntKind.wrap_u64 k
  have hn : IntKind.u64.wrap (IntKind.u64.wrap n * 8) = n % 2305843009213693952 * 8 := by simp only [IntKind.wrap_u64]; omega
  rw [hn, hk, and3 _ (by omega) (by omega), orJoin _ _ (by omega) (by omega) (by omega) (by omega)]; omega
theorem andMask (x : Int) (n m : Nat) (h0 : 0 ≤ x) (h : x < 18446744073709551616) (hm : m = 2 ^ n - 1) (hn : m < 18446744073709551616) : bits .and .u64 x (m : Int) = x % (2 ^ n : Nat) := by
  obtain ⟨y, rfl⟩ := Int.eq_ofNat_of_zero_le h0
  rw [bits_and_u64_nat y m (by omega) hn, hm, Nat.and_two_pow_sub_one_eq_mod]; rfl

/-! ### the plain words -/
/-- What a word tells: the kind, the number. -/
def vK (w : Int) : Int := w % 4
def vN (w : Int) : Int := w / 8
/-- What a kind and a number are as a word. -/
def sW (k n : Int) : Int := k % 4 + n % 2305843009213693952 * 8
theorem sW_lo (k n : Int) : 0 ≤ sW k n := by unfold sW; omega
theorem sW_hi (k n : Int) : sW k n < 18446744073709551616 := by unfold sW; omega
theorem vK_sW (k n : Int) (h : 0 ≤ k) (h' : k < 4) : vK (sW k n) = k := by unfold vK sW; omega
theorem vN_sW (k n : Int) (h : 0 ≤ n) (h' : n < 2305843009213693952) : vN (sW k n) = n := by unfold vN sW; omega
/-- A header's parts. -/
structure HV where
  st : Int
  cl : Int
  ct : Int
  mr : Int
  gr : Int
  tg : Int
  lk : Int
deriving DecidableEq
def HV.of (w : Int) : HV := ⟨w % 4, w / 4 % 4, w / 16 % 8, w / 128 % 2, w / 256 % 2, w / 512 % 8, w / 4096 % 4096⟩
def HV.w (h : HV) : Int := h.st % 4 + h.cl % 4 * 4 + h.ct % 8 * 16 + h.mr % 2 * 128 + h.gr % 2 * 256 + h.tg % 8 * 512 + h.lk % 4096 * 4096
def HV.agg (h : HV) : Value := .agg #[.int .i64 h.st, .int .i64 h.cl, .int .i64 h.ct, .int .i64 h.mr, .int .i64 h.gr, .int .i64 h.tg, .int .i64 h.lk]
theorem HV.w_lo (h : HV) : 0 ≤ h.w := by unfold HV.w; omega
theorem HV.w_hi (h : HV) : h.w < 16777216 := by unfold HV.w; omega
structure HV.fits (h : HV) : Prop where
  st : 0 ≤ h.st ∧ h.st < 4
  cl : 0 ≤ h.cl ∧ h.cl < 4
  ct : 0 ≤ h.ct ∧ h.ct < 8
  mr : 0 ≤ h.mr ∧ h.mr < 2
  gr : 0 ≤ h.gr ∧ h.gr < 2
  tg : 0 ≤ h.tg ∧ h.tg < 8
  lk : 0 ≤ h.lk ∧ h.lk < 4096
theorem HV.of_fits (w : Int) : (HV.of w).fits := by
  constructor <;> simp only [HV.of] <;> omega
theorem HV.of_w (h : HV) (f : h.fits) : HV.of h.w = h := by
  obtain ⟨f1, f2, f3, f4, f5, f6, f7⟩ := f
  cases h with
  | mk a b c d e f g =>
    simp only [HV.of, HV.w] at *
    congr 1 <;> omega
/-- Where an object is. -/
def hMoved (w a : Int) : Int := if (HV.of w).st = 1 ∧ (HV.of w).tg = 2 then (HV.of w).lk else a
/-- Which of n kinds. -/
def kindOf (c n : Int) : Int := if c < 0 then (-(c + 1)) % n else c % n
theorem kindOf_lo (c n : Int) (h : 0 < n) : 0 ≤ kindOf c n := by unfold kindOf; split <;> exact Int.emod_nonneg _ (by omega)
theorem kindOf_hi (c n : Int) (h : 0 < n) : kindOf c n < n := by unfold kindOf; split <;> exact Int.emod_lt_of_pos _ h
end Go.Proofs.Ytmmpnjcmaodkcaa.Num
