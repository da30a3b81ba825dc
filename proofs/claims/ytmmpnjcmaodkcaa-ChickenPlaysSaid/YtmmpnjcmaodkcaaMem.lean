/- What is proved: contracts of the program's memory (package mem): access, Load, Store. Conditions: stated with each contract. -/
import Derived.Test.YtmmpnjcmaodkcaaRow
import Derived.Test.YtmmpnjcmaodkcaaProg
import Derived.WalkSpells
import Derived.WalkLawsBesides
import Derived.BigQuiet
import Derived.Deep.QuietTactic
import Derived.Outline
namespace Go.Proofs.Ytmmpnjcmaodkcaa.Mem
open Go Go.RowKit Go.Proofs.Ytmmpnjcmaodkcaa.Sep
set_option maxRecDepth 100000
set_option linter.unusedVariables false
set_option linter.unusedSimpArgs false
theorem info127 : (Try.prog.info? 128).map (fun i => (i.zero, i.size, i.bytes)) = some (some (.agg #[.int .i64 0, .int .i64 0, .bool false]), 3, 24) := by kernel_rfl
def W (ws : List Int) : Array Value := (ws.map (Value.int .u64)).toArray
/-- What a memory is: its words, the counts, how long the trace is. -/
structure MS where
  ws : List Int
  cnt : Nat
  tr : Nat
  n : Nat
def Wd (ws : List Int) : Prop := ∀ x, x ∈ ws → 0 ≤ x ∧ x < 18446744073709551616
structure MS.ok (M : MS) : Prop where
  len : M.ws.length ≤ 4096
  wd : Wd M.ws
  cnt : M.cnt < 1099511627776
  tr : M.tr < 1099511627776
  n : M.n < 1099511627776
/-- A memory stands at the block mb: T its struct's type. -/
def MemP (T mb : Nat) (M : MS) : HProp := fun h => ∃ wb tv xs, (pt mb (.cells #[.slice (some ⟨wb, 0, none⟩) M.ws.length M.ws.length, .int .i64 (M.cnt : Int), .int .i64 (M.tr : Int), tv] T (0, 0)) * (pt wb (.cells (W M.ws) 38 (0, 0)) * Row 128 3 tv M.n xs)) h
theorem memP_open {T mb : Nat} {M : MS} {w : World} {R : HProp} (H : Holds w (MemP T mb M * R)) :
    ∃ (wb : Nat) (tv : Value) (xs : List Value), Holds w (pt mb (.cells #[.slice (some ⟨wb, 0, none⟩) M.ws.length M.ws.length, .int .i64 (M.cnt : Int), .int .i64 (M.tr : Int), tv] T (0, 0)) * (pt wb (.cells (W M.ws) 38 (0, 0)) * (Row 128 3 tv M.n xs * R))) := by
  obtain ⟨wb, H⟩ := holds_ex H
  obtain ⟨tv, H⟩ := holds_ex H
  obtain ⟨xs, H⟩ := holds_ex H
  exact ⟨wb, tv, xs, H.cast (by simp only [star_assoc])⟩
theorem memP_close {T mb : Nat} {M : MS} {w : World} {R : HProp} {wb : Nat} {tv : Value} {xs : List Value}
    (H : Holds w (pt mb (.cells #[.slice (some ⟨wb, 0, none⟩) M.ws.length M.ws.length, .int .i64 (M.cnt : Int), .int .i64 (M.tr : Int), tv] T (0, 0)) * (pt wb (.cells (W M.ws) 38 (0, 0)) * (Row 128 3 tv M.n xs * R)))) : Holds w (MemP T mb M * R) := by
  refine (H.cast (Q := (pt mb (.cells #[.slice (some ⟨wb, 0, none⟩) M.ws.length M.ws.length, .int .i64 (M.cnt : Int), .int .i64 (M.tr : Int), tv] T (0, 0)) * (pt wb (.cells (W M.ws) 38 (0, 0)) * Row 128 3 tv M.n xs)) * R) (by simp only [star_assoc])).mono (star_mono (fun h x => ⟨wb, tv, xs, x⟩) (fun _ r => r))
theorem W_size (ws : List Int) : (W ws).size = ws.length := by simp [W]
theorem W_get (ws : List Int) (i : Nat) (h : i < ws.length) : (W ws)[i]? = some (.int .u64 (ws.getD i 0)) := by
  simp [W, h]
theorem W_set (ws : List Int) (i : Nat) (x : Int) : (W ws).setIfInBounds i (.int .u64 x) = W (ws.set i x) := by
  simp [W]

/-- What a closure that is handed to 'access' does with the words from a on. -/
def Does (K : Nat) (C : Array Value) (wb : Nat) (a : Nat) (ws ws' : List Int) (ok : Bool) (D D' : HProp) : Prop :=
  ∀ (w1 : World) (R1 : HProp), Holds w1 (pt wb (.cells (W ws) 38 (0, 0)) * (D * R1)) →
    Calls Try.prog K (#[.slice (some ⟨wb, a, none⟩) (ws.length - a) (ws.length - a)] ++ C) w1 fun e w2 =>
      e = .returned (.bool ok) ∧ Holds w2 (pt wb (.cells (W ws') 38 (0, 0)) * (D' * R1)) ∧ Strm w1 w2

set_option maxHeartbeats 1000000 in
theorem access_in (w : World) (R D D' : HProp) (mb wb : Nat) (M : MS) (ws' : List Int) (ok : Bool) (tv : Value) (xs : List Value) (op a : Int) (K : Nat) (C : Array Value)
    (H : Holds w (pt mb (.cells #[.slice (some ⟨wb, 0, none⟩) M.ws.length M.ws.length, .int .i64 (M.cnt : Int), .int .i64 (M.tr : Int), tv] 101 (0, 0)) * (pt wb (.cells (W M.ws) 38 (0, 0)) * (D * (Row 128 3 tv M.n xs * R)))))
    (hcf : ∀ (args : Array Value) (w : World), (callFunc K args).run Try.prog w = .ok (.enter K args) w)
    (hdo : Does K C wb a.toNat M.ws ws' ok D D') (hlen : ws'.length = M.ws.length)
    (hok : M.ok) (h0 : 0 ≤ a) (h1 : a < M.ws.length) :
    Calls Try.prog 49 #[.pointer (some ⟨mb, 0, none⟩), .int .i64 op, .int .i64 a, .int .i64 1, .func (.func K) #[] C] w fun e w' => e = .returned (.tuple #[]) ∧
      Holds w' (MemP 101 mb { ws := ws', cnt := M.cnt + 1, tr := M.tr, n := M.n + 1 } * (D' * R)) ∧ Strm w w' := by
  obtain ⟨hl, hwd, hcn, htn, hnn⟩ := hok
  clear hwd
  have hc0 := H.cell 0 (.slice (some ⟨wb, 0, none⟩) M.ws.length M.ws.length) rfl
  obtain ⟨i0, hi, hz0, hz1, hz2⟩ := info_parts info127
  have HH : Hid (Holds w (pt mb (.cells #[.slice (some ⟨wb, 0, none⟩) M.ws.length M.ws.length, .int .i64 (M.cnt : Int), .int .i64 (M.tr : Int), tv] 101 (0, 0)) * (pt wb (.cells (W M.ws) 38 (0, 0)) * (D * (Row 128 3 tv M.n xs * R))))) := H
  have HD : Hid (Does K C wb a.toNat M.ws ws' ok D D') := hdo
  have HL : Hid (ws'.length = M.ws.length) := hlen
  clear H hdo hlen
  go_enter Try.func49, Try.ntmps49
  go_wp2_with fail
  refine (HD.out w (Row 128 3 tv M.n xs * (pt mb (.cells #[.slice (some ⟨wb, 0, none⟩) M.ws.length M.ws.length, .int .i64 (M.cnt : Int), .int .i64 (M.tr : Int), tv] 101 (0, 0)) * R)) (HH.out.cast (by ac_rfl))).mono ?_
  rintro e w2 ⟨rfl, H2, s2⟩
  have H2' := H2.cast (Q := pt mb (.cells #[.slice (some ⟨wb, 0, none⟩) M.ws.length M.ws.length, .int .i64 (M.cnt : Int), .int .i64 (M.tr : Int), tv] 101 (0, 0)) * (Row 128 3 tv M.n xs * (pt wb (.cells (W ws') 38 (0, 0)) * (D' * R)))) (by ac_rfl)
  have hc1 := H2'.cell 1 (.int .i64 (M.cnt : Int)) rfl
  have hc3 := H2'.cell 3 tv rfl
  have hf1 := H2'.free 1
  have H3 := (H2'.set 1 (.int .i64 ((M.cnt : Int) + 1))).alloc (.cells #[.int .i64 op, .int .i64 a, .bool ok] 128)
  have H4 := H3.drop.cast (Q := Row 128 3 tv M.n xs * (pt mb (.cells #[.slice (some ⟨wb, 0, none⟩) M.ws.length M.ws.length, .int .i64 ((M.cnt : Int) + 1), .int .i64 (M.tr : Int), tv] 101 (0, 0)) * (pt wb (.cells (W ws') 38 (0, 0)) * (D' * R)))) (by simp only [List.setIfInBounds_toArray, List.set_cons_succ, List.set_cons_zero]; ac_rfl)
  have k1 : Hid (∀ j u, [Value.int .i64 op, .int .i64 a, .bool ok][j]? = some u → ((w2.setCell ⟨mb, 1, none⟩ (.int .i64 ((M.cnt : Int) + 1))).alloc (.cells #[.int .i64 op, .int .i64 a, .bool ok] 128)).cell? ((⟨w2.heap.size, 0, none⟩ : Addr).add j) = some u) := news_alloc (w2.setCell ⟨mb, 1, none⟩ (.int .i64 ((M.cnt : Int) + 1))) [.int .i64 op, .int .i64 a, .bool ok] _ _ (by simp [World.setCell])
  have k2 : Hid (∀ u ∈ [Value.int .i64 op, .int .i64 a, .bool ok], u.oneCell' = true) := by intro u hu; simp at hu; rcases hu with rfl | rfl | rfl <;> rfl
  have k3 : Hid (M.n + 1 ≤ maxLen) := by unfold maxLen Hid; omega
  go_wp2_with (at_builtin; refine wpList_append_row _ rfl (.tmp 66) (.tmp 71) 48 rfl 128 i0 _ 3 24 Try.underlying48 hi hz0 hz1 hz2 rfl _ tv M.n xs H4 rfl ⟨w2.heap.size, 0, none⟩ 1 1 [.int .i64 op, .int .i64 a, .bool ok] rfl rfl k1.out k2.out (by omega) k3.out (by omega) ?_)
  clear H3 H4 H2' hc1 hc3 hf1 k1 k2 k3
  intro ao c' w5 H5 s5
  have H6 := H5.cast (Q := pt mb (.cells #[.slice (some ⟨wb, 0, none⟩) M.ws.length M.ws.length, .int .i64 ((M.cnt : Int) + 1), .int .i64 (M.tr : Int), tv] 101 (0, 0)) * (pt wb (.cells (W ws') 38 (0, 0)) * (Row 128 3 (.slice ao (M.n + 1) c') (M.n + 1) (xs ++ [.int .i64 op, .int .i64 a, .bool ok]) * (D' * R)))) (by ac_rfl)
  have hc3 := H6.cell 3 tv rfl
  have hf3 := H6.free 3
  have H7 := H6.set 3 (.slice ao (M.n + 1) c')
  go_wp2_with fail
  go_end0
  have e := HL.out
  refine ⟨rfl, memP_close (wb := wb) (tv := .slice ao (M.n + 1) c') (xs := xs ++ [.int .i64 op, .int .i64 a, .bool ok]) (H7.cast ?_), ((s2.set _ _).alloc _ |>.trans s5).set _ _⟩
  simp only [List.setIfInBounds_toArray, List.set_cons_succ, List.set_cons_zero, e]
  rfl
set_option maxHeartbeats 1000000 in
theorem access_neg (w : World) (R : HProp) (mb wb : Nat) (M : MS) (tv : Value) (xs : List Value) (op a : Int) (K : Nat) (C : Array Value)
    (H : Holds w (pt mb (.cells #[.slice (some ⟨wb, 0, none⟩) M.ws.length M.ws.length, .int .i64 (M.cnt : Int), .int .i64 (M.tr : Int), tv] 101 (0, 0)) * (pt wb (.cells (W M.ws) 38 (0, 0)) * (Row 128 3 tv M.n xs * R))))
    (hok : M.ok) (h0 : a < 0) :
    Calls Try.prog 49 #[.pointer (some ⟨mb, 0, none⟩), .int .i64 op, .int .i64 a, .int .i64 1, .func (.func K) #[] C] w fun e w' => e = .returned (.tuple #[]) ∧
      Holds w' (MemP 101 mb { ws := M.ws, cnt := M.cnt + 1, tr := M.tr + 1, n := M.n + 1 } * R) ∧ Strm w w' := by
  obtain ⟨hl, hwd, hcn, htn, hnn⟩ := hok
  clear hwd
  have hc0 := H.cell 0 (.slice (some ⟨wb, 0, none⟩) M.ws.length M.ws.length) rfl
  obtain ⟨i0, hi, hz0, hz1, hz2⟩ := info_parts info127
  have H2' := H.cast (Q := pt mb (.cells #[.slice (some ⟨wb, 0, none⟩) M.ws.length M.ws.length, .int .i64 (M.cnt : Int), .int .i64 (M.tr : Int), tv] 101 (0, 0)) * (Row 128 3 tv M.n xs * (pt wb (.cells (W M.ws) 38 (0, 0)) * R))) (by ac_rfl)
  have hc1 := H2'.cell 1 (.int .i64 (M.cnt : Int)) rfl
  have hc2 := H2'.cell 2 (.int .i64 (M.tr : Int)) rfl
  have hc3 := H2'.cell 3 tv rfl
  have hf1 := H2'.free 1
  have hf2 := H2'.free 2
  have H3 := ((H2'.set 1 (.int .i64 ((M.cnt : Int) + 1))).set 2 (.int .i64 ((M.tr : Int) + 1))).alloc (.cells #[.int .i64 op, .int .i64 a, .bool false] 128)
  have H4 := H3.drop.cast (Q := Row 128 3 tv M.n xs * (pt mb (.cells #[.slice (some ⟨wb, 0, none⟩) M.ws.length M.ws.length, .int .i64 ((M.cnt : Int) + 1), .int .i64 ((M.tr : Int) + 1), tv] 101 (0, 0)) * (pt wb (.cells (W M.ws) 38 (0, 0)) * R))) (by simp only [List.setIfInBounds_toArray, List.set_cons_succ, List.set_cons_zero]; ac_rfl)
  have k1 : Hid (∀ j u, [Value.int .i64 op, .int .i64 a, .bool false][j]? = some u → (((w.setCell ⟨mb, 1, none⟩ (.int .i64 ((M.cnt : Int) + 1))).setCell ⟨mb, 2, none⟩ (.int .i64 ((M.tr : Int) + 1))).alloc (.cells #[.int .i64 op, .int .i64 a, .bool false] 128)).cell? ((⟨w.heap.size, 0, none⟩ : Addr).add j) = some u) := news_alloc ((w.setCell ⟨mb, 1, none⟩ (.int .i64 ((M.cnt : Int) + 1))).setCell ⟨mb, 2, none⟩ (.int .i64 ((M.tr : Int) + 1))) [.int .i64 op, .int .i64 a, .bool false] _ _ (by simp [World.setCell])
  have k2 : Hid (∀ u ∈ [Value.int .i64 op, .int .i64 a, .bool false], u.oneCell' = true) := by intro u hu; simp at hu; rcases hu with rfl | rfl | rfl <;> rfl
  have k3 : Hid (M.n + 1 ≤ maxLen) := by unfold maxLen Hid; omega
  go_enter Try.func49, Try.ntmps49
  go_wp2_with (at_builtin; refine wpList_append_row _ rfl (.tmp 66) (.tmp 71) 48 rfl 128 i0 _ 3 24 Try.underlying48 hi hz0 hz1 hz2 rfl _ tv M.n xs H4 rfl ⟨w.heap.size, 0, none⟩ 1 1 [.int .i64 op, .int .i64 a, .bool false] rfl rfl k1.out k2.out (by omega) k3.out (by omega) ?_)
  clear H3 H4 H2' hc1 hc3 hf1 k1 k2 k3 hc2 hf2
  intro ao c' w5 H5 s5
  have H6 := H5.cast (Q := pt mb (.cells #[.slice (some ⟨wb, 0, none⟩) M.ws.length M.ws.length, .int .i64 ((M.cnt : Int) + 1), .int .i64 ((M.tr : Int) + 1), tv] 101 (0, 0)) * (pt wb (.cells (W M.ws) 38 (0, 0)) * (Row 128 3 (.slice ao (M.n + 1) c') (M.n + 1) (xs ++ [.int .i64 op, .int .i64 a, .bool false]) * R))) (by ac_rfl)
  have hc3 := H6.cell 3 tv rfl
  have hf3 := H6.free 3
  have H7 := H6.set 3 (.slice ao (M.n + 1) c')
  go_wp2_with fail
  go_end0
  refine ⟨rfl, memP_close (wb := wb) (tv := .slice ao (M.n + 1) c') (xs := xs ++ [.int .i64 op, .int .i64 a, .bool false]) (H7.cast ?_), (((((Strm.refl w).set _ _).set _ _).alloc _).trans s5).set _ _⟩
  simp only [List.setIfInBounds_toArray, List.set_cons_succ, List.set_cons_zero]
  rfl
set_option maxHeartbeats 1000000 in
theorem access_big (w : World) (R : HProp) (mb wb : Nat) (M : MS) (tv : Value) (xs : List Value) (op a : Int) (K : Nat) (C : Array Value)
    (H : Holds w (pt mb (.cells #[.slice (some ⟨wb, 0, none⟩) M.ws.length M.ws.length, .int .i64 (M.cnt : Int), .int .i64 (M.tr : Int), tv] 101 (0, 0)) * (pt wb (.cells (W M.ws) 38 (0, 0)) * (Row 128 3 tv M.n xs * R))))
    (hok : M.ok) (h0 : 0 ≤ a) (h1 : (M.ws.length : Int) ≤ a) :
    Calls Try.prog 49 #[.pointer (some ⟨mb, 0, none⟩), .int .i64 op, .int .i64 a, .int .i64 1, .func (.func K) #[] C] w fun e w' => e = .returned (.tuple #[]) ∧
      Holds w' (MemP 101 mb { ws := M.ws, cnt := M.cnt + 1, tr := M.tr + 1, n := M.n + 1 } * R) ∧ Strm w w' := by
  obtain ⟨hl, hwd, hcn, htn, hnn⟩ := hok
  clear hwd
  have hc0 := H.cell 0 (.slice (some ⟨wb, 0, none⟩) M.ws.length M.ws.length) rfl
  obtain ⟨i0, hi, hz0, hz1, hz2⟩ := info_parts info127
  have H2' := H.cast (Q := pt mb (.cells #[.slice (some ⟨wb, 0, none⟩) M.ws.length M.ws.length, .int .i64 (M.cnt : Int), .int .i64 (M.tr : Int), tv] 101 (0, 0)) * (Row 128 3 tv M.n xs * (pt wb (.cells (W M.ws) 38 (0, 0)) * R))) (by ac_rfl)
  have hc1 := H2'.cell 1 (.int .i64 (M.cnt : Int)) rfl
  have hc2 := H2'.cell 2 (.int .i64 (M.tr : Int)) rfl
  have hc3 := H2'.cell 3 tv rfl
  have hf1 := H2'.free 1
  have hf2 := H2'.free 2
  have H3 := ((H2'.set 1 (.int .i64 ((M.cnt : Int) + 1))).set 2 (.int .i64 ((M.tr : Int) + 1))).alloc (.cells #[.int .i64 op, .int .i64 a, .bool false] 128)
  have H4 := H3.drop.cast (Q := Row 128 3 tv M.n xs * (pt mb (.cells #[.slice (some ⟨wb, 0, none⟩) M.ws.length M.ws.length, .int .i64 ((M.cnt : Int) + 1), .int .i64 ((M.tr : Int) + 1), tv] 101 (0, 0)) * (pt wb (.cells (W M.ws) 38 (0, 0)) * R))) (by simp only [List.setIfInBounds_toArray, List.set_cons_succ, List.set_cons_zero]; ac_rfl)
  have k1 : Hid (∀ j u, [Value.int .i64 op, .int .i64 a, .bool false][j]? = some u → (((w.setCell ⟨mb, 1, none⟩ (.int .i64 ((M.cnt : Int) + 1))).setCell ⟨mb, 2, none⟩ (.int .i64 ((M.tr : Int) + 1))).alloc (.cells #[.int .i64 op, .int .i64 a, .bool false] 128)).cell? ((⟨w.heap.size, 0, none⟩ : Addr).add j) = some u) := news_alloc ((w.setCell ⟨mb, 1, none⟩ (.int .i64 ((M.cnt : Int) + 1))).setCell ⟨mb, 2, none⟩ (.int .i64 ((M.tr : Int) + 1))) [.int .i64 op, .int .i64 a, .bool false] _ _ (by simp [World.setCell])
  have k2 : Hid (∀ u ∈ [Value.int .i64 op, .int .i64 a, .bool false], u.oneCell' = true) := by intro u hu; simp at hu; rcases hu with rfl | rfl | rfl <;> rfl
  have k3 : Hid (M.n + 1 ≤ maxLen) := by unfold maxLen Hid; omega
  go_enter Try.func49, Try.ntmps49
  go_wp2_with (at_builtin; refine wpList_append_row _ rfl (.tmp 66) (.tmp 71) 48 rfl 128 i0 _ 3 24 Try.underlying48 hi hz0 hz1 hz2 rfl _ tv M.n xs H4 rfl ⟨w.heap.size, 0, none⟩ 1 1 [.int .i64 op, .int .i64 a, .bool false] rfl rfl k1.out k2.out (by omega) k3.out (by omega) ?_)
  clear H3 H4 H2' hc1 hc3 hf1 k1 k2 k3 hc2 hf2
  intro ao c' w5 H5 s5
  have H6 := H5.cast (Q := pt mb (.cells #[.slice (some ⟨wb, 0, none⟩) M.ws.length M.ws.length, .int .i64 ((M.cnt : Int) + 1), .int .i64 ((M.tr : Int) + 1), tv] 101 (0, 0)) * (pt wb (.cells (W M.ws) 38 (0, 0)) * (Row 128 3 (.slice ao (M.n + 1) c') (M.n + 1) (xs ++ [.int .i64 op, .int .i64 a, .bool false]) * R))) (by ac_rfl)
  have hc3 := H6.cell 3 tv rfl
  have hf3 := H6.free 3
  have H7 := H6.set 3 (.slice ao (M.n + 1) c')
  go_wp2_with fail
  go_end0
  refine ⟨rfl, memP_close (wb := wb) (tv := .slice ao (M.n + 1) c') (xs := xs ++ [.int .i64 op, .int .i64 a, .bool false]) (H7.cast ?_), (((((Strm.refl w).set _ _).set _ _).alloc _).trans s5).set _ _⟩
  simp only [List.setIfInBounds_toArray, List.set_cons_succ, List.set_cons_zero]
  rfl

/-! ### the pure memory -/
def MS.there (M : MS) (a : Int) : Bool := decide (0 ≤ a) && decide (a < M.ws.length)
def MS.get (M : MS) (a : Int) : Int := M.ws.getD a.toNat 0
/-- Behind an access that was done, or was a trap. -/
def MS.acc (M : MS) (b : Bool) : MS := { M with cnt := M.cnt + 1, tr := if b then M.tr else M.tr + 1, n := M.n + 1 }
def MS.load (M : MS) (a : Int) : Int := if M.there a then M.get a else 0
def MS.loaded (M : MS) (a : Int) : MS := M.acc (M.there a)
def MS.put (M : MS) (a x : Int) : MS := if M.there a then { M with ws := M.ws.set a.toNat x } else M
def MS.store (M : MS) (a x : Int) : MS := (M.put a x).acc (M.there a)

theorem callFn41 (args : Array Value) (w : World) : (callFunc 50 args).run Try.prog w = .ok (.enter 50 args) w := by
  go_simp
set_option maxHeartbeats 1000000 in
theorem load1 (wb bx a : Nat) (ws : List Int) (v0 x : Int) (h1 : a < ws.length) (hl : ws.length ≤ 4096) (hx : (W ws)[a]? = some (.int .u64 x)) : Does 50 #[.pointer (some ⟨bx, 0, none⟩)] wb a ws ws true
    (pt bx (.cells #[.int .u64 v0] 38 (0, 0))) (pt bx (.cells #[.int .u64 x] 38 (0, 0))) := by
  intro w R H
  have hc : w.cell? ⟨wb, a, none⟩ = some (.int .u64 x) := H.cell a _ hx
  have H2 := H.cast (Q := pt bx (.cells #[.int .u64 v0] 38 (0, 0)) * (pt wb (.cells (W ws) 38 (0, 0)) * R)) (by ac_rfl)
  have hb := H2.cell 0 (.int .u64 v0) rfl
  have hf := H2.free 0
  have H3 := H2.set 0 (.int .u64 x)
  clear H H2 hx
  have hlt : 0 < ws.length - a := by omega
  simp only [List.append_toArray, List.cons_append, List.nil_append]
  go_enter Try.func50, Try.ntmps50
  go_wp2_with fail
  go_ret
  exact ⟨rfl, H3.cast (by simp only [List.setIfInBounds_toArray, List.set_cons_zero]; ac_rfl), (Strm.refl w).set _ _⟩
set_option maxHeartbeats 1000000 in
theorem load_in (w : World) (R : HProp) (mb : Nat) (M : MS) (a x : Int) (H : Holds w (MemP 101 mb M * R)) (hok : M.ok) (h0 : 0 ≤ a) (h1 : a < M.ws.length) (hx : (W M.ws)[a.toNat]? = some (.int .u64 x)) :
    Calls Try.prog 18 #[.pointer (some ⟨mb, 0, none⟩), .int .i64 a] w fun e w' => e = .returned (.int .u64 x) ∧ Holds w' (MemP 101 mb (M.acc true) * R) ∧ Strm w w' := by
  obtain ⟨wb, tv, xs, H⟩ := memP_open H
  have H1 := (H.alloc (.cells #[.int .u64 0] 38)).cast (Q := pt mb (.cells #[.slice (some ⟨wb, 0, none⟩) M.ws.length M.ws.length, .int .i64 (M.cnt : Int), .int .i64 (M.tr : Int), tv] 101 (0, 0)) * (pt wb (.cells (W M.ws) 38 (0, 0)) * (pt w.heap.size (.cells #[.int .u64 0] 38 (0, 0)) * (Row 128 3 tv M.n xs * R)))) (by ac_rfl)
  have hd : Hid (Does 50 #[.pointer (some ⟨w.heap.size, 0, none⟩)] wb a.toNat M.ws M.ws true _ _) := load1 wb w.heap.size a.toNat M.ws 0 x (by omega) hok.len hx
  clear hx
  have HK : Hid M.ok := hok
  clear H hok
  go_enter Try.func18, Try.ntmps18
  go_wp2_with (go_at_call 49; refine (access_in _ R _ _ mb wb M M.ws true tv xs 1 a 50 _ H1 callFn41 hd.out rfl HK.out h0 h1).mono ?_; rintro e w2 ⟨rfl, H2, s2⟩; have H3 := H2.cast (Q := pt w.heap.size (.cells #[.int .u64 x] 38 (0, 0)) * (MemP 101 mb (M.acc true) * R)) (by unfold MS.acc; ac_rfl); have hb := H3.cell 0 (.int .u64 x) rfl; have hf := H3.free 0)
  exact bodyPost_ret (v := .int .u64 x) (by simp [results, Try.results18, go_sem, hb, hf]) rfl ⟨rfl, (H3.set 0 (.int .u64 x)).drop, ((Strm.refl w).alloc _ |>.trans s2).set _ _⟩
theorem access_out (w : World) (R : HProp) (mb : Nat) (M : MS) (op a : Int) (K : Nat) (C : Array Value) (H : Holds w (MemP 101 mb M * R)) (hok : M.ok) (h : ¬ (0 ≤ a ∧ a < M.ws.length)) :
    Calls Try.prog 49 #[.pointer (some ⟨mb, 0, none⟩), .int .i64 op, .int .i64 a, .int .i64 1, .func (.func K) #[] C] w fun e w' => e = .returned (.tuple #[]) ∧
      Holds w' (MemP 101 mb (M.acc false) * R) ∧ Strm w w' := by
  obtain ⟨wb, tv, xs, H⟩ := memP_open H
  by_cases h0 : a < 0
  · exact access_neg w R mb wb M tv xs op a K C H hok h0
  · exact access_big w R mb wb M tv xs op a K C H hok (by omega) (by omega)
set_option maxHeartbeats 1000000 in
theorem load_out (w : World) (R : HProp) (mb : Nat) (M : MS) (a : Int) (H : Holds w (MemP 101 mb M * R)) (hok : M.ok) (h : ¬ (0 ≤ a ∧ a < M.ws.length)) :
    Calls Try.prog 18 #[.pointer (some ⟨mb, 0, none⟩), .int .i64 a] w fun e w' => e = .returned (.int .u64 0) ∧ Holds w' (MemP 101 mb (M.acc false) * R) ∧ Strm w w' := by
  have H1 := (H.alloc (.cells #[.int .u64 0] 38)).cast (Q := MemP 101 mb M * (pt w.heap.size (.cells #[.int .u64 0] 38 (0, 0)) * R)) (by ac_rfl)
  have HK : Hid (M.ok ∧ ¬ (0 ≤ a ∧ a < M.ws.length)) := ⟨hok, h⟩
  clear H hok h
  go_enter Try.func18, Try.ntmps18
  go_wp2_with (go_at_call 49; refine (access_out _ _ mb M 1 a 50 _ H1 HK.out.1 HK.out.2).mono ?_; rintro e w2 ⟨rfl, H2, s2⟩; have H3 := H2.cast (Q := pt w.heap.size (.cells #[.int .u64 0] 38 (0, 0)) * (MemP 101 mb (M.acc false) * R)) (by ac_rfl); have hb := H3.cell 0 (.int .u64 0) rfl; have hf := H3.free 0)
  exact bodyPost_ret (v := .int .u64 0) (by simp [results, Try.results18, go_sem, hb, hf]) rfl ⟨rfl, (H3.set 0 (.int .u64 0)).drop, ((Strm.refl w).alloc _ |>.trans s2).set _ _⟩
theorem there_iff (M : MS) (a : Int) : M.there a = true ↔ (0 ≤ a ∧ a < M.ws.length) := by simp [MS.there]
theorem load_calls (w : World) (R : HProp) (mb : Nat) (M : MS) (a : Int) (H : Holds w (MemP 101 mb M * R)) (hok : M.ok) :
    Calls Try.prog 18 #[.pointer (some ⟨mb, 0, none⟩), .int .i64 a] w fun e w' => e = .returned (.int .u64 (M.load a)) ∧ Holds w' (MemP 101 mb (M.loaded a) * R) ∧ Strm w w' := by
  unfold MS.load MS.loaded
  by_cases h : M.there a = true
  · rw [h, if_pos rfl]
    obtain ⟨h0, h1⟩ := (there_iff M a).1 h
    exact load_in w R mb M a (M.get a) H hok h0 h1 (W_get _ _ (by omega))
  · rw [Bool.not_eq_true] at h
    rw [h, if_neg (by simp)]
    exact load_out w R mb M a H hok (fun x => by rw [(there_iff M a).2 x] at h; cases h)

/-! ### Store -/
theorem callFn58 (args : Array Value) (w : World) : (callFunc 51 args).run Try.prog w = .ok (.enter 51 args) w := by
  go_simp
set_option maxHeartbeats 1000000 in
theorem store1 (wb bx a : Nat) (ws : List Int) (x : Int) (h1 : a < ws.length) (hl : ws.length ≤ 4096) : Does 51 #[.pointer (some ⟨bx, 0, none⟩)] wb a ws (ws.set a x) true
    (pt bx (.cells #[.int .u64 x] 38 (0, 0))) (pt bx (.cells #[.int .u64 x] 38 (0, 0))) := by
  intro w R H
  have hc : w.cell? ⟨wb, a, none⟩ = some (.int .u64 (ws.getD a 0)) := H.cell a _ (W_get ws a h1)
  have hfw := H.free a
  have hb := (H.cast (Q := pt bx (.cells #[.int .u64 x] 38 (0, 0)) * (pt wb (.cells (W ws) 38 (0, 0)) * R)) (by ac_rfl)).cell 0 (.int .u64 x) rfl
  have H3 := H.set a (.int .u64 x)
  rw [W_set] at H3
  clear H
  generalize ws.getD a 0 = y at hc
  have hlt : 0 < ws.length - a := by omega
  simp only [List.append_toArray, List.cons_append, List.nil_append]
  go_enter Try.func51, Try.ntmps51
  go_wp2_with fail
  go_ret
  exact ⟨rfl, H3, (Strm.refl w).set _ _⟩
set_option maxHeartbeats 1000000 in
theorem store_in (w : World) (R : HProp) (mb : Nat) (M : MS) (a x : Int) (H : Holds w (MemP 101 mb M * R)) (hok : M.ok) (h0 : 0 ≤ a) (h1 : a < M.ws.length) :
    Calls Try.prog 20 #[.pointer (some ⟨mb, 0, none⟩), .int .i64 a, .int .u64 x] w fun e w' => e = .returned (.tuple #[]) ∧ Holds w' (MemP 101 mb (({ M with ws := M.ws.set a.toNat x } : MS).acc true) * R) ∧ Strm w w' := by
  obtain ⟨wb, tv, xs, H⟩ := memP_open H
  have H1 := (H.alloc (.cells #[.int .u64 x] 38)).cast (Q := pt mb (.cells #[.slice (some ⟨wb, 0, none⟩) M.ws.length M.ws.length, .int .i64 (M.cnt : Int), .int .i64 (M.tr : Int), tv] 101 (0, 0)) * (pt wb (.cells (W M.ws) 38 (0, 0)) * (pt w.heap.size (.cells #[.int .u64 x] 38 (0, 0)) * (Row 128 3 tv M.n xs * R)))) (by ac_rfl)
  have hd : Hid (Does 51 #[.pointer (some ⟨w.heap.size, 0, none⟩)] wb a.toNat M.ws (M.ws.set a.toNat x) true _ _) := store1 wb w.heap.size a.toNat M.ws x (by omega) hok.len
  have HK : Hid M.ok := hok
  clear H hok
  go_enter Try.func20, Try.ntmps20
  go_wp2_with (go_at_call 49; refine (access_in _ R _ _ mb wb M (M.ws.set a.toNat x) true tv xs 2 a 51 _ H1 callFn58 hd.out (List.length_set ..) HK.out h0 h1).mono ?_; rintro e w2 ⟨rfl, H2, s2⟩)
  go_end0
  exact ⟨rfl, (H2.cast (Q := pt w.heap.size (.cells #[.int .u64 x] 38 (0, 0)) * (MemP 101 mb (({ M with ws := M.ws.set a.toNat x } : MS).acc true) * R)) (by unfold MS.acc; ac_rfl)).drop, (Strm.refl w).alloc _ |>.trans s2⟩
set_option maxHeartbeats 1000000 in
theorem store_out (w : World) (R : HProp) (mb : Nat) (M : MS) (a x : Int) (H : Holds w (MemP 101 mb M * R)) (hok : M.ok) (h : ¬ (0 ≤ a ∧ a < M.ws.length)) :
    Calls Try.prog 20 #[.pointer (some ⟨mb, 0, none⟩), .int .i64 a, .int .u64 x] w fun e w' => e = .returned (.tuple #[]) ∧ Holds w' (MemP 101 mb (M.acc false) * R) ∧ Strm w w' := by
  have H1 := (H.alloc (.cells #[.int .u64 x] 38)).cast (Q := MemP 101 mb M * (pt w.heap.size (.cells #[.int .u64 x] 38 (0, 0)) * R)) (by ac_rfl)
  have HK : Hid (M.ok ∧ ¬ (0 ≤ a ∧ a < M.ws.length)) := ⟨hok, h⟩
  clear H hok h
  go_enter Try.func20, Try.ntmps20
  go_wp2_with (go_at_call 49; refine (access_out _ _ mb M 2 a 51 _ H1 HK.out.1 HK.out.2).mono ?_; rintro e w2 ⟨rfl, H2, s2⟩)
  go_end0
  exact ⟨rfl, (H2.cast (Q := pt w.heap.size (.cells #[.int .u64 x] 38 (0, 0)) * (MemP 101 mb (M.acc false) * R)) (by ac_rfl)).drop, (Strm.refl w).alloc _ |>.trans s2⟩
theorem store_calls (w : World) (R : HProp) (mb : Nat) (M : MS) (a x : Int) (H : Holds w (MemP 101 mb M * R)) (hok : M.ok) :
    Calls Try.prog 20 #[.pointer (some ⟨mb, 0, none⟩), .int .i64 a, .int .u64 x] w fun e w' => e = .returned (.tuple #[]) ∧ Holds w' (MemP 101 mb (M.store a x) * R) ∧ Strm w w' := by
  unfold MS.store MS.put
  by_cases h : M.there a = true
  · rw [h, if_pos rfl]
    obtain ⟨h0, h1⟩ := (there_iff M a).1 h
    exact store_in w R mb M a x H hok h0 h1
  · rw [Bool.not_eq_true] at h
    rw [h, if_neg (by simp)]
    exact store_out w R mb M a x H hok (fun y => by rw [(there_iff M a).2 y] at h; cases h)
end Go.Proofs.Ytmmpnjcmaodkcaa.Mem
