/- What is proved: the contract of the program's memory's CAS2. Conditions: stated with each contract. -/
import Derived.Test.YtiodiobomblbiaaCas
namespace Go.Proofs.Ytiodiobomblbiaa.Mem
open Go Go.RowKit Go.Proofs.Ytiodiobomblbiaa.Sep
set_option maxRecDepth 100000
set_option linter.unusedVariables false
set_option linter.unusedSimpArgs false
set_option maxHeartbeats 1000000 in
theorem access_in2 (w : World) (R D D' : HProp) (mb wb : Nat) (M : MS) (ws' : List Int) (ok : Bool) (tv : Value) (xs : List Value) (op a : Int) (K : Nat) (C : Array Value)
    (H : Holds w (pt mb (.cells #[.slice (some ⟨wb, 0, none⟩) M.ws.length M.ws.length, .int .i64 (M.cnt : Int), .int .i64 (M.tr : Int), tv] 92 (0, 0)) * (pt wb (.cells (W M.ws) 43 (0, 0)) * (D * (Row 108 3 tv M.n xs * R)))))
    (hcf : ∀ (args : Array Value) (w : World), (callFunc K args).run Try.prog w = .ok (.enter K args) w)
    (hdo : Does K C wb a.toNat M.ws ws' ok D D') (hlen : ws'.length = M.ws.length)
    (hok : M.ok) (h0 : 0 ≤ a) (h1 : a + 2 ≤ M.ws.length) (he : a.tmod 2 = 0) :
    Calls Try.prog 37 #[.pointer (some ⟨mb, 0, none⟩), .int .i64 op, .int .i64 a, .int .i64 2, .func (.func K) #[] C] w fun e w' => e = .returned (.tuple #[]) ∧
      Holds w' (MemP 92 mb { ws := ws', cnt := M.cnt + 1, tr := M.tr, n := M.n + 1 } * (D' * R)) ∧ Strm w w' := by
  obtain ⟨hl, hwd, hcn, htn, hnn⟩ := hok
  clear hwd
  have hc0 := H.cell 0 (.slice (some ⟨wb, 0, none⟩) M.ws.length M.ws.length) rfl
  obtain ⟨i0, hi, hz0, hz1, hz2⟩ := info_parts info127
  have HH : Hid (Holds w (pt mb (.cells #[.slice (some ⟨wb, 0, none⟩) M.ws.length M.ws.length, .int .i64 (M.cnt : Int), .int .i64 (M.tr : Int), tv] 92 (0, 0)) * (pt wb (.cells (W M.ws) 43 (0, 0)) * (D * (Row 108 3 tv M.n xs * R))))) := H
  have HD : Hid (Does K C wb a.toNat M.ws ws' ok D D') := hdo
  have HL : Hid (ws'.length = M.ws.length) := hlen
  clear H hdo hlen
  have h1' : a ≤ (M.ws.length : Int) - 2 := by omega
  have h1'' : a < (M.ws.length : Int) := by omega
  go_enter Try.func37, Try.ntmps37
  go_wp2_with fail
  refine (HD.out w (Row 108 3 tv M.n xs * (pt mb (.cells #[.slice (some ⟨wb, 0, none⟩) M.ws.length M.ws.length, .int .i64 (M.cnt : Int), .int .i64 (M.tr : Int), tv] 92 (0, 0)) * R)) (HH.out.cast (by ac_rfl))).mono ?_
  rintro e w2 ⟨rfl, H2, s2⟩
  have H2' := H2.cast (Q := pt mb (.cells #[.slice (some ⟨wb, 0, none⟩) M.ws.length M.ws.length, .int .i64 (M.cnt : Int), .int .i64 (M.tr : Int), tv] 92 (0, 0)) * (Row 108 3 tv M.n xs * (pt wb (.cells (W ws') 43 (0, 0)) * (D' * R)))) (by ac_rfl)
  have hc1 := H2'.cell 1 (.int .i64 (M.cnt : Int)) rfl
  have hc3 := H2'.cell 3 tv rfl
  have hf1 := H2'.free 1
  have H3 := (H2'.set 1 (.int .i64 ((M.cnt : Int) + 1))).alloc (.cells #[.int .i64 op, .int .i64 a, .bool ok] 108)
  have H4 := H3.drop.cast (Q := Row 108 3 tv M.n xs * (pt mb (.cells #[.slice (some ⟨wb, 0, none⟩) M.ws.length M.ws.length, .int .i64 ((M.cnt : Int) + 1), .int .i64 (M.tr : Int), tv] 92 (0, 0)) * (pt wb (.cells (W ws') 43 (0, 0)) * (D' * R)))) (by simp only [List.setIfInBounds_toArray, List.set_cons_succ, List.set_cons_zero]; ac_rfl)
  have k1 : Hid (∀ j u, [Value.int .i64 op, .int .i64 a, .bool ok][j]? = some u → ((w2.setCell ⟨mb, 1, none⟩ (.int .i64 ((M.cnt : Int) + 1))).alloc (.cells #[.int .i64 op, .int .i64 a, .bool ok] 108)).cell? ((⟨w2.heap.size, 0, none⟩ : Addr).add j) = some u) := news_alloc (w2.setCell ⟨mb, 1, none⟩ (.int .i64 ((M.cnt : Int) + 1))) [.int .i64 op, .int .i64 a, .bool ok] _ _ (by simp [World.setCell])
  have k2 : Hid (∀ u ∈ [Value.int .i64 op, .int .i64 a, .bool ok], u.oneCell' = true) := by intro u hu; simp at hu; rcases hu with rfl | rfl | rfl <;> rfl
  have k3 : Hid (M.n + 1 ≤ maxLen) := by unfold maxLen Hid; omega
  go_wp2_with (at_builtin; refine wpList_append_row _ rfl (.tmp 66) (.tmp 71) 53 rfl 108 i0 _ 3 24 Try.underlying53 hi hz0 hz1 hz2 rfl _ tv M.n xs H4 rfl ⟨w2.heap.size, 0, none⟩ 1 1 [.int .i64 op, .int .i64 a, .bool ok] rfl rfl k1.out k2.out (by omega) k3.out (by omega) ?_)
  clear H3 H4 H2' hc1 hc3 hf1 k1 k2 k3
  intro ao c' w5 H5 s5
  have H6 := H5.cast (Q := pt mb (.cells #[.slice (some ⟨wb, 0, none⟩) M.ws.length M.ws.length, .int .i64 ((M.cnt : Int) + 1), .int .i64 (M.tr : Int), tv] 92 (0, 0)) * (pt wb (.cells (W ws') 43 (0, 0)) * (Row 108 3 (.slice ao (M.n + 1) c') (M.n + 1) (xs ++ [.int .i64 op, .int .i64 a, .bool ok]) * (D' * R)))) (by ac_rfl)
  have hc3 := H6.cell 3 tv rfl
  have hf3 := H6.free 3
  have H7 := H6.set 3 (.slice ao (M.n + 1) c')
  go_wp2_with fail
  go_end0
  have e := HL.out
  refine ⟨rfl, memP_close (wb := wb) (tv := .slice ao (M.n + 1) c') (xs := xs ++ [.int .i64 op, .int .i64 a, .bool ok]) (H7.cast ?_), ((s2.set _ _).alloc _ |>.trans s5).set _ _⟩
  simp only [List.setIfInBounds_toArray, List.set_cons_succ, List.set_cons_zero, e]
  rfl
theorem callFnCas2 (args : Array Value) (w : World) : (callFunc 62 args).run Try.prog w = .ok (.enter 62 args) w := by
  go_simp
set_option maxHeartbeats 4000000 in
theorem cas2_1_hit (wb b0 b1 bk c0 c1 a : Nat) (ws : List Int) (o0 o1 x0 x1 y0 y1 : Int) (k0 : Bool) (h1 : a + 2 ≤ ws.length) (hl : ws.length ≤ 4096) (hx0 : (W ws)[a]? = some (.int .u64 y0)) (hx1 : (W ws)[a + 1]? = some (.int .u64 y1)) (hy0 : y0 = o0) (hy1 : y1 = o1) :
    Does 62 #[.pointer (some ⟨b0, 0, none⟩), .pointer (some ⟨b1, 0, none⟩), .pointer (some ⟨bk, 0, none⟩), .pointer (some ⟨c0, 0, none⟩), .pointer (some ⟨c1, 0, none⟩)] wb a ws ((ws.set a x0).set (a + 1) x1) true
    (pt b0 (.cells #[.int .u64 o0] 43 (0, 0)) * (pt b1 (.cells #[.int .u64 o1] 43 (0, 0)) * (pt bk (.cells #[.bool k0] 4 (0, 0)) * (pt c0 (.cells #[.int .u64 x0] 43 (0, 0)) * pt c1 (.cells #[.int .u64 x1] 43 (0, 0)))))) (pt b0 (.cells #[.int .u64 o0] 43 (0, 0)) * (pt b1 (.cells #[.int .u64 o1] 43 (0, 0)) * (pt bk (.cells #[.bool true] 4 (0, 0)) * (pt c0 (.cells #[.int .u64 x0] 43 (0, 0)) * pt c1 (.cells #[.int .u64 x1] 43 (0, 0)))))) := by
  intro w R H
  have hc : w.cell? ⟨wb, a, none⟩ = some (.int .u64 y0) := H.cell a _ hx0
  have hcb : w.cell? ⟨wb, a + 1, none⟩ = some (.int .u64 y1) := H.cell (a + 1) _ hx1
  have hfw := H.free a
  have hfw1 := H.free (a + 1)
  have H2 := H.cast (Q := pt bk (.cells #[.bool k0] 4 (0, 0)) * ((pt b0 (.cells #[.int .u64 o0] 43 (0, 0))) * (pt b1 (.cells #[.int .u64 o1] 43 (0, 0))) * (pt c0 (.cells #[.int .u64 x0] 43 (0, 0))) * (pt c1 (.cells #[.int .u64 x1] 43 (0, 0))) * (pt wb (.cells (W ws) 43 (0, 0)) * R))) (by ac_rfl)
  have ck := H2.cells
  have fk := H2.frees
  have qb0 := (H.cast (Q := pt b0 (.cells #[.int .u64 o0] 43 (0, 0)) * (pt bk (.cells #[.bool k0] 4 (0, 0)) * ((pt b1 (.cells #[.int .u64 o1] 43 (0, 0))) * (pt c0 (.cells #[.int .u64 x0] 43 (0, 0))) * (pt c1 (.cells #[.int .u64 x1] 43 (0, 0))) * (pt wb (.cells (W ws) 43 (0, 0)) * R)))) (by ac_rfl)).cells
  have qb1 := (H.cast (Q := pt b1 (.cells #[.int .u64 o1] 43 (0, 0)) * (pt bk (.cells #[.bool k0] 4 (0, 0)) * ((pt b0 (.cells #[.int .u64 o0] 43 (0, 0))) * (pt c0 (.cells #[.int .u64 x0] 43 (0, 0))) * (pt c1 (.cells #[.int .u64 x1] 43 (0, 0))) * (pt wb (.cells (W ws) 43 (0, 0)) * R)))) (by ac_rfl)).cells
  have qc0 := (H.cast (Q := pt c0 (.cells #[.int .u64 x0] 43 (0, 0)) * (pt bk (.cells #[.bool k0] 4 (0, 0)) * ((pt b0 (.cells #[.int .u64 o0] 43 (0, 0))) * (pt b1 (.cells #[.int .u64 o1] 43 (0, 0))) * (pt c1 (.cells #[.int .u64 x1] 43 (0, 0))) * (pt wb (.cells (W ws) 43 (0, 0)) * R)))) (by ac_rfl)).cells
  have qc1 := (H.cast (Q := pt c1 (.cells #[.int .u64 x1] 43 (0, 0)) * (pt bk (.cells #[.bool k0] 4 (0, 0)) * ((pt b0 (.cells #[.int .u64 o0] 43 (0, 0))) * (pt b1 (.cells #[.int .u64 o1] 43 (0, 0))) * (pt c0 (.cells #[.int .u64 x0] 43 (0, 0))) * (pt wb (.cells (W ws) 43 (0, 0)) * R)))) (by ac_rfl)).cells
  have H3 := H2.set 0 (.bool true)
  have H4 := H3.cast (Q := pt wb (.cells (W ws) 43 (0, 0)) * ((pt b0 (.cells #[.int .u64 o0] 43 (0, 0)) * (pt b1 (.cells #[.int .u64 o1] 43 (0, 0)) * (pt bk (.cells #[.bool true] 4 (0, 0)) * (pt c0 (.cells #[.int .u64 x0] 43 (0, 0)) * pt c1 (.cells #[.int .u64 x1] 43 (0, 0)))))) * R)) (by simp only [List.setIfInBounds_toArray, List.set_cons_zero]; ac_rfl)
  have hne : wb ≠ bk := (H2.cast (Q := pt wb (.cells (W ws) 43 (0, 0)) * (pt bk (.cells #[.bool k0] 4 (0, 0)) * ((pt b0 (.cells #[.int .u64 o0] 43 (0, 0))) * (pt b1 (.cells #[.int .u64 o1] 43 (0, 0))) * (pt c0 (.cells #[.int .u64 x0] 43 (0, 0))) * (pt c1 (.cells #[.int .u64 x1] 43 (0, 0))) * R))) (by ac_rfl)).ne
  have nb0 : wb ≠ b0 := (H2.cast (Q := pt wb (.cells (W ws) 43 (0, 0)) * (pt b0 (.cells #[.int .u64 o0] 43 (0, 0)) * (pt bk (.cells #[.bool k0] 4 (0, 0)) * ((pt b1 (.cells #[.int .u64 o1] 43 (0, 0))) * (pt c0 (.cells #[.int .u64 x0] 43 (0, 0))) * (pt c1 (.cells #[.int .u64 x1] 43 (0, 0))) * R)))) (by ac_rfl)).ne
  have mb0 : bk ≠ b0 := (H2.cast (Q := pt bk (.cells #[.bool k0] 4 (0, 0)) * (pt b0 (.cells #[.int .u64 o0] 43 (0, 0)) * (pt wb (.cells (W ws) 43 (0, 0)) * ((pt b1 (.cells #[.int .u64 o1] 43 (0, 0))) * (pt c0 (.cells #[.int .u64 x0] 43 (0, 0))) * (pt c1 (.cells #[.int .u64 x1] 43 (0, 0))) * R)))) (by ac_rfl)).ne
  have nb1 : wb ≠ b1 := (H2.cast (Q := pt wb (.cells (W ws) 43 (0, 0)) * (pt b1 (.cells #[.int .u64 o1] 43 (0, 0)) * (pt bk (.cells #[.bool k0] 4 (0, 0)) * ((pt b0 (.cells #[.int .u64 o0] 43 (0, 0))) * (pt c0 (.cells #[.int .u64 x0] 43 (0, 0))) * (pt c1 (.cells #[.int .u64 x1] 43 (0, 0))) * R)))) (by ac_rfl)).ne
  have mb1 : bk ≠ b1 := (H2.cast (Q := pt bk (.cells #[.bool k0] 4 (0, 0)) * (pt b1 (.cells #[.int .u64 o1] 43 (0, 0)) * (pt wb (.cells (W ws) 43 (0, 0)) * ((pt b0 (.cells #[.int .u64 o0] 43 (0, 0))) * (pt c0 (.cells #[.int .u64 x0] 43 (0, 0))) * (pt c1 (.cells #[.int .u64 x1] 43 (0, 0))) * R)))) (by ac_rfl)).ne
  have nc0 : wb ≠ c0 := (H2.cast (Q := pt wb (.cells (W ws) 43 (0, 0)) * (pt c0 (.cells #[.int .u64 x0] 43 (0, 0)) * (pt bk (.cells #[.bool k0] 4 (0, 0)) * ((pt b0 (.cells #[.int .u64 o0] 43 (0, 0))) * (pt b1 (.cells #[.int .u64 o1] 43 (0, 0))) * (pt c1 (.cells #[.int .u64 x1] 43 (0, 0))) * R)))) (by ac_rfl)).ne
  have mc0 : bk ≠ c0 := (H2.cast (Q := pt bk (.cells #[.bool k0] 4 (0, 0)) * (pt c0 (.cells #[.int .u64 x0] 43 (0, 0)) * (pt wb (.cells (W ws) 43 (0, 0)) * ((pt b0 (.cells #[.int .u64 o0] 43 (0, 0))) * (pt b1 (.cells #[.int .u64 o1] 43 (0, 0))) * (pt c1 (.cells #[.int .u64 x1] 43 (0, 0))) * R)))) (by ac_rfl)).ne
  have nc1 : wb ≠ c1 := (H2.cast (Q := pt wb (.cells (W ws) 43 (0, 0)) * (pt c1 (.cells #[.int .u64 x1] 43 (0, 0)) * (pt bk (.cells #[.bool k0] 4 (0, 0)) * ((pt b0 (.cells #[.int .u64 o0] 43 (0, 0))) * (pt b1 (.cells #[.int .u64 o1] 43 (0, 0))) * (pt c0 (.cells #[.int .u64 x0] 43 (0, 0))) * R)))) (by ac_rfl)).ne
  have mc1 : bk ≠ c1 := (H2.cast (Q := pt bk (.cells #[.bool k0] 4 (0, 0)) * (pt c1 (.cells #[.int .u64 x1] 43 (0, 0)) * (pt wb (.cells (W ws) 43 (0, 0)) * ((pt b0 (.cells #[.int .u64 o0] 43 (0, 0))) * (pt b1 (.cells #[.int .u64 o1] 43 (0, 0))) * (pt c0 (.cells #[.int .u64 x0] 43 (0, 0))) * R)))) (by ac_rfl)).ne
  have H5 := (H4.set a (.int .u64 x0)).set (a + 1) (.int .u64 x1)
  rw [W_set, W_set] at H5
  have HB : (y0 == o0) = true := by simpa using hy0
  have HB1 : (y1 == o1) = true := by simpa using hy1
  clear H H2 H3 hx0 hx1 hy0 hy1
  have hlt : 1 < ws.length - a := by omega
  have hlt0 : 0 < ws.length - a := by omega
  simp only [List.append_toArray, List.cons_append, List.nil_append]
  go_enter Try.func62, Try.ntmps62
  go_wp2_with fail
  go_region
  all_goals (go_wp2_with fail)
  all_goals go_region
  all_goals (go_wp2_with fail)
  all_goals go_ret
  all_goals exact ⟨rfl, H5, (((((Strm.refl w).drew).drew).set _ _).set _ _).set _ _⟩
set_option maxHeartbeats 4000000 in
theorem cas2_1_miss0 (wb b0 b1 bk c0 c1 a : Nat) (ws : List Int) (o0 o1 x0 x1 y0 y1 : Int) (k0 : Bool) (h1 : a + 2 ≤ ws.length) (hl : ws.length ≤ 4096) (hx0 : (W ws)[a]? = some (.int .u64 y0)) (hx1 : (W ws)[a + 1]? = some (.int .u64 y1)) (hy0 : ¬ y0 = o0) :
    Does 62 #[.pointer (some ⟨b0, 0, none⟩), .pointer (some ⟨b1, 0, none⟩), .pointer (some ⟨bk, 0, none⟩), .pointer (some ⟨c0, 0, none⟩), .pointer (some ⟨c1, 0, none⟩)] wb a ws ws false
    (pt b0 (.cells #[.int .u64 o0] 43 (0, 0)) * (pt b1 (.cells #[.int .u64 o1] 43 (0, 0)) * (pt bk (.cells #[.bool k0] 4 (0, 0)) * (pt c0 (.cells #[.int .u64 x0] 43 (0, 0)) * pt c1 (.cells #[.int .u64 x1] 43 (0, 0)))))) (pt b0 (.cells #[.int .u64 o0] 43 (0, 0)) * (pt b1 (.cells #[.int .u64 o1] 43 (0, 0)) * (pt bk (.cells #[.bool false] 4 (0, 0)) * (pt c0 (.cells #[.int .u64 x0] 43 (0, 0)) * pt c1 (.cells #[.int .u64 x1] 43 (0, 0)))))) := by
  intro w R H
  have hc : w.cell? ⟨wb, a, none⟩ = some (.int .u64 y0) := H.cell a _ hx0
  have hcb : w.cell? ⟨wb, a + 1, none⟩ = some (.int .u64 y1) := H.cell (a + 1) _ hx1
  have hfw := H.free a
  have hfw1 := H.free (a + 1)
  have H2 := H.cast (Q := pt bk (.cells #[.bool k0] 4 (0, 0)) * ((pt b0 (.cells #[.int .u64 o0] 43 (0, 0))) * (pt b1 (.cells #[.int .u64 o1] 43 (0, 0))) * (pt c0 (.cells #[.int .u64 x0] 43 (0, 0))) * (pt c1 (.cells #[.int .u64 x1] 43 (0, 0))) * (pt wb (.cells (W ws) 43 (0, 0)) * R))) (by ac_rfl)
  have ck := H2.cells
  have fk := H2.frees
  have qb0 := (H.cast (Q := pt b0 (.cells #[.int .u64 o0] 43 (0, 0)) * (pt bk (.cells #[.bool k0] 4 (0, 0)) * ((pt b1 (.cells #[.int .u64 o1] 43 (0, 0))) * (pt c0 (.cells #[.int .u64 x0] 43 (0, 0))) * (pt c1 (.cells #[.int .u64 x1] 43 (0, 0))) * (pt wb (.cells (W ws) 43 (0, 0)) * R)))) (by ac_rfl)).cells
  have qb1 := (H.cast (Q := pt b1 (.cells #[.int .u64 o1] 43 (0, 0)) * (pt bk (.cells #[.bool k0] 4 (0, 0)) * ((pt b0 (.cells #[.int .u64 o0] 43 (0, 0))) * (pt c0 (.cells #[.int .u64 x0] 43 (0, 0))) * (pt c1 (.cells #[.int .u64 x1] 43 (0, 0))) * (pt wb (.cells (W ws) 43 (0, 0)) * R)))) (by ac_rfl)).cells
  have qc0 := (H.cast (Q := pt c0 (.cells #[.int .u64 x0] 43 (0, 0)) * (pt bk (.cells #[.bool k0] 4 (0, 0)) * ((pt b0 (.cells #[.int .u64 o0] 43 (0, 0))) * (pt b1 (.cells #[.int .u64 o1] 43 (0, 0))) * (pt c1 (.cells #[.int .u64 x1] 43 (0, 0))) * (pt wb (.cells (W ws) 43 (0, 0)) * R)))) (by ac_rfl)).cells
  have qc1 := (H.cast (Q := pt c1 (.cells #[.int .u64 x1] 43 (0, 0)) * (pt bk (.cells #[.bool k0] 4 (0, 0)) * ((pt b0 (.cells #[.int .u64 o0] 43 (0, 0))) * (pt b1 (.cells #[.int .u64 o1] 43 (0, 0))) * (pt c0 (.cells #[.int .u64 x0] 43 (0, 0))) * (pt wb (.cells (W ws) 43 (0, 0)) * R)))) (by ac_rfl)).cells
  have H3 := H2.set 0 (.bool false)
  have H4 := H3.cast (Q := pt wb (.cells (W ws) 43 (0, 0)) * ((pt b0 (.cells #[.int .u64 o0] 43 (0, 0)) * (pt b1 (.cells #[.int .u64 o1] 43 (0, 0)) * (pt bk (.cells #[.bool false] 4 (0, 0)) * (pt c0 (.cells #[.int .u64 x0] 43 (0, 0)) * pt c1 (.cells #[.int .u64 x1] 43 (0, 0)))))) * R)) (by simp only [List.setIfInBounds_toArray, List.set_cons_zero]; ac_rfl)
  have hne : wb ≠ bk := (H2.cast (Q := pt wb (.cells (W ws) 43 (0, 0)) * (pt bk (.cells #[.bool k0] 4 (0, 0)) * ((pt b0 (.cells #[.int .u64 o0] 43 (0, 0))) * (pt b1 (.cells #[.int .u64 o1] 43 (0, 0))) * (pt c0 (.cells #[.int .u64 x0] 43 (0, 0))) * (pt c1 (.cells #[.int .u64 x1] 43 (0, 0))) * R))) (by ac_rfl)).ne
  have nb0 : wb ≠ b0 := (H2.cast (Q := pt wb (.cells (W ws) 43 (0, 0)) * (pt b0 (.cells #[.int .u64 o0] 43 (0, 0)) * (pt bk (.cells #[.bool k0] 4 (0, 0)) * ((pt b1 (.cells #[.int .u64 o1] 43 (0, 0))) * (pt c0 (.cells #[.int .u64 x0] 43 (0, 0))) * (pt c1 (.cells #[.int .u64 x1] 43 (0, 0))) * R)))) (by ac_rfl)).ne
  have mb0 : bk ≠ b0 := (H2.cast (Q := pt bk (.cells #[.bool k0] 4 (0, 0)) * (pt b0 (.cells #[.int .u64 o0] 43 (0, 0)) * (pt wb (.cells (W ws) 43 (0, 0)) * ((pt b1 (.cells #[.int .u64 o1] 43 (0, 0))) * (pt c0 (.cells #[.int .u64 x0] 43 (0, 0))) * (pt c1 (.cells #[.int .u64 x1] 43 (0, 0))) * R)))) (by ac_rfl)).ne
  have nb1 : wb ≠ b1 := (H2.cast (Q := pt wb (.cells (W ws) 43 (0, 0)) * (pt b1 (.cells #[.int .u64 o1] 43 (0, 0)) * (pt bk (.cells #[.bool k0] 4 (0, 0)) * ((pt b0 (.cells #[.int .u64 o0] 43 (0, 0))) * (pt c0 (.cells #[.int .u64 x0] 43 (0, 0))) * (pt c1 (.cells #[.int .u64 x1] 43 (0, 0))) * R)))) (by ac_rfl)).ne
  have mb1 : bk ≠ b1 := (H2.cast (Q := pt bk (.cells #[.bool k0] 4 (0, 0)) * (pt b1 (.cells #[.int .u64 o1] 43 (0, 0)) * (pt wb (.cells (W ws) 43 (0, 0)) * ((pt b0 (.cells #[.int .u64 o0] 43 (0, 0))) * (pt c0 (.cells #[.int .u64 x0] 43 (0, 0))) * (pt c1 (.cells #[.int .u64 x1] 43 (0, 0))) * R)))) (by ac_rfl)).ne
  have nc0 : wb ≠ c0 := (H2.cast (Q := pt wb (.cells (W ws) 43 (0, 0)) * (pt c0 (.cells #[.int .u64 x0] 43 (0, 0)) * (pt bk (.cells #[.bool k0] 4 (0, 0)) * ((pt b0 (.cells #[.int .u64 o0] 43 (0, 0))) * (pt b1 (.cells #[.int .u64 o1] 43 (0, 0))) * (pt c1 (.cells #[.int .u64 x1] 43 (0, 0))) * R)))) (by ac_rfl)).ne
  have mc0 : bk ≠ c0 := (H2.cast (Q := pt bk (.cells #[.bool k0] 4 (0, 0)) * (pt c0 (.cells #[.int .u64 x0] 43 (0, 0)) * (pt wb (.cells (W ws) 43 (0, 0)) * ((pt b0 (.cells #[.int .u64 o0] 43 (0, 0))) * (pt b1 (.cells #[.int .u64 o1] 43 (0, 0))) * (pt c1 (.cells #[.int .u64 x1] 43 (0, 0))) * R)))) (by ac_rfl)).ne
  have nc1 : wb ≠ c1 := (H2.cast (Q := pt wb (.cells (W ws) 43 (0, 0)) * (pt c1 (.cells #[.int .u64 x1] 43 (0, 0)) * (pt bk (.cells #[.bool k0] 4 (0, 0)) * ((pt b0 (.cells #[.int .u64 o0] 43 (0, 0))) * (pt b1 (.cells #[.int .u64 o1] 43 (0, 0))) * (pt c0 (.cells #[.int .u64 x0] 43 (0, 0))) * R)))) (by ac_rfl)).ne
  have mc1 : bk ≠ c1 := (H2.cast (Q := pt bk (.cells #[.bool k0] 4 (0, 0)) * (pt c1 (.cells #[.int .u64 x1] 43 (0, 0)) * (pt wb (.cells (W ws) 43 (0, 0)) * ((pt b0 (.cells #[.int .u64 o0] 43 (0, 0))) * (pt b1 (.cells #[.int .u64 o1] 43 (0, 0))) * (pt c0 (.cells #[.int .u64 x0] 43 (0, 0))) * R)))) (by ac_rfl)).ne
  have HB : (y0 == o0) = false := by simpa using hy0
  clear H H2 H3 hx0 hx1 hy0
  have hlt : 1 < ws.length - a := by omega
  have hlt0 : 0 < ws.length - a := by omega
  simp only [List.append_toArray, List.cons_append, List.nil_append]
  go_enter Try.func62, Try.ntmps62
  go_wp2_with fail
  go_region
  all_goals (go_wp2_with fail)
  all_goals go_ret
  all_goals exact ⟨rfl, H4, ((Strm.refl w).drew).set _ _⟩
set_option maxHeartbeats 4000000 in
theorem cas2_1_miss1 (wb b0 b1 bk c0 c1 a : Nat) (ws : List Int) (o0 o1 x0 x1 y0 y1 : Int) (k0 : Bool) (h1 : a + 2 ≤ ws.length) (hl : ws.length ≤ 4096) (hx0 : (W ws)[a]? = some (.int .u64 y0)) (hx1 : (W ws)[a + 1]? = some (.int .u64 y1)) (hy0 : y0 = o0) (hy1 : ¬ y1 = o1) :
    Does 62 #[.pointer (some ⟨b0, 0, none⟩), .pointer (some ⟨b1, 0, none⟩), .pointer (some ⟨bk, 0, none⟩), .pointer (some ⟨c0, 0, none⟩), .pointer (some ⟨c1, 0, none⟩)] wb a ws ws false
    (pt b0 (.cells #[.int .u64 o0] 43 (0, 0)) * (pt b1 (.cells #[.int .u64 o1] 43 (0, 0)) * (pt bk (.cells #[.bool k0] 4 (0, 0)) * (pt c0 (.cells #[.int .u64 x0] 43 (0, 0)) * pt c1 (.cells #[.int .u64 x1] 43 (0, 0)))))) (pt b0 (.cells #[.int .u64 o0] 43 (0, 0)) * (pt b1 (.cells #[.int .u64 o1] 43 (0, 0)) * (pt bk (.cells #[.bool false] 4 (0, 0)) * (pt c0 (.cells #[.int .u64 x0] 43 (0, 0)) * pt c1 (.cells #[.int .u64 x1] 43 (0, 0)))))) := by
  intro w R H
  have hc : w.cell? ⟨wb, a, none⟩ = some (.int .u64 y0) := H.cell a _ hx0
  have hcb : w.cell? ⟨wb, a + 1, none⟩ = some (.int .u64 y1) := H.cell (a + 1) _ hx1
  have hfw := H.free a
  have hfw1 := H.free (a + 1)
  have H2 := H.cast (Q := pt bk (.cells #[.bool k0] 4 (0, 0)) * ((pt b0 (.cells #[.int .u64 o0] 43 (0, 0))) * (pt b1 (.cells #[.int .u64 o1] 43 (0, 0))) * (pt c0 (.cells #[.int .u64 x0] 43 (0, 0))) * (pt c1 (.cells #[.int .u64 x1] 43 (0, 0))) * (pt wb (.cells (W ws) 43 (0, 0)) * R))) (by ac_rfl)
  have ck := H2.cells
  have fk := H2.frees
  have qb0 := (H.cast (Q := pt b0 (.cells #[.int .u64 o0] 43 (0, 0)) * (pt bk (.cells #[.bool k0] 4 (0, 0)) * ((pt b1 (.cells #[.int .u64 o1] 43 (0, 0))) * (pt c0 (.cells #[.int .u64 x0] 43 (0, 0))) * (pt c1 (.cells #[.int .u64 x1] 43 (0, 0))) * (pt wb (.cells (W ws) 43 (0, 0)) * R)))) (by ac_rfl)).cells
  have qb1 := (H.cast (Q := pt b1 (.cells #[.int .u64 o1] 43 (0, 0)) * (pt bk (.cells #[.bool k0] 4 (0, 0)) * ((pt b0 (.cells #[.int .u64 o0] 43 (0, 0))) * (pt c0 (.cells #[.int .u64 x0] 43 (0, 0))) * (pt c1 (.cells #[.int .u64 x1] 43 (0, 0))) * (pt wb (.cells (W ws) 43 (0, 0)) * R)))) (by ac_rfl)).cells
  have qc0 := (H.cast (Q := pt c0 (.cells #[.int .u64 x0] 43 (0, 0)) * (pt bk (.cells #[.bool k0] 4 (0, 0)) * ((pt b0 (.cells #[.int .u64 o0] 43 (0, 0))) * (pt b1 (.cells #[.int .u64 o1] 43 (0, 0))) * (pt c1 (.cells #[.int .u64 x1] 43 (0, 0))) * (pt wb (.cells (W ws) 43 (0, 0)) * R)))) (by ac_rfl)).cells
  have qc1 := (H.cast (Q := pt c1 (.cells #[.int .u64 x1] 43 (0, 0)) * (pt bk (.cells #[.bool k0] 4 (0, 0)) * ((pt b0 (.cells #[.int .u64 o0] 43 (0, 0))) * (pt b1 (.cells #[.int .u64 o1] 43 (0, 0))) * (pt c0 (.cells #[.int .u64 x0] 43 (0, 0))) * (pt wb (.cells (W ws) 43 (0, 0)) * R)))) (by ac_rfl)).cells
  have H3 := H2.set 0 (.bool false)
  have H4 := H3.cast (Q := pt wb (.cells (W ws) 43 (0, 0)) * ((pt b0 (.cells #[.int .u64 o0] 43 (0, 0)) * (pt b1 (.cells #[.int .u64 o1] 43 (0, 0)) * (pt bk (.cells #[.bool false] 4 (0, 0)) * (pt c0 (.cells #[.int .u64 x0] 43 (0, 0)) * pt c1 (.cells #[.int .u64 x1] 43 (0, 0)))))) * R)) (by simp only [List.setIfInBounds_toArray, List.set_cons_zero]; ac_rfl)
  have hne : wb ≠ bk := (H2.cast (Q := pt wb (.cells (W ws) 43 (0, 0)) * (pt bk (.cells #[.bool k0] 4 (0, 0)) * ((pt b0 (.cells #[.int .u64 o0] 43 (0, 0))) * (pt b1 (.cells #[.int .u64 o1] 43 (0, 0))) * (pt c0 (.cells #[.int .u64 x0] 43 (0, 0))) * (pt c1 (.cells #[.int .u64 x1] 43 (0, 0))) * R))) (by ac_rfl)).ne
  have nb0 : wb ≠ b0 := (H2.cast (Q := pt wb (.cells (W ws) 43 (0, 0)) * (pt b0 (.cells #[.int .u64 o0] 43 (0, 0)) * (pt bk (.cells #[.bool k0] 4 (0, 0)) * ((pt b1 (.cells #[.int .u64 o1] 43 (0, 0))) * (pt c0 (.cells #[.int .u64 x0] 43 (0, 0))) * (pt c1 (.cells #[.int .u64 x1] 43 (0, 0))) * R)))) (by ac_rfl)).ne
  have mb0 : bk ≠ b0 := (H2.cast (Q := pt bk (.cells #[.bool k0] 4 (0, 0)) * (pt b0 (.cells #[.int .u64 o0] 43 (0, 0)) * (pt wb (.cells (W ws) 43 (0, 0)) * ((pt b1 (.cells #[.int .u64 o1] 43 (0, 0))) * (pt c0 (.cells #[.int .u64 x0] 43 (0, 0))) * (pt c1 (.cells #[.int .u64 x1] 43 (0, 0))) * R)))) (by ac_rfl)).ne
  have nb1 : wb ≠ b1 := (H2.cast (Q := pt wb (.cells (W ws) 43 (0, 0)) * (pt b1 (.cells #[.int .u64 o1] 43 (0, 0)) * (pt bk (.cells #[.bool k0] 4 (0, 0)) * ((pt b0 (.cells #[.int .u64 o0] 43 (0, 0))) * (pt c0 (.cells #[.int .u64 x0] 43 (0, 0))) * (pt c1 (.cells #[.int .u64 x1] 43 (0, 0))) * R)))) (by ac_rfl)).ne
  have mb1 : bk ≠ b1 := (H2.cast (Q := pt bk (.cells #[.bool k0] 4 (0, 0)) * (pt b1 (.cells #[.int .u64 o1] 43 (0, 0)) * (pt wb (.cells (W ws) 43 (0, 0)) * ((pt b0 (.cells #[.int .u64 o0] 43 (0, 0))) * (pt c0 (.cells #[.int .u64 x0] 43 (0, 0))) * (pt c1 (.cells #[.int .u64 x1] 43 (0, 0))) * R)))) (by ac_rfl)).ne
  have nc0 : wb ≠ c0 := (H2.cast (Q := pt wb (.cells (W ws) 43 (0, 0)) * (pt c0 (.cells #[.int .u64 x0] 43 (0, 0)) * (pt bk (.cells #[.bool k0] 4 (0, 0)) * ((pt b0 (.cells #[.int .u64 o0] 43 (0, 0))) * (pt b1 (.cells #[.int .u64 o1] 43 (0, 0))) * (pt c1 (.cells #[.int .u64 x1] 43 (0, 0))) * R)))) (by ac_rfl)).ne
  have mc0 : bk ≠ c0 := (H2.cast (Q := pt bk (.cells #[.bool k0] 4 (0, 0)) * (pt c0 (.cells #[.int .u64 x0] 43 (0, 0)) * (pt wb (.cells (W ws) 43 (0, 0)) * ((pt b0 (.cells #[.int .u64 o0] 43 (0, 0))) * (pt b1 (.cells #[.int .u64 o1] 43 (0, 0))) * (pt c1 (.cells #[.int .u64 x1] 43 (0, 0))) * R)))) (by ac_rfl)).ne
  have nc1 : wb ≠ c1 := (H2.cast (Q := pt wb (.cells (W ws) 43 (0, 0)) * (pt c1 (.cells #[.int .u64 x1] 43 (0, 0)) * (pt bk (.cells #[.bool k0] 4 (0, 0)) * ((pt b0 (.cells #[.int .u64 o0] 43 (0, 0))) * (pt b1 (.cells #[.int .u64 o1] 43 (0, 0))) * (pt c0 (.cells #[.int .u64 x0] 43 (0, 0))) * R)))) (by ac_rfl)).ne
  have mc1 : bk ≠ c1 := (H2.cast (Q := pt bk (.cells #[.bool k0] 4 (0, 0)) * (pt c1 (.cells #[.int .u64 x1] 43 (0, 0)) * (pt wb (.cells (W ws) 43 (0, 0)) * ((pt b0 (.cells #[.int .u64 o0] 43 (0, 0))) * (pt b1 (.cells #[.int .u64 o1] 43 (0, 0))) * (pt c0 (.cells #[.int .u64 x0] 43 (0, 0))) * R)))) (by ac_rfl)).ne
  have HB : (y0 == o0) = true := by simpa using hy0
  have HB1 : (y1 == o1) = false := by simpa using hy1
  clear H H2 H3 hx0 hx1 hy0 hy1
  have hlt : 1 < ws.length - a := by omega
  have hlt0 : 0 < ws.length - a := by omega
  simp only [List.append_toArray, List.cons_append, List.nil_append]
  go_enter Try.func62, Try.ntmps62
  go_wp2_with fail
  go_region
  all_goals (go_wp2_with fail)
  all_goals go_ret
  all_goals exact ⟨rfl, H4, ((Strm.refl w).drew).set _ _⟩
set_option maxHeartbeats 4000000 in
theorem cas2_hit (w : World) (R : HProp) (mb : Nat) (M : MS) (a o0 o1 x0 x1 y0 y1 : Int) (H : Holds w (MemP 92 mb M * R)) (hok : M.ok) (h0 : 0 ≤ a) (h1 : a + 2 ≤ M.ws.length) (he : a.tmod 2 = 0) (hx0 : (W M.ws)[a.toNat]? = some (.int .u64 y0)) (hx1 : (W M.ws)[a.toNat + 1]? = some (.int .u64 y1)) (hy0 : y0 = o0) (hy1 : y1 = o1) :
    Calls Try.prog 34 #[.pointer (some ⟨mb, 0, none⟩), .int .i64 a, .int .u64 o0, .int .u64 o1, .int .u64 x0, .int .u64 x1] w fun e w' => e = .returned (.bool true) ∧ Holds w' (MemP 92 mb (({ M with ws := ((M.ws.set a.toNat x0).set (a.toNat + 1) x1) } : MS).acc true) * R) ∧ Strm w w' := by
  obtain ⟨wb, tv, xs, H⟩ := memP_open H
  have H0 := ((((H.alloc (.cells #[.int .u64 o0] 43)).alloc (.cells #[.int .u64 o1] 43)).alloc (.cells #[.int .u64 x0] 43)).alloc (.cells #[.int .u64 x1] 43)).alloc (.cells #[.bool false] 4)
  simp only [World.size_alloc] at H0
  have H1 := H0.cast (Q := pt mb (.cells #[.slice (some ⟨wb, 0, none⟩) M.ws.length M.ws.length, .int .i64 (M.cnt : Int), .int .i64 (M.tr : Int), tv] 92 (0, 0)) * (pt wb (.cells (W M.ws) 43 (0, 0)) * ((pt w.heap.size (.cells #[.int .u64 o0] 43 (0, 0)) * (pt (w.heap.size + 1) (.cells #[.int .u64 o1] 43 (0, 0)) * (pt (w.heap.size + 1 + 1 + 1 + 1) (.cells #[.bool false] 4 (0, 0)) * (pt (w.heap.size + 1 + 1) (.cells #[.int .u64 x0] 43 (0, 0)) * pt (w.heap.size + 1 + 1 + 1) (.cells #[.int .u64 x1] 43 (0, 0)))))) * (Row 108 3 tv M.n xs * R)))) (by ac_rfl)
  have hd : Hid (Does 62 #[.pointer (some ⟨w.heap.size, 0, none⟩), .pointer (some ⟨(w.heap.size + 1), 0, none⟩), .pointer (some ⟨(w.heap.size + 1 + 1 + 1 + 1), 0, none⟩), .pointer (some ⟨(w.heap.size + 1 + 1), 0, none⟩), .pointer (some ⟨(w.heap.size + 1 + 1 + 1), 0, none⟩)] wb a.toNat M.ws ((M.ws.set a.toNat x0).set (a.toNat + 1) x1) true _ _) := cas2_1_hit wb w.heap.size (w.heap.size + 1) (w.heap.size + 1 + 1 + 1 + 1) (w.heap.size + 1 + 1) (w.heap.size + 1 + 1 + 1) a.toNat M.ws o0 o1 x0 x1 y0 y1 false (by omega) hok.len hx0 hx1 hy0 hy1
  have HK : Hid (M.ok ∧ a.tmod 2 = 0) := ⟨hok, he⟩
  clear H H0 hok hx0 hx1 hy0 hy1 he
  go_enter Try.func34, Try.ntmps34
  go_wp2_with (go_at_call 37; refine (access_in2 _ R _ _ mb wb M ((M.ws.set a.toNat x0).set (a.toNat + 1) x1) true tv xs 4 a 62 _ H1 callFnCas2 hd.out (by simp) HK.out.1 h0 h1 HK.out.2).mono ?_; rintro e w2 ⟨rfl, H2, s2⟩; have H3 := H2.cast (Q := pt (w.heap.size + 1 + 1 + 1 + 1) (.cells #[.bool true] 4 (0, 0)) * (pt w.heap.size (.cells #[.int .u64 o0] 43 (0, 0)) * (pt (w.heap.size + 1) (.cells #[.int .u64 o1] 43 (0, 0)) * (pt (w.heap.size + 1 + 1) (.cells #[.int .u64 x0] 43 (0, 0)) * (pt (w.heap.size + 1 + 1 + 1) (.cells #[.int .u64 x1] 43 (0, 0)) * (MemP 92 mb (({ M with ws := ((M.ws.set a.toNat x0).set (a.toNat + 1) x1) } : MS).acc true) * R)))))) (by unfold MS.acc; ac_rfl); have hb := H3.cells; have hf := H3.frees)
  exact bodyPost_ret (v := .bool true) (by simp [results, Try.results34, go_sem, hb, hf]) rfl ⟨rfl, (H3.set 0 (.bool true)).drop.drop.drop.drop.drop, (((((((Strm.refl w).alloc _).alloc _).alloc _).alloc _).alloc _).trans s2).set _ _⟩
set_option maxHeartbeats 4000000 in
theorem cas2_miss0 (w : World) (R : HProp) (mb : Nat) (M : MS) (a o0 o1 x0 x1 y0 y1 : Int) (H : Holds w (MemP 92 mb M * R)) (hok : M.ok) (h0 : 0 ≤ a) (h1 : a + 2 ≤ M.ws.length) (he : a.tmod 2 = 0) (hx0 : (W M.ws)[a.toNat]? = some (.int .u64 y0)) (hx1 : (W M.ws)[a.toNat + 1]? = some (.int .u64 y1)) (hy0 : ¬ y0 = o0) :
    Calls Try.prog 34 #[.pointer (some ⟨mb, 0, none⟩), .int .i64 a, .int .u64 o0, .int .u64 o1, .int .u64 x0, .int .u64 x1] w fun e w' => e = .returned (.bool false) ∧ Holds w' (MemP 92 mb (({ M with ws := M.ws } : MS).acc true) * R) ∧ Strm w w' := by
  obtain ⟨wb, tv, xs, H⟩ := memP_open H
  have H0 := ((((H.alloc (.cells #[.int .u64 o0] 43)).alloc (.cells #[.int .u64 o1] 43)).alloc (.cells #[.int .u64 x0] 43)).alloc (.cells #[.int .u64 x1] 43)).alloc (.cells #[.bool false] 4)
  simp only [World.size_alloc] at H0
  have H1 := H0.cast (Q := pt mb (.cells #[.slice (some ⟨wb, 0, none⟩) M.ws.length M.ws.length, .int .i64 (M.cnt : Int), .int .i64 (M.tr : Int), tv] 92 (0, 0)) * (pt wb (.cells (W M.ws) 43 (0, 0)) * ((pt w.heap.size (.cells #[.int .u64 o0] 43 (0, 0)) * (pt (w.heap.size + 1) (.cells #[.int .u64 o1] 43 (0, 0)) * (pt (w.heap.size + 1 + 1 + 1 + 1) (.cells #[.bool false] 4 (0, 0)) * (pt (w.heap.size + 1 + 1) (.cells #[.int .u64 x0] 43 (0, 0)) * pt (w.heap.size + 1 + 1 + 1) (.cells #[.int .u64 x1] 43 (0, 0)))))) * (Row 108 3 tv M.n xs * R)))) (by ac_rfl)
  have hd : Hid (Does 62 #[.pointer (some ⟨w.heap.size, 0, none⟩), .pointer (some ⟨(w.heap.size + 1), 0, none⟩), .pointer (some ⟨(w.heap.size + 1 + 1 + 1 + 1), 0, none⟩), .pointer (some ⟨(w.heap.size + 1 + 1), 0, none⟩), .pointer (some ⟨(w.heap.size + 1 + 1 + 1), 0, none⟩)] wb a.toNat M.ws M.ws false _ _) := cas2_1_miss0 wb w.heap.size (w.heap.size + 1) (w.heap.size + 1 + 1 + 1 + 1) (w.heap.size + 1 + 1) (w.heap.size + 1 + 1 + 1) a.toNat M.ws o0 o1 x0 x1 y0 y1 false (by omega) hok.len hx0 hx1 hy0
  have HK : Hid (M.ok ∧ a.tmod 2 = 0) := ⟨hok, he⟩
  clear H H0 hok hx0 hx1 hy0 he
  go_enter Try.func34, Try.ntmps34
  go_wp2_with (go_at_call 37; refine (access_in2 _ R _ _ mb wb M M.ws false tv xs 4 a 62 _ H1 callFnCas2 hd.out rfl HK.out.1 h0 h1 HK.out.2).mono ?_; rintro e w2 ⟨rfl, H2, s2⟩; have H3 := H2.cast (Q := pt (w.heap.size + 1 + 1 + 1 + 1) (.cells #[.bool false] 4 (0, 0)) * (pt w.heap.size (.cells #[.int .u64 o0] 43 (0, 0)) * (pt (w.heap.size + 1) (.cells #[.int .u64 o1] 43 (0, 0)) * (pt (w.heap.size + 1 + 1) (.cells #[.int .u64 x0] 43 (0, 0)) * (pt (w.heap.size + 1 + 1 + 1) (.cells #[.int .u64 x1] 43 (0, 0)) * (MemP 92 mb (({ M with ws := M.ws } : MS).acc true) * R)))))) (by unfold MS.acc; ac_rfl); have hb := H3.cells; have hf := H3.frees)
  exact bodyPost_ret (v := .bool false) (by simp [results, Try.results34, go_sem, hb, hf]) rfl ⟨rfl, (H3.set 0 (.bool false)).drop.drop.drop.drop.drop, (((((((Strm.refl w).alloc _).alloc _).alloc _).alloc _).alloc _).trans s2).set _ _⟩
set_option maxHeartbeats 4000000 in
theorem cas2_miss1 (w : World) (R : HProp) (mb : Nat) (M : MS) (a o0 o1 x0 x1 y0 y1 : Int) (H : Holds w (MemP 92 mb M * R)) (hok : M.ok) (h0 : 0 ≤ a) (h1 : a + 2 ≤ M.ws.length) (he : a.tmod 2 = 0) (hx0 : (W M.ws)[a.toNat]? = some (.int .u64 y0)) (hx1 : (W M.ws)[a.toNat + 1]? = some (.int .u64 y1)) (hy0 : y0 = o0) (hy1 : ¬ y1 = o1) :
    Calls Try.prog 34 #[.pointer (some ⟨mb, 0, none⟩), .int .i64 a, .int .u64 o0, .int .u64 o1, .int .u64 x0, .int .u64 x1] w fun e w' => e = .returned (.bool false) ∧ Holds w' (MemP 92 mb (({ M with ws := M.ws } : MS).acc true) * R) ∧ Strm w w' := by
  obtain ⟨wb, tv, xs, H⟩ := memP_open H
  have H0 := ((((H.alloc (.cells #[.int .u64 o0] 43)).alloc (.cells #[.int .u64 o1] 43)).alloc (.cells #[.int .u64 x0] 43)).alloc (.cells #[.int .u64 x1] 43)).alloc (.cells #[.bool false] 4)
  simp only [World.size_alloc] at H0
  have H1 := H0.cast (Q := pt mb (.cells #[.slice (some ⟨wb, 0, none⟩) M.ws.length M.ws.length, .int .i64 (M.cnt : Int), .int .i64 (M.tr : Int), tv] 92 (0, 0)) * (pt wb (.cells (W M.ws) 43 (0, 0)) * ((pt w.heap.size (.cells #[.int .u64 o0] 43 (0, 0)) * (pt (w.heap.size + 1) (.cells #[.int .u64 o1] 43 (0, 0)) * (pt (w.heap.size + 1 + 1 + 1 + 1) (.cells #[.bool false] 4 (0, 0)) * (pt (w.heap.size + 1 + 1) (.cells #[.int .u64 x0] 43 (0, 0)) * pt (w.heap.size + 1 + 1 + 1) (.cells #[.int .u64 x1] 43 (0, 0)))))) * (Row 108 3 tv M.n xs * R)))) (by ac_rfl)
  have hd : Hid (Does 62 #[.pointer (some ⟨w.heap.size, 0, none⟩), .pointer (some ⟨(w.heap.size + 1), 0, none⟩), .pointer (some ⟨(w.heap.size + 1 + 1 + 1 + 1), 0, none⟩), .pointer (some ⟨(w.heap.size + 1 + 1), 0, none⟩), .pointer (some ⟨(w.heap.size + 1 + 1 + 1), 0, none⟩)] wb a.toNat M.ws M.ws false _ _) := cas2_1_miss1 wb w.heap.size (w.heap.size + 1) (w.heap.size + 1 + 1 + 1 + 1) (w.heap.size + 1 + 1) (w.heap.size + 1 + 1 + 1) a.toNat M.ws o0 o1 x0 x1 y0 y1 false (by omega) hok.len hx0 hx1 hy0 hy1
  have HK : Hid (M.ok ∧ a.tmod 2 = 0) := ⟨hok, he⟩
  clear H H0 hok hx0 hx1 hy0 hy1 he
  go_enter Try.func34, Try.ntmps34
  go_wp2_with (go_at_call 37; refine (access_in2 _ R _ _ mb wb M M.ws false tv xs 4 a 62 _ H1 callFnCas2 hd.out rfl HK.out.1 h0 h1 HK.out.2).mono ?_; rintro e w2 ⟨rfl, H2, s2⟩; have H3 := H2.cast (Q := pt (w.heap.size + 1 + 1 + 1 + 1) (.cells #[.bool false] 4 (0, 0)) * (pt w.heap.size (.cells #[.int .u64 o0] 43 (0, 0)) * (pt (w.heap.size + 1) (.cells #[.int .u64 o1] 43 (0, 0)) * (pt (w.heap.size + 1 + 1) (.cells #[.int .u64 x0] 43 (0, 0)) * (pt (w.heap.size + 1 + 1 + 1) (.cells #[.int .u64 x1] 43 (0, 0)) * (MemP 92 mb (({ M with ws := M.ws } : MS).acc true) * R)))))) (by unfold MS.acc; ac_rfl); have hb := H3.cells; have hf := H3.frees)
  exact bodyPost_ret (v := .bool false) (by simp [results, Try.results34, go_sem, hb, hf]) rfl ⟨rfl, (H3.set 0 (.bool false)).drop.drop.drop.drop.drop, (((((((Strm.refl w).alloc _).alloc _).alloc _).alloc _).alloc _).trans s2).set _ _⟩
/-- An even address, and the one behind it, are there. -/
def MS.there2 (M : MS) (a : Int) : Bool := decide (0 ≤ a) && (decide (a + 2 ≤ M.ws.length) && decide (a.tmod 2 = 0))
theorem cas2_calls (w : World) (R : HProp) (mb : Nat) (M : MS) (a o0 o1 x0 x1 : Int) (H : Holds w (MemP 92 mb M * R)) (hok : M.ok) (ht : M.there2 a = true) :
    Calls Try.prog 34 #[.pointer (some ⟨mb, 0, none⟩), .int .i64 a, .int .u64 o0, .int .u64 o1, .int .u64 x0, .int .u64 x1] w fun e w' =>
      e = .returned (.bool (decide (M.get a = o0) && decide (M.get (a + 1) = o1))) ∧
      Holds w' (MemP 92 mb (({ M with ws := if M.get a = o0 ∧ M.get (a + 1) = o1 then (M.ws.set a.toNat x0).set (a.toNat + 1) x1 else M.ws } : MS).acc true) * R) ∧ Strm w w' := by
  simp only [MS.there2, Bool.and_eq_true, decide_eq_true_eq] at ht
  obtain ⟨h0, h1, he⟩ := ht
  have ea : (a + 1).toNat = a.toNat + 1 := by omega
  have g0 : (W M.ws)[a.toNat]? = some (.int .u64 (M.get a)) := W_get _ _ (by omega)
  have g1 : (W M.ws)[a.toNat + 1]? = some (.int .u64 (M.get (a + 1))) := by
    unfold MS.get
    rw [ea]
    exact W_get _ _ (by omega)
  by_cases hy0 : M.get a = o0
  · by_cases hy1 : M.get (a + 1) = o1
    · rw [decide_eq_true hy0, decide_eq_true hy1, if_pos ⟨hy0, hy1⟩]
      exact cas2_hit w R mb M a o0 o1 x0 x1 _ _ H hok h0 h1 he g0 g1 hy0 hy1
    · rw [decide_eq_true hy0, decide_eq_false hy1, if_neg (fun h => hy1 h.2)]
      exact cas2_miss1 w R mb M a o0 o1 x0 x1 _ _ H hok h0 h1 he g0 g1 hy0 hy1
  · rw [decide_eq_false hy0, if_neg (fun h => hy0 h.1)]
    exact cas2_miss0 w R mb M a o0 o1 x0 x1 _ _ H hok h0 h1 he g0 g1 hy0
end Go.Proofs.Ytiodiobomblbiaa.Mem
