/- What is proved: the contract of the program's memory's CAS. Conditions: stated with each contract. -/
import Derived.Test.YtmmpnjcmaodkcaaMem
import Derived.RegionTactic
import Derived.BigRegion
namespace Go.Proofs.Ytmmpnjcmaodkcaa.Mem
open Go Go.RowKit Go.Proofs.Ytmmpnjcmaodkcaa.Sep
set_option maxRecDepth 100000
set_option linter.unusedVariables false
set_option linter.unusedSimpArgs false
theorem callFnCas (args : Array Value) (w : World) : (callFunc 65 args).run Try.prog w = .ok (.enter 65 args) w := by
  go_simp
set_option maxHeartbeats 2000000 in
theorem cas1_hit (wb bo bk bw a : Nat) (ws : List Int) (old x y : Int) (k0 : Bool) (h1 : a < ws.length) (hl : ws.length ≤ 4096) (hx : (W ws)[a]? = some (.int .u64 y)) (hy : y = old) :
    Does 65 #[.pointer (some ⟨bo, 0, none⟩), .pointer (some ⟨bk, 0, none⟩), .pointer (some ⟨bw, 0, none⟩)] wb a ws (ws.set a x) true
    (pt bo (.cells #[.int .u64 old] 38 (0, 0)) * (pt bk (.cells #[.bool k0] 4 (0, 0)) * pt bw (.cells #[.int .u64 x] 38 (0, 0)))) (pt bo (.cells #[.int .u64 old] 38 (0, 0)) * (pt bk (.cells #[.bool true] 4 (0, 0)) * pt bw (.cells #[.int .u64 x] 38 (0, 0)))) := by
  intro w R H
  have hc : w.cell? ⟨wb, a, none⟩ = some (.int .u64 y) := H.cell a _ hx
  have hfw := H.free a
  have H2 := H.cast (Q := pt bk (.cells #[.bool k0] 4 (0, 0)) * (pt bo (.cells #[.int .u64 old] 38 (0, 0)) * (pt bw (.cells #[.int .u64 x] 38 (0, 0)) * (pt wb (.cells (W ws) 38 (0, 0)) * R)))) (by ac_rfl)
  have ck := H2.cells
  have fk := H2.frees
  have co := H2.drop.cells
  have cw := H2.drop.drop.cells
  have H3 := H2.set 0 (.bool true)
  have H4 := H3.cast (Q := pt wb (.cells (W ws) 38 (0, 0)) * ((pt bo (.cells #[.int .u64 old] 38 (0, 0)) * (pt bk (.cells #[.bool true] 4 (0, 0)) * pt bw (.cells #[.int .u64 x] 38 (0, 0)))) * R)) (by simp only [List.setIfInBounds_toArray, List.set_cons_zero]; ac_rfl)
  have hne : wb ≠ bk := (H4.cast (Q := pt wb (.cells (W ws) 38 (0, 0)) * (pt bk (.cells #[.bool true] 4 (0, 0)) * (pt bo (.cells #[.int .u64 old] 38 (0, 0)) * (pt bw (.cells #[.int .u64 x] 38 (0, 0)) * R)))) (by ac_rfl)).ne
  have hne2 : wb ≠ bw := (H4.cast (Q := pt wb (.cells (W ws) 38 (0, 0)) * (pt bw (.cells #[.int .u64 x] 38 (0, 0)) * (pt bo (.cells #[.int .u64 old] 38 (0, 0)) * (pt bk (.cells #[.bool true] 4 (0, 0)) * R)))) (by ac_rfl)).ne
  have hne3 : bk ≠ bw := (H2.cast (Q := pt bk (.cells #[.bool k0] 4 (0, 0)) * (pt bw (.cells #[.int .u64 x] 38 (0, 0)) * (pt bo (.cells #[.int .u64 old] 38 (0, 0)) * (pt wb (.cells (W ws) 38 (0, 0)) * R)))) (by ac_rfl)).ne
  have hne4 : bk ≠ bo := H2.ne
  have H5 := H4.set a (.int .u64 x)
  rw [W_set] at H5
  have HB : (y == old) = true := by simpa using hy
  clear H H2 H3 hx hy
  have hlt : 0 < ws.length - a := by omega
  simp only [List.append_toArray, List.cons_append, List.nil_append]
  go_enter Try.func65, Try.ntmps65
  go_wp2_with fail
  go_region
  all_goals (go_wp2_with fail)
  all_goals go_ret
  all_goals exact ⟨rfl, H5, (((Strm.refl w).drew).set _ _).set _ _⟩
set_option maxHeartbeats 2000000 in
theorem cas1_miss (wb bo bk bw a : Nat) (ws : List Int) (old x y : Int) (k0 : Bool) (h1 : a < ws.length) (hl : ws.length ≤ 4096) (hx : (W ws)[a]? = some (.int .u64 y)) (hy : ¬ y = old) :
    Does 65 #[.pointer (some ⟨bo, 0, none⟩), .pointer (some ⟨bk, 0, none⟩), .pointer (some ⟨bw, 0, none⟩)] wb a ws ws false
    (pt bo (.cells #[.int .u64 old] 38 (0, 0)) * (pt bk (.cells #[.bool k0] 4 (0, 0)) * pt bw (.cells #[.int .u64 x] 38 (0, 0)))) (pt bo (.cells #[.int .u64 old] 38 (0, 0)) * (pt bk (.cells #[.bool false] 4 (0, 0)) * pt bw (.cells #[.int .u64 x] 38 (0, 0)))) := by
  intro w R H
  have hc : w.cell? ⟨wb, a, none⟩ = some (.int .u64 y) := H.cell a _ hx
  have hfw := H.free a
  have H2 := H.cast (Q := pt bk (.cells #[.bool k0] 4 (0, 0)) * (pt bo (.cells #[.int .u64 old] 38 (0, 0)) * (pt bw (.cells #[.int .u64 x] 38 (0, 0)) * (pt wb (.cells (W ws) 38 (0, 0)) * R)))) (by ac_rfl)
  have ck := H2.cells
  have fk := H2.frees
  have co := H2.drop.cells
  have cw := H2.drop.drop.cells
  have H3 := H2.set 0 (.bool false)
  have H4 := H3.cast (Q := pt wb (.cells (W ws) 38 (0, 0)) * ((pt bo (.cells #[.int .u64 old] 38 (0, 0)) * (pt bk (.cells #[.bool false] 4 (0, 0)) * pt bw (.cells #[.int .u64 x] 38 (0, 0)))) * R)) (by simp only [List.setIfInBounds_toArray, List.set_cons_zero]; ac_rfl)
  have hne : wb ≠ bk := (H4.cast (Q := pt wb (.cells (W ws) 38 (0, 0)) * (pt bk (.cells #[.bool false] 4 (0, 0)) * (pt bo (.cells #[.int .u64 old] 38 (0, 0)) * (pt bw (.cells #[.int .u64 x] 38 (0, 0)) * R)))) (by ac_rfl)).ne
  have hne2 : wb ≠ bw := (H4.cast (Q := pt wb (.cells (W ws) 38 (0, 0)) * (pt bw (.cells #[.int .u64 x] 38 (0, 0)) * (pt bo (.cells #[.int .u64 old] 38 (0, 0)) * (pt bk (.cells #[.bool false] 4 (0, 0)) * R)))) (by ac_rfl)).ne
  have hne3 : bk ≠ bw := (H2.cast (Q := pt bk (.cells #[.bool k0] 4 (0, 0)) * (pt bw (.cells #[.int .u64 x] 38 (0, 0)) * (pt bo (.cells #[.int .u64 old] 38 (0, 0)) * (pt wb (.cells (W ws) 38 (0, 0)) * R)))) (by ac_rfl)).ne
  have hne4 : bk ≠ bo := H2.ne
  have HB : (y == old) = false := by simpa using hy
  clear H H2 H3 hx hy
  have hlt : 0 < ws.length - a := by omega
  simp only [List.append_toArray, List.cons_append, List.nil_append]
  go_enter Try.func65, Try.ntmps65
  go_wp2_with fail
  go_region
  all_goals (go_wp2_with fail)
  all_goals go_ret
  all_goals exact ⟨rfl, H4, ((Strm.refl w).drew).set _ _⟩
/-! ### CAS -/
def MS.casOk (M : MS) (a old : Int) : Bool := M.there a && decide (M.get a = old)
def MS.cas (M : MS) (a old x : Int) : MS := (if M.casOk a old then { M with ws := M.ws.set a.toNat x } else M).acc (M.there a)
set_option maxHeartbeats 2000000 in
theorem cas_hit (w : World) (R : HProp) (mb : Nat) (M : MS) (a old x y : Int) (H : Holds w (MemP 101 mb M * R)) (hok : M.ok) (h0 : 0 ≤ a) (h1 : a < M.ws.length) (hx : (W M.ws)[a.toNat]? = some (.int .u64 y)) (hy : y = old) :
    Calls Try.prog 44 #[.pointer (some ⟨mb, 0, none⟩), .int .i64 a, .int .u64 old, .int .u64 x] w fun e w' => e = .returned (.bool true) ∧ Holds w' (MemP 101 mb (({ M with ws := (M.ws.set a.toNat x) } : MS).acc true) * R) ∧ Strm w w' := by
  obtain ⟨wb, tv, xs, H⟩ := memP_open H
  have H0 := ((H.alloc (.cells #[.int .u64 old] 38)).alloc (.cells #[.int .u64 x] 38)).alloc (.cells #[.bool false] 4)
  simp only [World.size_alloc] at H0
  have H1 := H0.cast (Q := pt mb (.cells #[.slice (some ⟨wb, 0, none⟩) M.ws.length M.ws.length, .int .i64 (M.cnt : Int), .int .i64 (M.tr : Int), tv] 101 (0, 0)) * (pt wb (.cells (W M.ws) 38 (0, 0)) * ((pt w.heap.size (.cells #[.int .u64 old] 38 (0, 0)) * (pt (w.heap.size + 1 + 1) (.cells #[.bool false] 4 (0, 0)) * pt (w.heap.size + 1) (.cells #[.int .u64 x] 38 (0, 0)))) * (Row 128 3 tv M.n xs * R)))) (by ac_rfl)
  have hd : Hid (Does 65 #[.pointer (some ⟨w.heap.size, 0, none⟩), .pointer (some ⟨w.heap.size + 1 + 1, 0, none⟩), .pointer (some ⟨w.heap.size + 1, 0, none⟩)] wb a.toNat M.ws (M.ws.set a.toNat x) true _ _) := cas1_hit wb w.heap.size (w.heap.size + 1 + 1) (w.heap.size + 1) a.toNat M.ws old x y false (by omega) hok.len hx hy
  have HK : Hid M.ok := hok
  clear H H0 hok hx hy
  go_enter Try.func44, Try.ntmps44
  go_wp2_with (go_at_call 49; refine (access_in _ R _ _ mb wb M (M.ws.set a.toNat x) true tv xs 3 a 65 _ H1 callFnCas hd.out (List.length_set ..) HK.out h0 h1).mono ?_; rintro e w2 ⟨rfl, H2, s2⟩; have H3 := H2.cast (Q := pt (w.heap.size + 1 + 1) (.cells #[.bool true] 4 (0, 0)) * (pt w.heap.size (.cells #[.int .u64 old] 38 (0, 0)) * (pt (w.heap.size + 1) (.cells #[.int .u64 x] 38 (0, 0)) * (MemP 101 mb (({ M with ws := (M.ws.set a.toNat x) } : MS).acc true) * R)))) (by unfold MS.acc; ac_rfl); have hb := H3.cells; have hf := H3.frees)
  exact bodyPost_ret (v := .bool true) (by simp [results, Try.results44, go_sem, hb, hf]) rfl ⟨rfl, (H3.set 0 (.bool true)).drop.drop.drop, (((((Strm.refl w).alloc _).alloc _).alloc _).trans s2).set _ _⟩
set_option maxHeartbeats 2000000 in
theorem cas_miss (w : World) (R : HProp) (mb : Nat) (M : MS) (a old x y : Int) (H : Holds w (MemP 101 mb M * R)) (hok : M.ok) (h0 : 0 ≤ a) (h1 : a < M.ws.length) (hx : (W M.ws)[a.toNat]? = some (.int .u64 y)) (hy : ¬ y = old) :
    Calls Try.prog 44 #[.pointer (some ⟨mb, 0, none⟩), .int .i64 a, .int .u64 old, .int .u64 x] w fun e w' => e = .returned (.bool false) ∧ Holds w' (MemP 101 mb (({ M with ws := M.ws } : MS).acc true) * R) ∧ Strm w w' := by
  obtain ⟨wb, tv, xs, H⟩ := memP_open H
  have H0 := ((H.alloc (.cells #[.int .u64 old] 38)).alloc (.cells #[.int .u64 x] 38)).alloc (.cells #[.bool false] 4)
  simp only [World.size_alloc] at H0
  have H1 := H0.cast (Q := pt mb (.cells #[.slice (some ⟨wb, 0, none⟩) M.ws.length M.ws.length, .int .i64 (M.cnt : Int), .int .i64 (M.tr : Int), tv] 101 (0, 0)) * (pt wb (.cells (W M.ws) 38 (0, 0)) * ((pt w.heap.size (.cells #[.int .u64 old] 38 (0, 0)) * (pt (w.heap.size + 1 + 1) (.cells #[.bool false] 4 (0, 0)) * pt (w.heap.size + 1) (.cells #[.int .u64 x] 38 (0, 0)))) * (Row 128 3 tv M.n xs * R)))) (by ac_rfl)
  have hd : Hid (Does 65 #[.pointer (some ⟨w.heap.size, 0, none⟩), .pointer (some ⟨w.heap.size + 1 + 1, 0, none⟩), .pointer (some ⟨w.heap.size + 1, 0, none⟩)] wb a.toNat M.ws M.ws false _ _) := cas1_miss wb w.heap.size (w.heap.size + 1 + 1) (w.heap.size + 1) a.toNat M.ws old x y false (by omega) hok.len hx hy
  have HK : Hid M.ok := hok
  clear H H0 hok hx hy
  go_enter Try.func44, Try.ntmps44
  go_wp2_with (go_at_call 49; refine (access_in _ R _ _ mb wb M M.ws false tv xs 3 a 65 _ H1 callFnCas hd.out rfl HK.out h0 h1).mono ?_; rintro e w2 ⟨rfl, H2, s2⟩; have H3 := H2.cast (Q := pt (w.heap.size + 1 + 1) (.cells #[.bool false] 4 (0, 0)) * (pt w.heap.size (.cells #[.int .u64 old] 38 (0, 0)) * (pt (w.heap.size + 1) (.cells #[.int .u64 x] 38 (0, 0)) * (MemP 101 mb (({ M with ws := M.ws } : MS).acc true) * R)))) (by unfold MS.acc; ac_rfl); have hb := H3.cells; have hf := H3.frees)
  exact bodyPost_ret (v := .bool false) (by simp [results, Try.results44, go_sem, hb, hf]) rfl ⟨rfl, (H3.set 0 (.bool false)).drop.drop.drop, (((((Strm.refl w).alloc _).alloc _).alloc _).trans s2).set _ _⟩
set_option maxHeartbeats 2000000 in
theorem cas_out (w : World) (R : HProp) (mb : Nat) (M : MS) (a old x : Int) (H : Holds w (MemP 101 mb M * R)) (hok : M.ok) (h : ¬ (0 ≤ a ∧ a < M.ws.length)) :
    Calls Try.prog 44 #[.pointer (some ⟨mb, 0, none⟩), .int .i64 a, .int .u64 old, .int .u64 x] w fun e w' => e = .returned (.bool false) ∧ Holds w' (MemP 101 mb (M.acc false) * R) ∧ Strm w w' := by
  have H0 := ((H.alloc (.cells #[.int .u64 old] 38)).alloc (.cells #[.int .u64 x] 38)).alloc (.cells #[.bool false] 4)
  simp only [World.size_alloc] at H0
  have H1 := H0.cast (Q := MemP 101 mb M * (pt (w.heap.size + 1 + 1) (.cells #[.bool false] 4 (0, 0)) * (pt w.heap.size (.cells #[.int .u64 old] 38) * (pt (w.heap.size + 1) (.cells #[.int .u64 x] 38) * R)))) (by ac_rfl)
  have HK : Hid (M.ok ∧ ¬ (0 ≤ a ∧ a < M.ws.length)) := ⟨hok, h⟩
  clear H H0 hok h
  go_enter Try.func44, Try.ntmps44
  go_wp2_with (go_at_call 49; refine (access_out _ _ mb M 3 a 65 _ H1 HK.out.1 HK.out.2).mono ?_; rintro e w2 ⟨rfl, H2, s2⟩; have H3 := H2.cast (Q := pt (w.heap.size + 1 + 1) (.cells #[.bool false] 4 (0, 0)) * (pt w.heap.size (.cells #[.int .u64 old] 38) * (pt (w.heap.size + 1) (.cells #[.int .u64 x] 38) * (MemP 101 mb (M.acc false) * R)))) (by ac_rfl); have hb := H3.cells; have hf := H3.frees)
  exact bodyPost_ret (v := .bool false) (by simp [results, Try.results44, go_sem, hb, hf]) rfl ⟨rfl, (H3.set 0 (.bool false)).drop.drop.drop, (((((Strm.refl w).alloc _).alloc _).alloc _).trans s2).set _ _⟩
theorem cas_calls (w : World) (R : HProp) (mb : Nat) (M : MS) (a old x : Int) (H : Holds w (MemP 101 mb M * R)) (hok : M.ok) :
    Calls Try.prog 44 #[.pointer (some ⟨mb, 0, none⟩), .int .i64 a, .int .u64 old, .int .u64 x] w fun e w' => e = .returned (.bool (M.casOk a old)) ∧ Holds w' (MemP 101 mb (M.cas a old x) * R) ∧ Strm w w' := by
  unfold MS.cas MS.casOk
  by_cases h : M.there a = true
  · obtain ⟨h0, h1⟩ := (there_iff M a).1 h
    rw [h]
    by_cases hy : M.get a = old
    · rw [decide_eq_true hy]
      exact cas_hit w R mb M a old x (M.get a) H hok h0 h1 (W_get _ _ (by omega)) hy
    · rw [decide_eq_false hy]
      exact cas_miss w R mb M a old x (M.get a) H hok h0 h1 (W_get _ _ (by omega)) hy
  · rw [Bool.not_eq_true] at h
    rw [h]
    exact cas_out w R mb M a old x H hok (fun y => by rw [(there_iff M a).2 y] at h; cases h)
end Go.Proofs.Ytmmpnjcmaodkcaa.Mem
