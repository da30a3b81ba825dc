/- What is proved: the contracts of the reference memory's Load and CAS. Conditions: that the memory is one of at most 4096 words. -/
import Derived.Test.YtmmpnjcmaodkcaaRef
import Derived.Test.YtmmpnjcmaodkcaaCas
namespace Go.Proofs.Ytmmpnjcmaodkcaa.Mem
open Go Go.RowKit Go.Proofs.Ytmmpnjcmaodkcaa.Sep
set_option maxRecDepth 100000
set_option linter.unusedVariables false
set_option linter.unusedSimpArgs false
theorem refMem_cells {w : World} {R : HProp} {mb : Nat} {M : MS} (H : Holds w (MemP 50 mb M * R)) : ∃ wb : Nat, w.cell? ⟨mb, 0, none⟩ = some (.slice (some ⟨wb, 0, none⟩) M.ws.length M.ws.length) ∧ ∀ i, i < M.ws.length → w.cell? ⟨wb, i, none⟩ = some (.int .u64 (M.ws.getD i 0)) := by
  obtain ⟨wb, tv, xs, H3⟩ := memP_open H
  have H4 := H3.cast (Q := pt wb (.cells (W M.ws) 38 (0, 0)) * (pt mb (.cells #[.slice (some ⟨wb, 0, none⟩) M.ws.length M.ws.length, .int .i64 (M.cnt : Int), .int .i64 (M.tr : Int), tv] 50 (0, 0)) * (Row 128 3 tv M.n xs * R))) (by ac_rfl)
  exact ⟨wb, H3.cell 0 _ rfl, fun i hi => H4.cell i _ (W_get _ _ hi)⟩
set_option maxHeartbeats 1000000 in
theorem refLoad_calls (w : World) (R : HProp) (mb : Nat) (M : MS) (a : Int) (H : Holds w (MemP 50 mb M * R)) (hok : M.ok) :
    Calls Try.prog 56 #[.pointer (some ⟨mb, 0, none⟩), .int .i64 a] w fun e w' => e = .returned (.int .u64 (M.load a)) ∧ Holds w' (MemP 50 mb (M.loaded a) * R) ∧ Strm w w' := by
  have HT : Hid (∀ w, Holds w (MemP 50 mb M * R) → Calls Try.prog 52 #[.pointer (some ⟨mb, 0, none⟩), .int .i64 a] w fun e w' => e = .returned (.bool (M.there a)) ∧ w = w') := fun w H => refThere_calls w R mb M a H hok
  have HO : Hid (∀ w b ok, Holds w (MemP 50 mb M * R) → Calls Try.prog 53 #[.pointer (some ⟨mb, 0, none⟩), .int .i64 1, .int .i64 a, .bool b, .bool ok] w fun e w' => e = .returned (.tuple #[]) ∧ Holds w' (MemP 50 mb (M.acc b) * R) ∧ Strm w w') := fun w b ok H => told_calls w R mb M 1 a b ok H hok
  have HH : Hid (Holds w (MemP 50 mb M * R)) := H
  have hl := hok.len
  clear H hok
  rcases there_cases M a with ⟨h, h0, h1⟩ | ⟨h, hn⟩
  · have HS : Hid (M.loaded a = M.acc true) := by simp [Hid, MS.loaded, h]
    have HV : Hid (M.load a = M.ws.getD a.toNat 0) := by simp [Hid, MS.load, MS.get, h]
    have HL : Hid (a.toNat < M.ws.length) := by show _ < _; omega
    go_enter Try.func56, Try.ntmps56
    go_wp2_with (first | (go_at_call 52; refine (HT.out _ HH.out).mono ?_; rintro e w2 ⟨rfl, rfl⟩) | (go_at_call 53; refine (HO.out _ true true HH.out).mono ?_; rintro e w2 ⟨rfl, H2, s2⟩; obtain ⟨wb, hc0, hcw0⟩ := refMem_cells H2; have hc0' : w2.cell? ⟨mb, 0, none⟩ = some (.slice (some ⟨wb, 0, none⟩) M.ws.length M.ws.length) := hc0; have hcw : w2.cell? ⟨wb, a.toNat, none⟩ = some (.int .u64 (M.ws.getD a.toNat 0)) := hcw0 _ HL.out; clear hc0 hcw0; generalize M.ws.getD a.toNat 0 = y at HV hcw))
    go_ret
    rw [HV.out, HS.out]
    exact ⟨rfl, H2, s2⟩
  · have HS : Hid (M.loaded a = M.acc false) := by simp [Hid, MS.loaded, h]
    have HV : Hid (M.load a = 0) := by simp [Hid, MS.load, h]
    go_enter Try.func56, Try.ntmps56
    go_wp2_with (first | (go_at_call 52; refine (HT.out _ HH.out).mono ?_; rintro e w2 ⟨rfl, rfl⟩) | (go_at_call 53; refine (HO.out _ false false HH.out).mono ?_; rintro e w2 ⟨rfl, H2, s2⟩))
    go_ret
    rw [HV.out, HS.out]
    exact ⟨rfl, H2, s2⟩
set_option maxHeartbeats 1000000 in
theorem refCas_calls (w : World) (R : HProp) (mb : Nat) (M : MS) (a o x : Int) (H : Holds w (MemP 50 mb M * R)) (hok : M.ok) :
    Calls Try.prog 58 #[.pointer (some ⟨mb, 0, none⟩), .int .i64 a, .int .u64 o, .int .u64 x] w fun e w' => e = .returned (.bool (M.casOk a o)) ∧ Holds w' (MemP 50 mb (M.cas a o x) * R) ∧ Strm w w' := by
  have HT : Hid (∀ w, Holds w (MemP 50 mb M * R) → Calls Try.prog 52 #[.pointer (some ⟨mb, 0, none⟩), .int .i64 a] w fun e w' => e = .returned (.bool (M.there a)) ∧ w = w') := fun w H => refThere_calls w R mb M a H hok
  have HO : Hid (∀ w b ok, Holds w (MemP 50 mb M * R) → Calls Try.prog 53 #[.pointer (some ⟨mb, 0, none⟩), .int .i64 3, .int .i64 a, .bool b, .bool ok] w fun e w' => e = .returned (.tuple #[]) ∧ Holds w' (MemP 50 mb (M.acc b) * R) ∧ Strm w w') := fun w b ok H => told_calls w R mb M 3 a b ok H hok
  have HH : Hid (Holds w (MemP 50 mb M * R)) := H
  have hl := hok.len
  obtain ⟨wb0, hd0, hdw0⟩ := refMem_cells H
  clear H hok
  rcases there_cases M a with ⟨h, h0, h1⟩ | ⟨h, hn⟩
  · have HL : Hid (a.toNat < M.ws.length) := by show _ < _; omega
    have hdw : w.cell? ⟨wb0, a.toNat, none⟩ = some (.int .u64 (M.ws.getD a.toNat 0)) := hdw0 _ HL.out
    have HG : Hid (M.get a = M.ws.getD a.toNat 0) := rfl
    clear hdw0
    generalize hy : M.ws.getD a.toNat 0 = y at hdw HG
    have HY : Hid (M.ws.getD a.toNat 0 = y) := hy
    clear hy
    by_cases he : y = o
    · have he' : (y == o) = true := by simpa using he
      have HS : Hid (M.cas a o x = ({ M with ws := M.ws.set a.toNat x } : MS).acc true ∧ M.casOk a o = true) := by
        have e : M.casOk a o = true := by unfold MS.casOk; rw [h, HG.out, he]; simp
        refine ⟨?_, e⟩
        unfold MS.cas; rw [e, h]; rfl
      clear he HG
      go_enter Try.func58, Try.ntmps58
      go_wp2_with (first | (go_at_call 52; refine (HT.out _ HH.out).mono ?_; rintro e w2 ⟨rfl, rfl⟩) | (go_at_call 53; refine (HO.out _ true true HH.out).mono ?_; rintro e w2 ⟨rfl, H2, s2⟩; obtain ⟨wb, tv, xs, H3⟩ := memP_open H2; have hc0 : w2.cell? ⟨mb, 0, none⟩ = some (.slice (some ⟨wb, 0, none⟩) M.ws.length M.ws.length) := H3.cell 0 _ rfl; have H4 := H3.cast (Q := pt wb (.cells (W M.ws) 38 (0, 0)) * (pt mb (.cells #[.slice (some ⟨wb, 0, none⟩) M.ws.length M.ws.length, .int .i64 ((M.acc true).cnt : Int), .int .i64 ((M.acc true).tr : Int), tv] 50 (0, 0)) * (Row 128 3 tv (M.acc true).n xs * R))) (by unfold MS.acc; ac_rfl); obtain ⟨y2, hcw⟩ : ∃ y, w2.cell? ⟨wb, a.toNat, none⟩ = some (.int .u64 y) := ⟨_, H4.cell a.toNat _ (W_get _ _ HL.out)⟩; have hfw := H4.free a.toNat; have H5 := H4.set a.toNat (.int .u64 x)))
      go_ret
      rw [HS.out.1, HS.out.2]
      refine ⟨rfl, ?_, s2.set _ _⟩
      rw [W_set] at H5
      refine memP_close (wb := wb) (tv := tv) (xs := xs) (H5.cast ?_)
      simp only [MS.acc, List.length_set]
      ac_rfl
    · have he' : (y == o) = false := by simpa using he
      have HS : Hid (M.cas a o x = M.acc true ∧ M.casOk a o = false) := by
        have e : M.casOk a o = false := by unfold MS.casOk; rw [h, HG.out]; simpa using he
        refine ⟨?_, e⟩
        unfold MS.cas; rw [e, h]; rfl
      clear he HG
      go_enter Try.func58, Try.ntmps58
      go_wp2_with (first | (go_at_call 52; refine (HT.out _ HH.out).mono ?_; rintro e w2 ⟨rfl, rfl⟩) | (go_at_call 53; refine (HO.out _ true false HH.out).mono ?_; rintro e w2 ⟨rfl, H2, s2⟩))
      go_ret
      rw [HS.out.1, HS.out.2]
      exact ⟨rfl, H2, s2⟩
  · have HS : Hid (M.cas a o x = M.acc false ∧ M.casOk a o = false) := by
      have e : M.casOk a o = false := by unfold MS.casOk; rw [h]; rfl
      refine ⟨?_, e⟩
      unfold MS.cas; rw [e, h]; rfl
    clear hd0 hdw0
    go_enter Try.func58, Try.ntmps58
    go_wp2_with (first | (go_at_call 52; refine (HT.out _ HH.out).mono ?_; rintro e w2 ⟨rfl, rfl⟩) | (go_at_call 53; refine (HO.out _ false false HH.out).mono ?_; rintro e w2 ⟨rfl, H2, s2⟩))
    go_ret
    rw [HS.out.1, HS.out.2]
    exact ⟨rfl, H2, s2⟩
end Go.Proofs.Ytmmpnjcmaodkcaa.Mem
