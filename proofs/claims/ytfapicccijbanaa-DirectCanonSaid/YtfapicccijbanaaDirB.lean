/- What is proved: contracts of slot.Word, grey.NewShade, and of direct.Direct's shade. Conditions: stated with each contract. -/
import Derived.Test.YtfapicccijbanaaDirA
namespace Go.Proofs.Ytfapicccijbanaa.Mem
open Go Go.RowKit Go.Proofs.Ytfapicccijbanaa.Sep Go.Proofs.Ytfapicccijbanaa.Num
set_option maxRecDepth 100000
set_option linter.unusedVariables false
set_option linter.unusedSimpArgs false
attribute [local go_sem] eqlF_nil neqF_nil eqlF_fn neqF_fn
set_option maxHeartbeats 1000000 in
theorem slotWord_calls (k n : Int) (w : World) :
    Calls Try.prog 66 #[.agg #[.int .i64 k, .int .i64 n]] w (Ret w (.int .u64 (sW k n))) := by
  have hw : Hid (bits .or .u64 (bits .and .u64 (IntKind.u64.wrap k) 3) (IntKind.u64.wrap (IntKind.u64.wrap n * 8)) = sW k n) := word1 k n
  go_enter Try.func66, Try.ntmps66
  go_wp2_with fail
  go_ret
  exact ⟨ret_int hw.out, (Below.refl _ _).alloc (Nat.le_refl _) _⟩
def GS.new (a m : Int) : GS := ⟨a, m, if a = 0 then 5 else 0, 0, ⟨0, 0, 0, 0, 0, 0, 0⟩⟩
def ShadeP (s : Nat) (S : GS) : HProp := pt s (.cells S.cells 146 (0, 0))
set_option maxHeartbeats 1000000 in
theorem newShade_calls (w : World) (R : HProp) (a m : Int) (H : Holds w R) (ha : ¬ a = 0) :
    Calls Try.prog 80 #[.int .i64 a, .int .i64 m] w fun e w' => ∃ s, e = .returned (.pointer (some ⟨s, 0, none⟩)) ∧ Holds w' (ShadeP s (GS.new a m) * R) ∧ Below w.heap.size w w' := by
  have h0 : (a == 0) = false := by simpa using ha
  have HN : Hid ((if a = 0 then (5 : Int) else 0) = 0) := by rw [Hid, if_neg ha]
  have HH : Hid (Holds w R) := H
  clear H ha
  go_enter Try.func80, Try.ntmps80
  go_wp2_with fail
  go_ret
  refine ⟨w.heap.size, rfl, ?_, (Below.refl _ _).alloc (Nat.le_refl _) _⟩
  unfold ShadeP GS.new GS.cells
  rw [HN.out]
  exact HH.out.alloc _
/-! ### shade -/
def thenK (wr : Bool) : DK := if wr then .write else .swap
theorem thenK_fn (wr : Bool) : (thenK wr).fn = some (thenOf wr) := by cases wr <;> rfl
def shadeK1 (S : DS) (wr : Bool) (k1 n1 : Int) : DK := if S.sh = true ∧ farB k1 n1 = true then .shadeB (GS.new n1 S.mark) wr else thenK wr
def shadeK2 (S : DS) (wr : Bool) (k0 n0 k1 n1 : Int) : DK := if S.sh = true ∧ farB k0 n0 = true then .shadeA (GS.new n0 S.mark) wr k1 n1 else shadeK1 S wr k1 n1
/-- What shade hands back: the next one. -/
def Next (d : Nat) (kv : Value) (S : DS) (K : DK) (R : HProp) (w : World) : Ending → World → Prop := fun e w' =>
  ∃ kv', e = .returned kv' ∧ Holds w' (pt d (.cells (S.cells kv) 99 (0, 0)) * (DK.P d kv' K * R)) ∧ Strm w w'
theorem next_then {d : Nat} {kv : Value} {S : DS} {wr : Bool} {R : HProp} {w w' : World} (H : Holds w' (pt d (.cells (S.cells kv) 99 (0, 0)) * R)) (s : Strm w w') : Next d kv S (thenK wr) R w (.returned (.func (.func (thenOf wr)) #[.pointer (some ⟨d, 0, none⟩)] #[])) w' :=
  ⟨_, rfl, ((dk_method (thenK_fn wr)).2 ⟨rfl, H⟩).cast (by ac_rfl), s⟩
set_option maxHeartbeats 2000000 in
theorem shade_quick (w : World) (R : HProp) (d : Nat) (S : DS) (kv : Value) (wr : Bool) (ao : Option Addr) (n c : Nat) (h : n = 0 ∨ S.sh = false) (hn : n ≤ 2) (H : Holds w (pt d (.cells (S.cells kv) 99 (0, 0)) * R)) :
    Calls Try.prog 65 #[.pointer (some ⟨d, 0, none⟩), .func (.func (thenOf wr)) #[.pointer (some ⟨d, 0, none⟩)] #[], .slice ao n c] w (Next d kv S (thenK wr) R w) := by
  have H3 := ((H.alloc (.cells #[.pointer (some ⟨d, 0, none⟩)] 33)).alloc (.cells #[.func (.func (thenOf wr)) #[.pointer (some ⟨d, 0, none⟩)] #[]] 97)).alloc (.cells #[.slice ao n c] 22)
  have HH : Hid (Holds _ (pt d (.cells (S.cells kv) 99 (0, 0)) * R)) := H3.drop.drop.drop
  have c1 := H.cells
  have hd := H.lt
  have hd1 : d < w.heap.size + 1 := by omega
  have hd2 : d < w.heap.size + 1 + 1 := by omega
  simp only [DS.cells] at c1
  obtain ⟨f, hf⟩ : ∃ f, thenOf wr = f := ⟨_, rfl⟩
  have HF : Hid (thenOf wr = f) := hf
  rw [hf] at HH ⊢
  clear H H3 hf
  by_cases h0 : n = 0
  · subst h0
    go_enter Try.func65, Try.ntmps65
    go_wp2_with fail
    go_ret
    rw [← HF.out] at HH ⊢
    exact next_then HH.out (((Strm.refl w).alloc _).alloc _ |>.alloc _)
  · have hs := h.resolve_left h0
    rw [hs] at c1
    have h1 : ((n : Int) == 0) = false := by simp; omega
    clear h hs
    go_enter Try.func65, Try.ntmps65
    go_wp2_with fail
    go_ret
    rw [← HF.out] at HH ⊢
    exact next_then HH.out (((Strm.refl w).alloc _).alloc _ |>.alloc _)
set_option maxHeartbeats 4000000 in
theorem shade_one_far (w : World) (R : HProp) (d lb : Nat) (S : DS) (kv : Value) (wr : Bool) (k0 n0 k1 n1 : Int) (hs : S.sh = true) (hf : farB k1 n1 = true) (H : Holds w (pt d (.cells (S.cells kv) 99 (0, 0)) * (pt lb (.cells #[.int .i64 k0, .int .i64 n0, .int .i64 k1, .int .i64 n1] 24 (0, 0)) * R))) :
    Calls Try.prog 65 #[.pointer (some ⟨d, 0, none⟩), .func (.func (thenOf wr)) #[.pointer (some ⟨d, 0, none⟩)] #[], .slice (some ⟨lb, 2, none⟩) 1 1] w (Next d kv S (.shadeB (GS.new n1 S.mark) wr) R w) := by
  have hn : ¬ n1 = 0 := by intro e; rw [e] at hf; simp [farB] at hf
  have H3 := ((H.alloc (.cells #[.pointer (some ⟨d, 0, none⟩)] 33)).alloc (.cells #[.func (.func (thenOf wr)) #[.pointer (some ⟨d, 0, none⟩)] #[]] 97)).alloc (.cells #[.slice (some ⟨lb, 2, none⟩) 1 1] 22)
  simp only [World.size_alloc] at H3
  have c1 := H.cells
  have c2 := H.drop.cells
  have hd := H.lt
  have hl := H.drop.lt
  have hd1 : d < w.heap.size + 1 := by omega
  have hd2 : d < w.heap.size + 1 + 1 := by omega
  have hl1 : lb < w.heap.size + 1 := by omega
  have hl2 : lb < w.heap.size + 1 + 1 := by omega
  have FR : Hid (∀ w, Calls Try.prog 63 #[.agg #[.int .i64 k1, .int .i64 n1]] w (Ret w (.bool true))) := fun w => by rw [← hf]; exact far_calls k1 n1 w
  have NS : Hid (∀ w R, Holds w R → Calls Try.prog 80 #[.int .i64 n1, .int .i64 S.mark] w fun e w' => ∃ s, e = .returned (.pointer (some ⟨s, 0, none⟩)) ∧ Holds w' (ShadeP s (GS.new n1 S.mark) * R) ∧ Below w.heap.size w w') := fun w R H => newShade_calls w R n1 S.mark H hn
  simp only [DS.cells, hs] at c1
  obtain ⟨f, hf'⟩ : ∃ f, thenOf wr = f := ⟨_, rfl⟩
  have HF : Hid (thenOf wr = f) := hf'
  rw [hf'] at H3 ⊢
  have HH : Hid (Holds _ _) := H3
  clear H H3 hf' hf hn
  have HS : Hid (S.sh = true) := hs
  clear hs
  go_enter Try.func65, Try.ntmps65
  go_upto_region 5 with (go_at_call 63; (with_reducible refine (FR.out _).mono ?_); rintro e w3 ⟨rfl, hb⟩; have K3 := HH.out.kept hb; have q5 := K3.cells; have q4 := K3.drop.cells; have q3 := K3.drop.drop.cells; have qd := K3.drop.drop.drop.cells; simp only [DS.cells, HS.out] at qd; have ql := K3.drop.drop.drop.drop.cells; have hz5 := K3.lt; have hz3 := K3.drop.drop.lt; have hzd := K3.drop.drop.drop.lt; have hzl := K3.drop.drop.drop.drop.lt; have s3 : Hid (Strm w w3) := ((((Strm.refl w).alloc _).alloc _).alloc _).trans (Strm.below hb); clear hb)
  have KK : Hid (Holds w3 (pt (w.heap.size + 1 + 1) (.cells #[.slice (some ⟨lb, 2, none⟩) 1 1] 22 (0, 0)) * (pt (w.heap.size + 1) (.cells #[.func (.func f) #[.pointer (some ⟨d, 0, none⟩)] #[]] 97 (0, 0)) * (pt w.heap.size (.cells #[.pointer (some ⟨d, 0, none⟩)] 33 (0, 0)) * (pt d (.cells (S.cells kv) 99 (0, 0)) * (pt lb (.cells #[.int .i64 k0, .int .i64 n0, .int .i64 k1, .int .i64 n1] 24 (0, 0)) * R)))))) := K3
  clear K3
  go_cut [7] (fun s7 wx => ∃ ps sb : Nat, s7 = .pointer (some ⟨ps, 0, none⟩) ∧ Holds wx (pt ps (.cells #[.pointer (some ⟨sb, 0, none⟩)] 137 (0, 0)) * (ShadeP sb (GS.new n1 S.mark) * (pt (w.heap.size + 1 + 1) (.cells #[.slice (some ⟨lb, 2, none⟩) 1 1] 22 (0, 0)) * (pt (w.heap.size + 1) (.cells #[.func (.func f) #[.pointer (some ⟨d, 0, none⟩)] #[]] 97 (0, 0)) * (pt w.heap.size (.cells #[.pointer (some ⟨d, 0, none⟩)] 33 (0, 0)) * (pt d (.cells (S.cells kv) 99 (0, 0)) * (pt lb (.cells #[.int .i64 k0, .int .i64 n0, .int .i64 k1, .int .i64 n1] 24 (0, 0)) * R))))))) ∧ Strm w wx)
  case first =>
    go_region_held3 (fun w' => w'.cell? ⟨w.heap.size + 1 + 1, 0, none⟩ = some (.slice (some ⟨lb, 2, none⟩) 1 1) ∧ w'.cell? ⟨w.heap.size, 0, none⟩ = some (.pointer (some ⟨d, 0, none⟩)) ∧ w'.cell? ⟨d, 12, none⟩ = some (.int .i64 S.mark) ∧ w'.cell? ⟨lb, 3, none⟩ = some (.int .i64 n1)) (first | exact ⟨q5 0, q3 0, qd 12, ql 3⟩ | exact ⟨p5 0, p3 0, pd 12, pl 3⟩ | exact ⟨e5 0, e3 0, ed 12, el 3⟩ | exact ⟨g5 0, g3 0, gd 12, gl 3⟩ | go_keep)
      (first | (go_at_call 80; (with_reducible refine (NS.out _ _ (KK.out.alloc (.cells #[.pointer none] 137)).drew).mono ?_); rintro e w4 ⟨sb, rfl, K4, hb⟩; have p5 := K4.drop.drop.cells; have p3 := K4.drop.drop.drop.drop.cells; have pd := K4.drop.drop.drop.drop.drop.cells; simp only [DS.cells, HS.out] at pd; have pl := K4.drop.drop.drop.drop.drop.drop.cells; have pb := K4.drop.cells; have fb := K4.drop.frees; have s5 : Hid (Strm w w4) := ((s3.out.alloc _).drew).trans (Strm.below hb); have K5 := (K4.cast (Q := pt w3.heap.size (.cells #[.pointer none] 137 (0, 0)) * (ShadeP sb (GS.new n1 S.mark) * (pt (w.heap.size + 1 + 1) (.cells #[.slice (some ⟨lb, 2, none⟩) 1 1] 22 (0, 0)) * (pt (w.heap.size + 1) (.cells #[.func (.func f) #[.pointer (some ⟨d, 0, none⟩)] #[]] 97 (0, 0)) * (pt w.heap.size (.cells #[.pointer (some ⟨d, 0, none⟩)] 33 (0, 0)) * (pt d (.cells (S.cells kv) 99 (0, 0)) * (pt lb (.cells #[.int .i64 k0, .int .i64 n0, .int .i64 k1, .int .i64 n1] 24 (0, 0)) * R))))))) (by ac_rfl)).set 0 (.pointer (some ⟨sb, 0, none⟩)); have e5 := K5.drop.drop.cells; have e3 := K5.drop.drop.drop.drop.cells; have ed := K5.drop.drop.drop.drop.drop.cells; simp only [DS.cells, HS.out] at ed; have el := K5.drop.drop.drop.drop.drop.drop.cells; clear hb) | (go_at_call 80; (with_reducible refine (NS.out _ _ KK.out.drew).mono ?_); rintro e w4 ⟨sb, rfl, K4, hb⟩; have g5 := K4.drop.cells; have g3 := K4.drop.drop.drop.cells; have gd := K4.drop.drop.drop.drop.cells; simp only [DS.cells, HS.out] at gd; have gl := K4.drop.drop.drop.drop.drop.cells; have lt5 := K4.drop.lt; have lt3 := K4.drop.drop.drop.lt; have ltd := K4.drop.drop.drop.drop.lt; have ltl := K4.drop.drop.drop.drop.drop.lt; have s6 : Hid (Strm w w4) := s3.out.drew.trans (Strm.below hb); clear hb))
    · go_wp2_with fail
      go_meet
      exact ⟨w4.heap.size, sb, rfl, K4.alloc _, s6.out.alloc _⟩
    · go_wp2_with fail
      go_meet
      exact ⟨w3.heap.size, sb, rfl, K5.cast (by simp only [List.setIfInBounds_toArray, List.set_cons_zero]), s5.out.set _ _⟩
  case rest =>
    obtain ⟨ps, sb, rfl, H5, s5⟩ := hcut
    have H6 := H5.alloc (.cells #[(.func (.func 81) #[] #[.pointer (some ⟨ps, 0, none⟩), .pointer (some ⟨w.heap.size, 0, none⟩), .pointer (some ⟨w.heap.size + 1, 0, none⟩), .pointer (some ⟨w.heap.size + 1 + 1, 0, none⟩), .pointer (some ⟨wc.heap.size, 0, none⟩)])] 97)
    go_wp2_with fail
    go_ret
    refine ⟨_, rfl, ?_, s5.alloc _⟩
    refine Holds.cast (P := DK.P d (.func (.func 81) #[] #[.pointer (some ⟨ps, 0, none⟩), .pointer (some ⟨w.heap.size, 0, none⟩), .pointer (some ⟨w.heap.size + 1, 0, none⟩), .pointer (some ⟨w.heap.size + 1 + 1, 0, none⟩), .pointer (some ⟨wc.heap.size, 0, none⟩)]) (.shadeB (GS.new n1 S.mark) wr) * (pt d (.cells (S.cells kv) 99 (0, 0)) * R)) ?_ (by ac_rfl)
    refine holds_ex_mk ps ?_
    refine holds_ex_mk w.heap.size ?_
    refine holds_ex_mk (w.heap.size + 1) ?_
    refine holds_ex_mk (w.heap.size + 1 + 1) ?_
    refine holds_ex_mk wc.heap.size ?_
    refine holds_ex_mk sb ?_
    refine holds_ex_mk lb ?_
    refine holds_and_mk rfl ?_
    refine holds_ex_mk k0 ?_
    refine holds_ex_mk n0 ?_
    refine holds_ex_mk k1 ?_
    refine holds_ex_mk n1 ?_
    rw [HF.out]
    exact H6.cast (by unfold ShadeP method; ac_rfl)
set_option maxHeartbeats 4000000 in
theorem shade_two_far (w : World) (R : HProp) (d lb : Nat) (S : DS) (kv : Value) (wr : Bool) (k0 n0 k1 n1 : Int) (hs : S.sh = true) (hf : farB k0 n0 = true) (H : Holds w (pt d (.cells (S.cells kv) 99 (0, 0)) * (pt lb (.cells #[.int .i64 k0, .int .i64 n0, .int .i64 k1, .int .i64 n1] 24 (0, 0)) * R))) :
    Calls Try.prog 65 #[.pointer (some ⟨d, 0, none⟩), .func (.func (thenOf wr)) #[.pointer (some ⟨d, 0, none⟩)] #[], .slice (some ⟨lb, 0, none⟩) 2 2] w (Next d kv S (.shadeA (GS.new n0 S.mark) wr k1 n1) R w) := by
  have hn : ¬ n0 = 0 := by intro e; rw [e] at hf; simp [farB] at hf
  have H3 := ((H.alloc (.cells #[.pointer (some ⟨d, 0, none⟩)] 33)).alloc (.cells #[.func (.func (thenOf wr)) #[.pointer (some ⟨d, 0, none⟩)] #[]] 97)).alloc (.cells #[.slice (some ⟨lb, 0, none⟩) 2 2] 22)
  simp only [World.size_alloc] at H3
  have c1 := H.cells
  have c2 := H.drop.cells
  have hd := H.lt
  have hl := H.drop.lt
  have hd1 : d < w.heap.size + 1 := by omega
  have hd2 : d < w.heap.size + 1 + 1 := by omega
  have hl1 : lb < w.heap.size + 1 := by omega
  have hl2 : lb < w.heap.size + 1 + 1 := by omega
  have FR : Hid (∀ w, Calls Try.prog 63 #[.agg #[.int .i64 k0, .int .i64 n0]] w (Ret w (.bool true))) := fun w => by rw [← hf]; exact far_calls k0 n0 w
  have NS : Hid (∀ w R, Holds w R → Calls Try.prog 80 #[.int .i64 n0, .int .i64 S.mark] w fun e w' => ∃ s, e = .returned (.pointer (some ⟨s, 0, none⟩)) ∧ Holds w' (ShadeP s (GS.new n0 S.mark) * R) ∧ Below w.heap.size w w') := fun w R H => newShade_calls w R n0 S.mark H hn
  simp only [DS.cells, hs] at c1
  obtain ⟨f, hf'⟩ : ∃ f, thenOf wr = f := ⟨_, rfl⟩
  have HF : Hid (thenOf wr = f) := hf'
  rw [hf'] at H3 ⊢
  have HH : Hid (Holds _ _) := H3
  clear H H3 hf' hf hn
  have HS : Hid (S.sh = true) := hs
  clear hs
  go_enter Try.func65, Try.ntmps65
  go_upto_region 5 with (go_at_call 63; (with_reducible refine (FR.out _).mono ?_); rintro e w3 ⟨rfl, hb⟩; have K3 := HH.out.kept hb; have q5 := K3.cells; have q4 := K3.drop.cells; have q3 := K3.drop.drop.cells; have qd := K3.drop.drop.drop.cells; simp only [DS.cells, HS.out] at qd; have ql := K3.drop.drop.drop.drop.cells; have hz5 := K3.lt; have hz3 := K3.drop.drop.lt; have hzd := K3.drop.drop.drop.lt; have hzl := K3.drop.drop.drop.drop.lt; have s3 : Hid (Strm w w3) := ((((Strm.refl w).alloc _).alloc _).alloc _).trans (Strm.below hb); clear hb)
  have KK : Hid (Holds w3 (pt (w.heap.size + 1 + 1) (.cells #[.slice (some ⟨lb, 0, none⟩) 2 2] 22 (0, 0)) * (pt (w.heap.size + 1) (.cells #[.func (.func f) #[.pointer (some ⟨d, 0, none⟩)] #[]] 97 (0, 0)) * (pt w.heap.size (.cells #[.pointer (some ⟨d, 0, none⟩)] 33 (0, 0)) * (pt d (.cells (S.cells kv) 99 (0, 0)) * (pt lb (.cells #[.int .i64 k0, .int .i64 n0, .int .i64 k1, .int .i64 n1] 24 (0, 0)) * R)))))) := K3
  clear K3
  go_cut [7] (fun s7 wx => ∃ ps sb : Nat, s7 = .pointer (some ⟨ps, 0, none⟩) ∧ Holds wx (pt ps (.cells #[.pointer (some ⟨sb, 0, none⟩)] 137 (0, 0)) * (ShadeP sb (GS.new n0 S.mark) * (pt (w.heap.size + 1 + 1) (.cells #[.slice (some ⟨lb, 0, none⟩) 2 2] 22 (0, 0)) * (pt (w.heap.size + 1) (.cells #[.func (.func f) #[.pointer (some ⟨d, 0, none⟩)] #[]] 97 (0, 0)) * (pt w.heap.size (.cells #[.pointer (some ⟨d, 0, none⟩)] 33 (0, 0)) * (pt d (.cells (S.cells kv) 99 (0, 0)) * (pt lb (.cells #[.int .i64 k0, .int .i64 n0, .int .i64 k1, .int .i64 n1] 24 (0, 0)) * R))))))) ∧ Strm w wx)
  case first =>
    go_region_held3 (fun w' => w'.cell? ⟨w.heap.size + 1 + 1, 0, none⟩ = some (.slice (some ⟨lb, 0, none⟩) 2 2) ∧ w'.cell? ⟨w.heap.size, 0, none⟩ = some (.pointer (some ⟨d, 0, none⟩)) ∧ w'.cell? ⟨d, 12, none⟩ = some (.int .i64 S.mark) ∧ w'.cell? ⟨lb, 1, none⟩ = some (.int .i64 n0)) (first | exact ⟨q5 0, q3 0, qd 12, ql 1⟩ | exact ⟨p5 0, p3 0, pd 12, pl 1⟩ | exact ⟨e5 0, e3 0, ed 12, el 1⟩ | exact ⟨g5 0, g3 0, gd 12, gl 1⟩ | go_keep)
      (first | (go_at_call 80; (with_reducible refine (NS.out _ _ (KK.out.alloc (.cells #[.pointer none] 137)).drew).mono ?_); rintro e w4 ⟨sb, rfl, K4, hb⟩; have p5 := K4.drop.drop.cells; have p3 := K4.drop.drop.drop.drop.cells; have pd := K4.drop.drop.drop.drop.drop.cells; simp only [DS.cells, HS.out] at pd; have pl := K4.drop.drop.drop.drop.drop.drop.cells; have pb := K4.drop.cells; have fb := K4.drop.frees; have s5 : Hid (Strm w w4) := ((s3.out.alloc _).drew).trans (Strm.below hb); have K5 := (K4.cast (Q := pt w3.heap.size (.cells #[.pointer none] 137 (0, 0)) * (ShadeP sb (GS.new n0 S.mark) * (pt (w.heap.size + 1 + 1) (.cells #[.slice (some ⟨lb, 0, none⟩) 2 2] 22 (0, 0)) * (pt (w.heap.size + 1) (.cells #[.func (.func f) #[.pointer (some ⟨d, 0, none⟩)] #[]] 97 (0, 0)) * (pt w.heap.size (.cells #[.pointer (some ⟨d, 0, none⟩)] 33 (0, 0)) * (pt d (.cells (S.cells kv) 99 (0, 0)) * (pt lb (.cells #[.int .i64 k0, .int .i64 n0, .int .i64 k1, .int .i64 n1] 24 (0, 0)) * R))))))) (by ac_rfl)).set 0 (.pointer (some ⟨sb, 0, none⟩)); have e5 := K5.drop.drop.cells; have e3 := K5.drop.drop.drop.drop.cells; have ed := K5.drop.drop.drop.drop.drop.cells; simp only [DS.cells, HS.out] at ed; have el := K5.drop.drop.drop.drop.drop.drop.cells; clear hb) | (go_at_call 80; (with_reducible refine (NS.out _ _ KK.out.drew).mono ?_); rintro e w4 ⟨sb, rfl, K4, hb⟩; have g5 := K4.drop.cells; have g3 := K4.drop.drop.drop.cells; have gd := K4.drop.drop.drop.drop.cells; simp only [DS.cells, HS.out] at gd; have gl := K4.drop.drop.drop.drop.drop.cells; have lt5 := K4.drop.lt; have lt3 := K4.drop.drop.drop.lt; have ltd := K4.drop.drop.drop.drop.lt; have ltl := K4.drop.drop.drop.drop.drop.lt; have s6 : Hid (Strm w w4) := s3.out.drew.trans (Strm.below hb); clear hb))
    · go_wp2_with fail
      go_meet
      exact ⟨w4.heap.size, sb, rfl, K4.alloc _, s6.out.alloc _⟩
    · go_wp2_with fail
      go_meet
      exact ⟨w3.heap.size, sb, rfl, K5.cast (by simp only [List.setIfInBounds_toArray, List.set_cons_zero]), s5.out.set _ _⟩
  case rest =>
    obtain ⟨ps, sb, rfl, H5, s5⟩ := hcut
    have H6 := H5.alloc (.cells #[(.func (.func 81) #[] #[.pointer (some ⟨ps, 0, none⟩), .pointer (some ⟨w.heap.size, 0, none⟩), .pointer (some ⟨w.heap.size + 1, 0, none⟩), .pointer (some ⟨w.heap.size + 1 + 1, 0, none⟩), .pointer (some ⟨wc.heap.size, 0, none⟩)])] 97)
    go_wp2_with fail
    go_ret
    refine ⟨_, rfl, ?_, s5.alloc _⟩
    refine Holds.cast (P := DK.P d (.func (.func 81) #[] #[.pointer (some ⟨ps, 0, none⟩), .pointer (some ⟨w.heap.size, 0, none⟩), .pointer (some ⟨w.heap.size + 1, 0, none⟩), .pointer (some ⟨w.heap.size + 1 + 1, 0, none⟩), .pointer (some ⟨wc.heap.size, 0, none⟩)]) (.shadeA (GS.new n0 S.mark) wr k1 n1) * (pt d (.cells (S.cells kv) 99 (0, 0)) * R)) ?_ (by ac_rfl)
    refine holds_ex_mk ps ?_
    refine holds_ex_mk w.heap.size ?_
    refine holds_ex_mk (w.heap.size + 1) ?_
    refine holds_ex_mk (w.heap.size + 1 + 1) ?_
    refine holds_ex_mk wc.heap.size ?_
    refine holds_ex_mk sb ?_
    refine holds_ex_mk lb ?_
    refine holds_and_mk rfl ?_
    refine holds_ex_mk k0 ?_
    refine holds_ex_mk n0 ?_
    refine holds_ex_mk k1 ?_
    refine holds_ex_mk n1 ?_
    refine holds_and_mk ⟨rfl, rfl⟩ ?_
    rw [HF.out]
    exact H6.cast (by unfold ShadeP method; ac_rfl)
set_option maxHeartbeats 4000000 in
theorem shade_one_near (w : World) (R : HProp) (d lb : Nat) (S : DS) (kv : Value) (wr : Bool) (k0 n0 k1 n1 : Int) (K : DK) (hs : S.sh = true) (hf : farB k1 n1 = false) (H : Holds w (pt d (.cells (S.cells kv) 99 (0, 0)) * (pt lb (.cells #[.int .i64 k0, .int .i64 n0, .int .i64 k1, .int .i64 n1] 24 (0, 0)) * R)))
    (HC : ∀ w R, Holds w (pt d (.cells (S.cells kv) 99 (0, 0)) * (pt lb (.cells #[.int .i64 k0, .int .i64 n0, .int .i64 k1, .int .i64 n1] 24 (0, 0)) * R)) → Calls Try.prog 65 #[.pointer (some ⟨d, 0, none⟩), .func (.func (thenOf wr)) #[.pointer (some ⟨d, 0, none⟩)] #[], .slice (some ⟨lb, 2, none⟩) 0 0] w (Next d kv S K R w)) :
    Calls Try.prog 65 #[.pointer (some ⟨d, 0, none⟩), .func (.func (thenOf wr)) #[.pointer (some ⟨d, 0, none⟩)] #[], .slice (some ⟨lb, 2, none⟩) 1 1] w (Next d kv S K R w) := by
  have H3 := ((H.alloc (.cells #[.pointer (some ⟨d, 0, none⟩)] 33)).alloc (.cells #[.func (.func (thenOf wr)) #[.pointer (some ⟨d, 0, none⟩)] #[]] 97)).alloc (.cells #[.slice (some ⟨lb, 2, none⟩) 1 1] 22)
  simp only [World.size_alloc] at H3
  have c1 := H.cells
  have c2 := H.drop.cells
  have hd := H.lt
  have hl := H.drop.lt
  have hd1 : d < w.heap.size + 1 := by omega
  have hd2 : d < w.heap.size + 1 + 1 := by omega
  have hl1 : lb < w.heap.size + 1 := by omega
  have hl2 : lb < w.heap.size + 1 + 1 := by omega
  have FR : Hid (∀ w, Calls Try.prog 63 #[.agg #[.int .i64 k1, .int .i64 n1]] w (Ret w (.bool false))) := fun w => by rw [← hf]; exact far_calls k1 n1 w
  simp only [DS.cells, hs] at c1
  obtain ⟨f, hf'⟩ : ∃ f, thenOf wr = f := ⟨_, rfl⟩
  rw [hf'] at H3 HC ⊢
  have HCC : Hid (∀ w R, Holds w (pt d (.cells (S.cells kv) 99 (0, 0)) * (pt lb (.cells #[.int .i64 k0, .int .i64 n0, .int .i64 k1, .int .i64 n1] 24 (0, 0)) * R)) → Calls Try.prog 65 #[.pointer (some ⟨d, 0, none⟩), .func (.func f) #[.pointer (some ⟨d, 0, none⟩)] #[], .slice (some ⟨lb, 2, none⟩) 0 0] w (Next d kv S K R w)) := HC
  have HH : Hid (Holds _ _) := H3
  have HS : Hid (S.sh = true) := hs
  clear H H3 hf' hf hs HC
  go_enter Try.func65, Try.ntmps65
  go_wp2_with (go_at_call 63; (with_reducible refine (FR.out _).mono ?_); rintro e w3 ⟨rfl, hb⟩; have K3 := HH.out.kept hb; have q5 := K3.cells; have q4 := K3.drop.cells; have q3 := K3.drop.drop.cells; have qd := K3.drop.drop.drop.cells; simp only [DS.cells, HS.out] at qd; have ql := K3.drop.drop.drop.drop.cells; have s3 : Hid (Strm w w3) := ((((Strm.refl w).alloc _).alloc _).alloc _).trans (Strm.below hb); clear hb)
  go_region_held3 (fun w' => w'.cell? ⟨w.heap.size + 1 + 1, 0, none⟩ = some (.slice (some ⟨lb, 2, none⟩) 1 1) ∧ w'.cell? ⟨w.heap.size + 1, 0, none⟩ = some (.func (.func f) #[.pointer (some ⟨d, 0, none⟩)] #[]) ∧ w'.cell? ⟨w.heap.size, 0, none⟩ = some (.pointer (some ⟨d, 0, none⟩))) (first | exact ⟨q5 0, q4 0, q3 0⟩ | exact ⟨p5 0, p4 0, p3 0⟩)
    (first | (go_at_call 65; (with_reducible refine (HCC.out _ (pt (w.heap.size + 1 + 1) (.cells #[.slice (some ⟨lb, 2, none⟩) 1 1] 22 (0, 0)) * (pt (w.heap.size + 1) (.cells #[.func (.func f) #[.pointer (some ⟨d, 0, none⟩)] #[]] 97 (0, 0)) * (pt w.heap.size (.cells #[.pointer (some ⟨d, 0, none⟩)] 33 (0, 0)) * R))) (K3.drew.cast (by ac_rfl))).mono ?_); rintro e w4 ⟨kv', rfl, K4, s4⟩; have K5 := K4.cast (Q := pt (w.heap.size + 1 + 1) (.cells #[.slice (some ⟨lb, 2, none⟩) 1 1] 22 (0, 0)) * (pt (w.heap.size + 1) (.cells #[.func (.func f) #[.pointer (some ⟨d, 0, none⟩)] #[]] 97 (0, 0)) * (pt w.heap.size (.cells #[.pointer (some ⟨d, 0, none⟩)] 33 (0, 0)) * (pt d (.cells (S.cells kv) 99 (0, 0)) * (DK.P d kv' K * R))))) (by ac_rfl); have p5 := K5.cells; have p4 := K5.drop.cells; have p3 := K5.drop.drop.cells))
  go_wp2_with fail
  go_ret
  exact ⟨kv', rfl, K5.drop.drop.drop, s3.out.trans ((Strm.refl _).drew.trans s4)⟩
set_option maxHeartbeats 4000000 in
theorem shade_two_near (w : World) (R : HProp) (d lb : Nat) (S : DS) (kv : Value) (wr : Bool) (k0 n0 k1 n1 : Int) (K : DK) (hs : S.sh = true) (hf : farB k0 n0 = false) (H : Holds w (pt d (.cells (S.cells kv) 99 (0, 0)) * (pt lb (.cells #[.int .i64 k0, .int .i64 n0, .int .i64 k1, .int .i64 n1] 24 (0, 0)) * R)))
    (HC : ∀ w R, Holds w (pt d (.cells (S.cells kv) 99 (0, 0)) * (pt lb (.cells #[.int .i64 k0, .int .i64 n0, .int .i64 k1, .int .i64 n1] 24 (0, 0)) * R)) → Calls Try.prog 65 #[.pointer (some ⟨d, 0, none⟩), .func (.func (thenOf wr)) #[.pointer (some ⟨d, 0, none⟩)] #[], .slice (some ⟨lb, 2, none⟩) 1 1] w (Next d kv S K R w)) :
    Calls Try.prog 65 #[.pointer (some ⟨d, 0, none⟩), .func (.func (thenOf wr)) #[.pointer (some ⟨d, 0, none⟩)] #[], .slice (some ⟨lb, 0, none⟩) 2 2] w (Next d kv S K R w) := by
  have H3 := ((H.alloc (.cells #[.pointer (some ⟨d, 0, none⟩)] 33)).alloc (.cells #[.func (.func (thenOf wr)) #[.pointer (some ⟨d, 0, none⟩)] #[]] 97)).alloc (.cells #[.slice (some ⟨lb, 0, none⟩) 2 2] 22)
  simp only [World.size_alloc] at H3
  have c1 := H.cells
  have c2 := H.drop.cells
  have hd := H.lt
  have hl := H.drop.lt
  have hd1 : d < w.heap.size + 1 := by omega
  have hd2 : d < w.heap.size + 1 + 1 := by omega
  have hl1 : lb < w.heap.size + 1 := by omega
  have hl2 : lb < w.heap.size + 1 + 1 := by omega
  have FR : Hid (∀ w, Calls Try.prog 63 #[.agg #[.int .i64 k0, .int .i64 n0]] w (Ret w (.bool false))) := fun w => by rw [← hf]; exact far_calls k0 n0 w
  simp only [DS.cells, hs] at c1
  obtain ⟨f, hf'⟩ : ∃ f, thenOf wr = f := ⟨_, rfl⟩
  rw [hf'] at H3 HC ⊢
  have HCC : Hid (∀ w R, Holds w (pt d (.cells (S.cells kv) 99 (0, 0)) * (pt lb (.cells #[.int .i64 k0, .int .i64 n0, .int .i64 k1, .int .i64 n1] 24 (0, 0)) * R)) → Calls Try.prog 65 #[.pointer (some ⟨d, 0, none⟩), .func (.func f) #[.pointer (some ⟨d, 0, none⟩)] #[], .slice (some ⟨lb, 2, none⟩) 1 1] w (Next d kv S K R w)) := HC
  have HH : Hid (Holds _ _) := H3
  have HS : Hid (S.sh = true) := hs
  clear H H3 hf' hf hs HC
  go_enter Try.func65, Try.ntmps65
  go_wp2_with (go_at_call 63; (with_reducible refine (FR.out _).mono ?_); rintro e w3 ⟨rfl, hb⟩; have K3 := HH.out.kept hb; have q5 := K3.cells; have q4 := K3.drop.cells; have q3 := K3.drop.drop.cells; have qd := K3.drop.drop.drop.cells; simp only [DS.cells, HS.out] at qd; have ql := K3.drop.drop.drop.drop.cells; have s3 : Hid (Strm w w3) := ((((Strm.refl w).alloc _).alloc _).alloc _).trans (Strm.below hb); clear hb)
  go_region_held3 (fun w' => w'.cell? ⟨w.heap.size + 1 + 1, 0, none⟩ = some (.slice (some ⟨lb, 0, none⟩) 2 2) ∧ w'.cell? ⟨w.heap.size + 1, 0, none⟩ = some (.func (.func f) #[.pointer (some ⟨d, 0, none⟩)] #[]) ∧ w'.cell? ⟨w.heap.size, 0, none⟩ = some (.pointer (some ⟨d, 0, none⟩))) (first | exact ⟨q5 0, q4 0, q3 0⟩ | exact ⟨p5 0, p4 0, p3 0⟩)
    (first | (go_at_call 65; (with_reducible refine (HCC.out _ (pt (w.heap.size + 1 + 1) (.cells #[.slice (some ⟨lb, 0, none⟩) 2 2] 22 (0, 0)) * (pt (w.heap.size + 1) (.cells #[.func (.func f) #[.pointer (some ⟨d, 0, none⟩)] #[]] 97 (0, 0)) * (pt w.heap.size (.cells #[.pointer (some ⟨d, 0, none⟩)] 33 (0, 0)) * R))) (K3.drew.cast (by ac_rfl))).mono ?_); rintro e w4 ⟨kv', rfl, K4, s4⟩; have K5 := K4.cast (Q := pt (w.heap.size + 1 + 1) (.cells #[.slice (some ⟨lb, 0, none⟩) 2 2] 22 (0, 0)) * (pt (w.heap.size + 1) (.cells #[.func (.func f) #[.pointer (some ⟨d, 0, none⟩)] #[]] 97 (0, 0)) * (pt w.heap.size (.cells #[.pointer (some ⟨d, 0, none⟩)] 33 (0, 0)) * (pt d (.cells (S.cells kv) 99 (0, 0)) * (DK.P d kv' K * R))))) (by ac_rfl); have p5 := K5.cells; have p4 := K5.drop.cells; have p3 := K5.drop.drop.cells))
  go_wp2_with fail
  go_ret
  exact ⟨kv', rfl, K5.drop.drop.drop, s3.out.trans ((Strm.refl _).drew.trans s4)⟩
theorem next_drop {d lb : Nat} {kv : Value} {S : DS} {K : DK} {R P : HProp} {w : World} {e : Ending} {w' : World} (h : Next d kv S K (P * R) w e w') : Next d kv S K R w e w' := by
  obtain ⟨kv', rfl, H, s⟩ := h
  exact ⟨kv', rfl, (H.cast (Q := P * (pt d (.cells (S.cells kv) 99 (0, 0)) * (DK.P d kv' K * R))) (by ac_rfl)).drop, s⟩
theorem shade_one (w : World) (R : HProp) (d lb : Nat) (S : DS) (kv : Value) (wr : Bool) (k0 n0 k1 n1 : Int) (H : Holds w (pt d (.cells (S.cells kv) 99 (0, 0)) * (pt lb (.cells #[.int .i64 k0, .int .i64 n0, .int .i64 k1, .int .i64 n1] 24 (0, 0)) * R))) :
    Calls Try.prog 65 #[.pointer (some ⟨d, 0, none⟩), .func (.func (thenOf wr)) #[.pointer (some ⟨d, 0, none⟩)] #[], .slice (some ⟨lb, 2, none⟩) 1 1] w (Next d kv S (shadeK1 S wr k1 n1) R w) := by
  unfold shadeK1
  cases hs : S.sh with
  | false =>
    rw [if_neg (by simp)]
    exact (shade_quick w _ d S kv wr _ 1 1 (Or.inr hs) (by omega) H).mono fun e w' h => next_drop (lb := lb) h
  | true =>
    cases hf : farB k1 n1 with
    | true => rw [if_pos ⟨rfl, rfl⟩]; exact shade_one_far w R d lb S kv wr k0 n0 k1 n1 hs hf H
    | false =>
      rw [if_neg (by simp)]
      exact shade_one_near w R d lb S kv wr k0 n0 k1 n1 _ hs hf H fun w R H => (shade_quick w _ d S kv wr _ 0 0 (Or.inl rfl) (by omega) H).mono fun e w' h => next_drop (lb := lb) h
theorem shade_two (w : World) (R : HProp) (d lb : Nat) (S : DS) (kv : Value) (wr : Bool) (k0 n0 k1 n1 : Int) (H : Holds w (pt d (.cells (S.cells kv) 99 (0, 0)) * (pt lb (.cells #[.int .i64 k0, .int .i64 n0, .int .i64 k1, .int .i64 n1] 24 (0, 0)) * R))) :
    Calls Try.prog 65 #[.pointer (some ⟨d, 0, none⟩), .func (.func (thenOf wr)) #[.pointer (some ⟨d, 0, none⟩)] #[], .slice (some ⟨lb, 0, none⟩) 2 2] w (Next d kv S (shadeK2 S wr k0 n0 k1 n1) R w) := by
  unfold shadeK2
  cases hs : S.sh with
  | false =>
    rw [if_neg (by simp)]
    unfold shadeK1
    rw [hs, if_neg (by simp)]
    exact (shade_quick w _ d S kv wr _ 2 2 (Or.inr hs) (by omega) H).mono fun e w' h => next_drop (lb := lb) h
  | true =>
    cases hf : farB k0 n0 with
    | true => rw [if_pos ⟨rfl, rfl⟩]; exact shade_two_far w R d lb S kv wr k0 n0 k1 n1 hs hf H
    | false =>
      rw [if_neg (by simp)]
      exact shade_two_near w R d lb S kv wr k0 n0 k1 n1 _ hs hf H fun w R H => shade_one w R d lb S kv wr k0 n0 k1 n1 H
end Go.Proofs.Ytfapicccijbanaa.Mem
