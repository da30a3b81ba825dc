/- What is proved: the machine direct.Direct as a part of the heap; contracts of load, far, read, fix, Hit, Result, NewDirect. Conditions: stated with each contract. -/
import Derived.Test.YtfapicccijbanaaSame
namespace Go.Proofs.Ytfapicccijbanaa.Mem
open Go Go.RowKit Go.Proofs.Ytfapicccijbanaa.Sep Go.Proofs.Ytfapicccijbanaa.Num
set_option maxRecDepth 100000
set_option linter.unusedVariables false
set_option linter.unusedSimpArgs false
attribute [local go_sem] eqlF_nil neqF_nil eqlF_fn neqF_fn
/-- A machine that shades: grey.Shade. -/
structure GS where
  at_ : Int
  mark : Int
  pc : Int
  w : Int
  h : HV
def GS.cells (s : GS) : Array Value := #[.int .i64 s.at_, .int .i64 s.mark, .int .i64 s.pc, .int .u64 s.w, .int .i64 s.h.st, .int .i64 s.h.cl, .int .i64 s.h.ct, .int .i64 s.h.mr, .int .i64 s.h.gr, .int .i64 s.h.tg, .int .i64 s.h.lk]
/-- What a Direct does next. -/
inductive DK where
  | fin | read | fix | old | write | look | swap
  | canA (vk vn : Int)
  | canB (a : Int)
  | shadeA (s : GS) (wr : Bool) (rk rn : Int)
  | shadeB (s : GS) (wr : Bool)
structure DS where
  k : DK
  fld : Int
  op : Int
  at_ : Int
  rf : Int
  ek : Int
  en : Int
  nk : Int
  nn : Int
  sh : Bool
  ca : Bool
  fx : Bool
  mark : Int
  w : Int
  hit : Bool
  code : Int
  vk : Int
  vn : Int
  yes : Bool
def DS.cells (S : DS) (kv : Value) : Array Value :=
  #[kv, .int .i64 S.fld, .int .i64 S.op, .int .i64 S.at_, .int .i64 S.rf, .int .i64 S.ek, .int .i64 S.en, .int .i64 S.nk, .int .i64 S.nn, .bool S.sh, .bool S.ca, .bool S.fx, .int .i64 S.mark, .int .u64 S.w, .bool S.hit, .int .i64 S.code, .int .i64 S.vk, .int .i64 S.vn, .bool S.yes]
/-- What is done behind the shading: the write, or the swap. -/
def thenOf (wr : Bool) : Nat := if wr then 44 else 83
def method (f d : Nat) : Value := .func (.func f) #[.pointer (some ⟨d, 0, none⟩)] #[]
def DK.P (d : Nat) (kv : Value) : DK → HProp
  | .fin => fun h => kv = .nilFunc ∧ emp h
  | .read => fun h => kv = method 42 d ∧ emp h
  | .fix => fun h => kv = method 64 d ∧ emp h
  | .old => fun h => kv = method 43 d ∧ emp h
  | .write => fun h => kv = method 44 d ∧ emp h
  | .look => fun h => kv = method 45 d ∧ emp h
  | .swap => fun h => kv = method 83 d ∧ emp h
  | .canA vk vn => fun h => ∃ pv px, kv = .func (.func 68) #[] #[.pointer (some ⟨pv, 0, none⟩), .pointer (some ⟨px, 0, none⟩)] ∧
      (pt pv (.cells #[.int .i64 vk, .int .i64 vn] 24 (0, 0)) * pt px (.cells #[.pointer (some ⟨d, 0, none⟩)] 33 (0, 0))) h
  | .canB a => fun h => ∃ px pa, kv = .func (.func 69) #[] #[.pointer (some ⟨px, 0, none⟩), .pointer (some ⟨pa, 0, none⟩)] ∧
      (pt px (.cells #[.pointer (some ⟨d, 0, none⟩)] 33 (0, 0)) * pt pa (.cells #[.int .i64 a] 3 (0, 0))) h
  | .shadeA s wr rk rn => fun h => ∃ ps pd pf pl po sb lb, kv = .func (.func 81) #[] #[.pointer (some ⟨ps, 0, none⟩), .pointer (some ⟨pd, 0, none⟩), .pointer (some ⟨pf, 0, none⟩), .pointer (some ⟨pl, 0, none⟩), .pointer (some ⟨po, 0, none⟩)] ∧ ∃ a0 b0 a1 b1 : Int, (a1 = rk ∧ b1 = rn) ∧ (pt ps (.cells #[.pointer (some ⟨sb, 0, none⟩)] 137 (0, 0)) * (pt sb (.cells s.cells 146 (0, 0)) * (pt pd (.cells #[.pointer (some ⟨d, 0, none⟩)] 33 (0, 0)) * (pt pf (.cells #[method (thenOf wr) d] 97 (0, 0)) * (pt pl (.cells #[.slice (some ⟨lb, 0, none⟩) 2 2] 22 (0, 0)) * (pt po (.cells #[kv] 97 (0, 0)) * pt lb (.cells #[.int .i64 a0, .int .i64 b0, .int .i64 a1, .int .i64 b1] 24 (0, 0)))))))) h
  | .shadeB s wr => fun h => ∃ ps pd pf pl po sb lb, kv = .func (.func 81) #[] #[.pointer (some ⟨ps, 0, none⟩), .pointer (some ⟨pd, 0, none⟩), .pointer (some ⟨pf, 0, none⟩), .pointer (some ⟨pl, 0, none⟩), .pointer (some ⟨po, 0, none⟩)] ∧ ∃ a0 b0 a1 b1 : Int, (pt ps (.cells #[.pointer (some ⟨sb, 0, none⟩)] 137 (0, 0)) * (pt sb (.cells s.cells 146 (0, 0)) * (pt pd (.cells #[.pointer (some ⟨d, 0, none⟩)] 33 (0, 0)) * (pt pf (.cells #[method (thenOf wr) d] 97 (0, 0)) * (pt pl (.cells #[.slice (some ⟨lb, 2, none⟩) 1 1] 22 (0, 0)) * (pt po (.cells #[kv] 97 (0, 0)) * pt lb (.cells #[.int .i64 a0, .int .i64 b0, .int .i64 a1, .int .i64 b1] 24 (0, 0)))))))) h
def DirP (d : Nat) (S : DS) : HProp := fun h => ∃ kv, (pt d (.cells (S.cells kv) 99 (0, 0)) * DK.P d kv S.k) h
def DK.isFin : DK → Bool | .fin => true | _ => false
def farB (k n : Int) : Bool := k == 1 && n != 0
/-- Where the method lies that a plain state calls. -/
def DK.fn : DK → Option Nat
  | .read => some 42
  | .fix => some 64
  | .old => some 43
  | .write => some 44
  | .look => some 45
  | .swap => some 83
  | _ => none
theorem dirP_open {w : World} {R : HProp} {d : Nat} {S : DS} (H : Holds w (DirP d S * R)) : ∃ kv, Holds w (pt d (.cells (S.cells kv) 99 (0, 0)) * (DK.P d kv S.k * R)) := by
  obtain ⟨kv, H⟩ := holds_ex H
  exact ⟨kv, H.cast (by ac_rfl)⟩
theorem dirP_close {w : World} {R : HProp} {d : Nat} {S : DS} {kv : Value} (H : Holds w (pt d (.cells (S.cells kv) 99 (0, 0)) * (DK.P d kv S.k * R))) : Holds w (DirP d S * R) :=
  holds_ex_mk kv (H.cast (by ac_rfl))
theorem dk_fin {w : World} {R : HProp} {d : Nat} {kv : Value} : Holds w (DK.P d kv .fin * R) ↔ (kv = .nilFunc ∧ Holds w R) := by
  constructor
  · intro H; obtain ⟨h, H⟩ := holds_and H; exact ⟨h, H.drop⟩
  · rintro ⟨h, H⟩; exact holds_and_mk h (H.cast (star_empl _).symm)
theorem dk_method {w : World} {R : HProp} {d f : Nat} {kv : Value} {k : DK} (hf : k.fn = some f) : Holds w (DK.P d kv k * R) ↔ (kv = method f d ∧ Holds w R) := by
  cases k <;> simp only [DK.fn, Option.some.injEq, reduceCtorEq] at hf <;> subst hf <;>
  · constructor
    · intro H; obtain ⟨h, H⟩ := holds_and H; exact ⟨h, H.drop⟩
    · rintro ⟨h, H⟩; exact holds_and_mk h (H.cast (star_empl _).symm)

/-! ### far, load -/
set_option maxHeartbeats 1000000 in
theorem far_calls (k n : Int) (w : World) : Calls Try.prog 63 #[.agg #[.int .i64 k, .int .i64 n]] w (Ret w (.bool (farB k n))) := by
  by_cases h1 : k = 1
  · subst h1
    go_enter Try.func63, Try.ntmps63
    go_wp2_with fail
    go_ret
    exact ⟨by simp [farB], (Below.refl _ _).alloc (Nat.le_refl _) _⟩
  · have h1' : (k == 1) = false := by simpa using h1
    go_enter Try.func63, Try.ntmps63
    go_wp2_with fail
    go_ret
    exact ⟨by simp [farB, h1'], (Below.refl _ _).alloc (Nat.le_refl _) _⟩
set_option maxHeartbeats 2000000 in
theorem load_dcalls (w : World) (R : HProp) (mb d : Nat) (M : MS) (S : DS) (kv : Value) (hok : M.ok) (H : Holds w (MemP 120 mb M * (pt d (.cells (S.cells kv) 99 (0, 0)) * R))) :
    Calls Try.prog 62 #[.pointer (some ⟨d, 0, none⟩), .pointer (some ⟨mb, 0, none⟩)] w fun e w' =>
      e = .returned (.agg #[.int .i64 (vK (M.load S.fld)), .int .i64 (vN (M.load S.fld))]) ∧ Holds w' (MemP 120 mb (M.loaded S.fld) * (pt d (.cells (({ S with w := M.load S.fld } : DS).cells kv) 99 (0, 0)) * R)) ∧ Strm w w' := by
  obtain ⟨k, fld, op, at_, rf, ek, en, nk, nn, sh, ca, fx, mark, fw, hit, code, vk, vn, yes⟩ := S
  simp only [DS.cells] at H ⊢
  have L : Hid (∀ w R, Holds w (MemP 120 mb M * R) → Calls Try.prog 18 #[.pointer (some ⟨mb, 0, none⟩), .int .i64 fld] w fun e w' => e = .returned (.int .u64 (M.load fld)) ∧ Holds w' (MemP 120 mb (M.loaded fld) * R) ∧ Strm w w') := fun w R H => load_calls w R mb M fld H hok
  have V : Hid (∀ w, Calls Try.prog 79 #[.int .u64 (M.load fld)] w (Ret w (.agg #[.int .i64 (vK (M.load fld)), .int .i64 (vN (M.load fld))]))) := fun w => slotOf_calls _ w (load_rng M hok fld).1 (load_rng M hok fld).2
  generalize M.load fld = x at L V ⊢
  generalize vK x = a at V ⊢
  generalize vN x = b at V ⊢
  have H0 := H.alloc (.cells #[.int .i64 0, .int .i64 0] 24)
  have c0 := (H.cast (Q := pt d (.cells (#[kv, .int .i64 fld, .int .i64 op, .int .i64 at_, .int .i64 rf, .int .i64 ek, .int .i64 en, .int .i64 nk, .int .i64 nn, .bool sh, .bool ca, .bool fx, .int .i64 mark, .int .u64 fw, .bool hit, .int .i64 code, .int .i64 vk, .int .i64 vn, .bool yes]) 99 (0, 0)) * (MemP 120 mb M * R)) (by ac_rfl)).cells
  have hd : d < w.heap.size := (H.cast (Q := pt d (.cells (#[kv, .int .i64 fld, .int .i64 op, .int .i64 at_, .int .i64 rf, .int .i64 ek, .int .i64 en, .int .i64 nk, .int .i64 nn, .bool sh, .bool ca, .bool fx, .int .i64 mark, .int .u64 fw, .bool hit, .int .i64 code, .int .i64 vk, .int .i64 vn, .bool yes]) 99 (0, 0)) * (MemP 120 mb M * R)) (by ac_rfl)).lt
  have HH : Hid (Holds _ (MemP 120 mb M * (pt d (.cells (#[kv, .int .i64 fld, .int .i64 op, .int .i64 at_, .int .i64 rf, .int .i64 ek, .int .i64 en, .int .i64 nk, .int .i64 nn, .bool sh, .bool ca, .bool fx, .int .i64 mark, .int .u64 fw, .bool hit, .int .i64 code, .int .i64 vk, .int .i64 vn, .bool yes]) 99 (0, 0)) * (pt w.heap.size (.cells #[.int .i64 0, .int .i64 0] 24 (0, 0)) * R)))) := H0.cast (by ac_rfl)
  clear H H0 hok
  go_enter Try.func62, Try.ntmps62
  go_wp2_with (first | (go_at_call 18; (refine (L.out _ _ HH.out).mono ?_); rintro e w2 ⟨rfl, H2, s2⟩; have H3 := H2.cast (Q := pt d (.cells (#[kv, .int .i64 fld, .int .i64 op, .int .i64 at_, .int .i64 rf, .int .i64 ek, .int .i64 en, .int .i64 nk, .int .i64 nn, .bool sh, .bool ca, .bool fx, .int .i64 mark, .int .u64 fw, .bool hit, .int .i64 code, .int .i64 vk, .int .i64 vn, .bool yes]) 99 (0, 0)) * (pt w.heap.size (.cells #[.int .i64 0, .int .i64 0] 24 (0, 0)) * (MemP 120 mb (M.loaded fld) * R))) (by ac_rfl); have c2 := H3.cells; have f2 := H3.frees; have H4 := H3.set 13 (.int .u64 x)) | (go_at_call 79; (with_reducible refine (V.out _).mono ?_); rintro e w3 ⟨rfl, hb⟩; have H5 := H4.kept hb; have H6 := H5.cast (Q := pt w.heap.size (.cells #[.int .i64 0, .int .i64 0] 24 (0, 0)) * (pt d (.cells (#[kv, .int .i64 fld, .int .i64 op, .int .i64 at_, .int .i64 rf, .int .i64 ek, .int .i64 en, .int .i64 nk, .int .i64 nn, .bool sh, .bool ca, .bool fx, .int .i64 mark, .int .u64 x, .bool hit, .int .i64 code, .int .i64 vk, .int .i64 vn, .bool yes]) 99 (0, 0)) * (MemP 120 mb (M.loaded fld) * R))) (by simp only [List.setIfInBounds_toArray, List.set_cons_succ, List.set_cons_zero]; ac_rfl); have c6 := H6.cells; have f6 := H6.frees; have s6 : Hid (Strm w w3) := ((((Strm.refl w).alloc _).trans s2).set _ _).trans (Strm.below hb); have H7 := (H6.set 0 (.int .i64 a)).set 1 (.int .i64 b); clear hb))
  exact bodyPost_ret (v := .agg #[.int .i64 a, .int .i64 b]) (by simp [results, Try.results62, go_sem, c6]) rfl ⟨rfl, H7.drop.cast (by ac_rfl), (s6.out.set _ _).set _ _⟩
end Go.Proofs.Ytfapicccijbanaa.Mem
