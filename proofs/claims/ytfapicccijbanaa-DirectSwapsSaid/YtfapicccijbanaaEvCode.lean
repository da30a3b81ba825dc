/- What is proved: the evaluator of code over a heap that is described block by block: what it finds holds of the call, in every order that a region may draw. Conditions: the evaluator's own premises. -/
import Derived.Test.YtfapicccijbanaaEvTree
namespace Go.Proofs.Ytfapicccijbanaa.Ev
open Go Go.Proofs.Ytfapicccijbanaa.Sep
set_option linter.unusedVariables false
set_option linter.unusedSimpArgs false
section
variable {A : Type} [Abs A]
/-! ### one operation -/
def evOp (P : Program) [Fast P] (call : Caller A) (o : Oper) (fr : List SV) (H : SH A) (n : Nat) (k : Kont A) : Tree A :=
  match pureOp P fr o with
  | some (ps, v) => needs ps (k v H n)
  | none =>
    match o.op with
    | .load t x =>
      match loadV P t H (opnd fr x) with
      | some (ps, v) => needs ps (k v H n)
      | none => .fail
    | .store t x y =>
      match storeV P t H (opnd fr x) (opnd fr y) with
      | some (ps, H') => needs ps (k .un H' n)
      | none => .fail
    | .alloc t =>
      match zeroC P t with
      | some l => .new fun b => k (.c (.ptr n b 0)) ((n, b, .cells l t) :: H) (n + 1)
      | none => .fail
    | .box t x =>
      match opnd fr x with
      | .a x => bif x.plain then .new fun b => k (.c (.ptr n b 0)) ((n, b, .cells x.cells t) :: H) (n + 1) else .fail
      | _ => .fail
    | .buildSlice t len parts =>
      match partsA fr parts.toList with
      | some r =>
        match sliceC P t len r with
        | some (e, l) => .new fun b => k (.c (.slice n b 0 (.lit len) (.lit len))) ((n, b, .cells l e) :: H) (n + 1)
        | none => .fail
      | none => .fail
    | .pick c a b =>
      match opnd fr c with
      | .a (.one (.bool (.sym c))) => .ite c (k (opnd fr a) H n) (k (opnd fr b) H n)
      | _ => .fail
    | .call c =>
      match c.callee with
      | .value f =>
        match opnd fr f with
        | .a (.one (.func f first cap)) => bif isBody P f then call f (first.map ptrV ++ (argsV fr c.args.toList ++ cap.map ptrV)) H n k else .fail
        | _ => .fail
      | _ => .fail
    | _ => .fail
def NoGos (P : Program) : Prop := ∀ (f : Nat) (fn : Func), P.funcs[f]? = some fn → (fn.name == "runtime.NumGoroutine") = false
theorem run_callFunc {P : Program} [Fast P] (hn : NoGos P) {f : Nat} (hb : isBody P f = true) (args : Array Value) (w : World) : (callFunc f args).run P w = .ok (.enter f args) w := by
  unfold isBody at hb
  cases hf0 : Fast.func P f with
  | none => rw [hf0] at hb; cases hb
  | some fn =>
    rw [hf0] at hb
    have hf := Fast.func_ok hf0
    have h1 := hn f fn hf
    unfold callFunc
    have h1' : ¬ fn.name = "runtime.NumGoroutine" := by simpa using h1
    have h2 : ¬ fn.body = none := by intro h; simp only [h] at hb; cases hb
    simp [hf, h1', h2]
theorem evOp_ok {P : Program} [Fast P] (hn : NoGos P) {call : Caller A} (hcall : CallerOk P call) {o : Oper} {fr : List SV} {H : SH A} {n : Nat} {k : Kont A} {L : Leaf A → Prop}
    (hl : (evOp P call o fr H n k).Leads P L) {w : World} {R : HProp} (hw : Holds w (hden H * R)) {next : Act → World → Prop} {Q : Exit → Act → World → Prop}
    (hk : ∀ v H' n' w', (k v H' n').Leads P L → Holds w' (hden H' * R) → Strm w w' → next ⟨fden (fput fr o.dst v), []⟩ w') : o.wp P ⟨fden fr, []⟩ w next Q := by
  unfold evOp at hl
  split at hl
  · rename_i ps v hp
    obtain ⟨h1, h2⟩ := needs_leads hl
    unfold Oper.wp
    rw [run_pureOp hp h1 [] w]
    simp only [Oper.upon, fput_den]
    exact hk v H n w h2 hw (Strm.refl w)
  · split at hl
    · rename_i t x ho
      split at hl
      · rename_i ps v hld
        obtain ⟨h1, h2⟩ := needs_leads hl
        have h3 := run_loadV hld h1 hw
        unfold Oper.wp execOp
        simp only [ho, opnd_den, Sem.run_bind, h3, Result.andThen_ok, Sem.run_pure, Oper.upon, fput_den]
        exact hk v H n w h2 hw (Strm.refl w)
      · exact hl.elim
    · rename_i t x y ho
      split at hl
      · rename_i ps H' hst
        obtain ⟨h1, h2⟩ := needs_leads hl
        obtain ⟨w', h3, h4, h5⟩ := run_storeV hst h1 hw
        unfold Oper.wp execOp
        simp only [ho, opnd_den, Sem.run_bind, h3, Result.andThen_ok, Sem.run_pure, Oper.upon]
        rw [← un_den, fput_den]
        exact hk .un H' n w' h2 h4 h5
      · exact hl.elim
    · rename_i t ho
      split at hl
      · rename_i l hz
        unfold Oper.wp execOp
        simp only [ho, Sem.run_bind, run_alloc' hz, Result.andThen_ok, Sem.run_pure, Oper.upon]
        rw [show Value.pointer (some ⟨w.heap.size, 0, none⟩) = (SV.c (.ptr n w.heap.size 0)).den from rfl, fput_den]
        exact hk _ _ _ _ (hl w.heap.size) (alloc_holds hw l t n) ((Strm.refl w).alloc _)
      · exact hl.elim
    · rename_i t x ho
      split at hl
      · rename_i y hx
        cases hp : y.plain with
        | false => rw [hp] at hl; exact hl.elim
        | true =>
          rw [hp] at hl
          unfold Oper.wp execOp
          have e : (opnd fr x).den = y.den := by rw [hx]; rfl
          simp only [ho, opnd_den, e, Sem.run_bind, run_box' hp, Result.andThen_ok, Sem.run_pure, Oper.upon]
          rw [show Value.pointer (some ⟨w.heap.size, 0, none⟩) = (SV.c (.ptr n w.heap.size 0)).den from rfl, fput_den]
          exact hk _ _ _ _ (hl w.heap.size) (alloc_holds hw y.cells t n) ((Strm.refl w).alloc _)
      · exact hl.elim
    · rename_i t len parts ho
      split at hl
      · rename_i r hr
        split at hl
        · rename_i e l hs
          have h1 := partsA_den fr [] parts.toList r hr
          have h2 : (parts.map fun (i, x) => (i, (⟨fden fr, []⟩ : Act).eval x)) = (r.map fun p => (p.1, p.2.den)).toArray := by rw [← h1, ← Array.toList_inj, Array.toList_map]
          unfold Oper.wp execOp
          simp only [ho, h2, Sem.run_bind, run_sliceC hs, Result.andThen_ok, Sem.run_pure, Oper.upon]
          rw [show Value.slice (some ⟨w.heap.size, 0, none⟩) len len = (SV.c (.slice n w.heap.size 0 (.lit len) (.lit len))).den from rfl, fput_den]
          exact hk _ _ _ _ (hl w.heap.size) (alloc_holds hw l e n) ((Strm.refl w).alloc _)
        · exact hl.elim
      · exact hl.elim
    · rename_i c a b ho
      split at hl
      · rename_i c' hc
        obtain ⟨h1, h2⟩ := hl
        unfold Oper.wp execOp
        have e : (opnd fr c).den = .bool c' := by rw [hc]; rfl
        simp only [ho, opnd_den, e, asBool]
        cases hc' : c' with
        | true =>
          simp only [Sem.run_bind, Sem.run_pure, Result.andThen_ok, if_true, Oper.upon, fput_den]
          exact hk _ _ _ _ (h1 hc') hw (Strm.refl w)
        | false =>
          simp only [Sem.run_bind, Sem.run_pure, Result.andThen_ok, Bool.false_eq_true, if_false, Oper.upon, fput_den]
          exact hk _ _ _ _ (h2 hc') hw (Strm.refl w)
      · exact hl.elim
    · rename_i c ho
      split at hl
      · rename_i f hcal
        split at hl
        · rename_i f' first cap hf
          cases hb : isBody P f' with
          | false => rw [hb] at hl; exact hl.elim
          | true =>
            rw [hb] at hl
            have e : (opnd fr f).den = .func (.func f') (first.map pden).toArray (cap.map pden).toArray := by rw [hf]; rfl
            have ea : c.args.map (⟨fden fr, []⟩ : Act).eval = ((argsV fr c.args.toList).map SV.den).toArray := by
              rw [← argsV_den fr [] c.args.toList, ← Array.toList_inj, Array.toList_map]
            unfold Oper.wp execOp
            simp only [ho, resolve, hcal, opnd_den, e, Deferred.ofValue, Sem.run_bind, Sem.run_pure, Result.andThen_ok, invoke, ea, run_callFunc hn hb, Oper.upon]
            have hc := hcall f' _ H n k L hl w R hw (fun e w' => ∃ v, e = .returned v.den ∧ next ⟨fden (fput fr o.dst v), []⟩ w')
              (fun v H' n' w' h1 h2 h3 => ⟨v, rfl, hk v H' n' w' h1 h2 h3⟩)
            have eargs : (first.map pden).toArray ++ ((argsV fr c.args.toList).map SV.den).toArray ++ (cap.map pden).toArray = ((first.map ptrV ++ (argsV fr c.args.toList ++ cap.map ptrV)).map SV.den).toArray := by
              simp only [List.map_append, ptrV_den]
              simp
            rw [eargs]
            refine hc.mono ?_
            rintro e' w' ⟨v, rfl, h⟩
            simp only [fput_den]
            exact h
        · exact hl.elim
      · exact hl.elim
    · exact hl.elim
/-! ### a region in the text's order -/
inductive Gd where
  | yes | no | bad
  | fork (d : Nat) (c want : Bool)
def gd (ops : List Oper) (fr : List SV) : Option (Nat × Bool) → Gd
  | none => .yes
  | some (j, want) =>
    match ops[j]? with
    | some o =>
      match o.dst with
      | some d =>
        match fr[d]? with
        | some (.a (.one (.bool (.lit b)))) => bif b == want then .yes else .no
        | some (.a (.one (.bool (.sym c)))) => .fork d c want
        | some (.a (.one (.raw _))) => .bad
        | _ => .no
      | none => .no
    | none => .no
theorem set_same {fr : List SV} {d : Nat} {v u : SV} (h : fr[d]? = some u) (e : u.den = v.den) : fden (fr.set d v) = fden fr := by
  unfold fden
  rw [List.map_set, ← e]
  congr 1
  apply List.ext_getElem?
  intro i
  rw [List.getElem?_set]
  split
  · rename_i hi; subst hi
    split
    · simp [h]
    · rename_i hlt; simp at hlt; simp [hlt]
  · rfl
theorem yielded_fden (ops : List Oper) (fr : List SV) (j : Nat) {o : Oper} {d : Nat} (ho : ops[j]? = some o) (hd : o.dst = some d) {v : SV} (hv : fr[d]? = some v) :
    yielded ops.toArray (fden fr) j = match v.den with | .bool b => some b | _ => none := by
  unfold yielded
  have : (fden fr)[d]? = some v.den := by simp [fden, hv]
  simp only [List.getElem?_toArray, ho, Option.bind_some, hd, this]
  cases v.den <;> rfl
theorem wanted_den {ops : List Oper} {fr : List SV} {o : Oper} : (gd ops fr o.guard = .yes → Region.wanted o (yielded ops.toArray (fden fr)) = true) ∧ (gd ops fr o.guard = .no → Region.wanted o (yielded ops.toArray (fden fr)) = false) := by
  unfold Region.wanted gd
  cases hg : o.guard with
  | none => simp
  | some q =>
    obtain ⟨j, want⟩ := q
    simp only
    cases ho : ops[j]? with
    | none => simp [yielded, ho]
    | some oj =>
      simp only
      cases hd : oj.dst with
      | none => simp [yielded, ho, hd]
      | some d =>
        simp only
        cases hv : fr[d]? with
        | none => simp [yielded, ho, hd, fden, hv]
        | some v =>
          rw [yielded_fden ops fr j ho hd hv]
          cases v with
          | tup l => simp [SV.den]
          | a x =>
            cases x with
            | agg l => simp [SV.den, SA.den]
            | one c =>
              cases c <;> simp [SV.den, SA.den, SC.den]
              case bool b =>
                cases b with
                | lit b => cases b <;> cases want <;> simp [SB.v]
                | sym c => simp
end
end Go.Proofs.Ytfapicccijbanaa.Ev
