/- What is proved: the evaluator of code over a heap that is described block by block: what it finds holds of the call, in every order that a region may draw. Conditions: the evaluator's own premises. -/
import Derived.Test.YtfapicccijbanaaEvHeap
import Derived.LoopN
import Derived.Scope
namespace Go.Proofs.Ytfapicccijbanaa.Ev
open Go Go.Proofs.Ytfapicccijbanaa.Sep
set_option linter.unusedVariables false
set_option linter.unusedSimpArgs false
section
variable {A : Type} [Abs A]
/-- What the evaluator finds: an end; two ways; something that has to hold; a new block; two orders. -/
inductive Leaf (A : Type) where
  | val (v : SV) (H : SH A) (n : Nat)
  | stop (e : Exit) (fr : List SV) (H : SH A) (n : Nat)
inductive Tree (A : Type) where
  | done (x : Leaf A)
  | loop (c : Code) (fr : List SV) (H : SH A) (n : Nat) (K : Exit → List SV → SH A → Nat → Tree A)
  | ite (c : Bool) (a b : Tree A)
  | need (p : Prop) (t : Tree A)
  | new (f : Nat → Tree A)
  | both (a b : Tree A)
  | fail
/-- A loop, from a frame and a heap on: what it comes to by an exit. -/
def LoopSays [Abs A] (P : Program) (c : Code) (fr : List SV) (H : SH A) (Z : Exit → List SV → SH A → Nat → Prop) : Prop :=
  ∀ (w : World) (R : HProp) (Q : Exit → Act → World → Prop), Holds w (hden H * R) → (∀ e fr' H' n' w', Z e fr' H' n' → Holds w' (hden H' * R) → Strm w w' → Q e ⟨fden fr', []⟩ w') → (Code.loop c).wp P Q ⟨fden fr, []⟩ w
def Tree.Leads [Abs A] (P : Program) : Tree A → (Leaf A → Prop) → Prop
  | .done x, L => L x
  | .loop c fr H n K, L => LoopSays P c fr H fun e fr' H' n' => (K e fr' H' n').Leads P L
  | .ite c a b, L => (c = true → a.Leads P L) ∧ (c = false → b.Leads P L)
  | .need p t, L => p ∧ t.Leads P L
  | .new f, L => ∀ b, (f b).Leads P L
  | .both a b, L => a.Leads P L ∧ b.Leads P L
  | .fail, _ => False
def needs : List Prop → Tree A → Tree A
  | [], t => t
  | p :: ps, t => .need p (needs ps t)
theorem needs_leads {P : Program} {L : Leaf A → Prop} : ∀ {ps : List Prop} {t : Tree A}, (needs ps t).Leads P L → (∀ p ∈ ps, p) ∧ t.Leads P L
  | [], t, h => ⟨fun p hp => (by cases hp), h⟩
  | p :: ps, t, h => by
    obtain ⟨h1, h2⟩ := h
    obtain ⟨h3, h4⟩ := needs_leads h2
    exact ⟨fun q hq => by
      rcases List.mem_cons.1 hq with rfl | hq
      · exact h1
      · exact h3 q hq, h4⟩
/-- What holds of itself: for short. -/
def same : List Nat → Tree A → Tree A
  | [], t => t
  | b :: r, t => .need (b = b) (same r t)
def sameC : List SC → Tree A → Tree A
  | [], t => t
  | c :: r, t => .need (c.den = c.den) (sameC r t)
theorem same_leads {P : Program} {L : Leaf A → Prop} : ∀ (l : List Nat) (t : Tree A), (same l t).Leads P L = t.Leads P L
  | [], t => rfl
  | b :: r, t => by show (_ ∧ (same r t).Leads P L) = _; rw [same_leads r t]; simp
theorem sameC_leads {P : Program} {L : Leaf A → Prop} : ∀ (l : List SC) (t : Tree A), (sameC l t).Leads P L = t.Leads P L
  | [], t => rfl
  | b :: r, t => by show (_ ∧ (sameC r t).Leads P L) = _; rw [sameC_leads r t]; simp
abbrev Kont (A : Type) := SV → SH A → Nat → Tree A
abbrev Caller (A : Type) := Nat → List SV → SH A → Nat → Kont A → Tree A
/-- A call by the evaluator holds of the program. -/
def CallerOk (P : Program) (call : Caller A) : Prop :=
  ∀ f args H n k (L : Leaf A → Prop), (call f args H n k).Leads P L → ∀ (w : World) (R : HProp), Holds w (hden H * R) → ∀ Q : Ending → World → Prop,
    (∀ v H' n' w', (k v H' n').Leads P L → Holds w' (hden H' * R) → Strm w w' → Q (.returned v.den) w') → Calls P f (args.map SV.den).toArray w Q
def isBody (P : Program) [Fast P] (f : Nat) : Bool :=
  match Fast.func P f with
  | some fn => fn.body.isSome
  | none => false
def argsV (fr : List SV) : List Operand → List SV
  | [] => []
  | x :: l => opnd fr x :: argsV fr l
theorem argsV_den (fr : List SV) (ds : List Deferred) : ∀ l, l.map (⟨fden fr, ds⟩ : Act).eval = (argsV fr l).map SV.den
  | [] => rfl
  | x :: l => by simp only [List.map_cons, argsV, ← argsV_den fr ds l]; rw [opnd_den]
def ptrV (p : Nat × Nat × Nat) : SV := .c (.ptr p.1 p.2.1 p.2.2)
theorem ptrV_den (l : List (Nat × Nat × Nat)) : (l.map ptrV).map SV.den = l.map pden := by
  rw [List.map_map]; rfl
/-! ### operations without memory, together -/
def pureOp (P : Program) [Fast P] (fr : List SV) (o : Oper) : Option (List Prop × SV) :=
  match o.op with
  | .move x => some ([], opnd fr x)
  | .assign x => some ([], opnd fr x)
  | .pick c a b =>
    match opnd fr c with
    | .a (.one (.bool (.lit c))) => some ([], bif c then opnd fr a else opnd fr b)
    | _ => none
  | .nilCheck x =>
    match opnd fr x with
    | .a (.one (.ptr nm b o)) => some ([], .c (.ptr nm b o))
    | .a (.one (.func f a c)) => some ([], .c (.func f a c))
    | _ => none
  | .build t parts =>
    match partsA fr parts.toList with
    | some r => (builtC P t r).map fun l => ([], .a (.agg l))
    | none => none
  | .binOp op t x y _ => binV P op t (opnd fr x) (opnd fr y)
  | .unOp op _ x => unV op (opnd fr x)
  | .convert s d x => convV P s d (opnd fr x)
  | .makeFunc (.func f) first cap =>
    match ptrsA fr first.toList, ptrsA fr cap.toList with
    | some a, some c => some ([], .c (.func f a c))
    | _, _ => none
  | .slice t x lo hi mx => sliceV P fr t (opnd fr x) lo hi mx
  | .fieldAddr s x f => fieldAddrV P s (opnd fr x) f
  | .field t x f => fieldV P t (opnd fr x) f
  | .indexAddr t x i => indexAddrV P t (opnd fr x) (opnd fr i)
  | .index t x i => indexV P t (opnd fr x) (opnd fr i)
  | .extract x i => extractV (opnd fr x) i
  | .call c =>
    match c.callee, c.args.toList, c.argTypes.toList with
    | .builtin .len, [x], [t] =>
      match Fast.und P t, opnd fr x with
      | some (.slice _), .a (.one (.slice _ _ _ (.lit n) _)) => some ([], .c (.int .i64 (.lit (n : Int))))
      | some (.slice _), .a (.one (.slice _ _ _ (.sym n) _)) => some ([], .c (.int .i64 (.sym (n : Int))))
      | some (.slice _), .a (.one .snil) => some ([], .c (.int .i64 (.lit 0)))
      | some (.array n _), _ => some ([], .c (.int .i64 (.lit (n : Int))))
      | _, _ => none
    | _, _, _ => none
  | _ => none
theorem run_pureOp {P : Program} [Fast P] {fr : List SV} {o : Oper} {ps : List Prop} {v : SV} (h : pureOp P fr o = some (ps, v)) (hp : ∀ p ∈ ps, p) (ds : List Deferred) (w : World) :
    (execOp (⟨fden fr, ds⟩ : Act).eval o).run P w = .ok (.value v.den) w := by
  unfold pureOp at h
  unfold execOp
  split at h
  · rename_i x ho
    simp at h; obtain ⟨rfl, rfl⟩ := h
    simp [ho, opnd_den]
  · rename_i x ho
    simp at h; obtain ⟨rfl, rfl⟩ := h
    simp [ho, opnd_den]
  · rename_i c a b ho
    split at h
    · rename_i c' hc
      simp at h; obtain ⟨rfl, rfl⟩ := h
      simp only [ho, opnd_den, hc, SV.den, SA.den, SC.den, SB.v, asBool]
      cases c' <;> simp <;> rfl
    · simp at h
  · rename_i x ho
    split at h
    · rename_i nm b off hx
      simp at h; obtain ⟨rfl, rfl⟩ := h
      simp only [ho, opnd_den, hx]
      rfl
    · rename_i f a c hx
      simp at h; obtain ⟨rfl, rfl⟩ := h
      simp only [ho, opnd_den, hx]
      rfl
    · simp at h
  · rename_i t parts ho
    split at h
    · rename_i r hr
      cases hb : builtC P t r with
      | none => rw [hb] at h; simp at h
      | some l =>
        rw [hb] at h
        simp at h; obtain ⟨rfl, rfl⟩ := h
        simp only [ho]
        have h1 := partsA_den fr ds parts.toList r hr
        have h2 := builtC_den hb
        rw [← h1] at h2
        have h3 : (Instr.build t (parts.map fun (i, x) => (i, (⟨fden fr, ds⟩ : Act).eval x))).run P w = .ok (.agg (dens l)) w := run_build w t _ _ (by simpa using h2)
        simp only [Sem.run_bind, h3, Result.andThen_ok, Sem.run_pure]
        rfl
    · simp at h
  · rename_i op t x y ty ho
    have := run_binV h hp x y w
    simp only [ho, opnd_den]
    rw [Sem.run_bind, this]
    rfl
  · rename_i op t x ho
    have := run_unV (P := P) h hp w
    simp only [ho, opnd_den]
    rw [Sem.run_bind, this]
    rfl
  · rename_i s d x ho
    have := run_convV h w
    simp only [ho, opnd_den]
    rw [Sem.run_bind, this]
    rfl
  · rename_i f first cap ho
    split at h
    · rename_i a c ha hc
      simp at h; obtain ⟨rfl, rfl⟩ := h
      have h1 := ptrsA_den fr ds _ _ ha
      have h2 := ptrsA_den fr ds _ _ hc
      simp only [ho, Instr.makeFunc]
      have e1 : first.map (⟨fden fr, ds⟩ : Act).eval = (a.map pden).toArray := by rw [← h1, ← Array.toList_inj, Array.toList_map]
      have e2 : cap.map (⟨fden fr, ds⟩ : Act).eval = (c.map pden).toArray := by rw [← h2, ← Array.toList_inj, Array.toList_map]
      rw [e1, e2]
      rfl
    · simp at h
  · rename_i t x lo hi mx ho
    have := run_sliceV h ds w
    simp only [ho, opnd_den]
    rw [Sem.run_bind, this]
    rfl
  · rename_i s x f ho
    have := run_fieldAddrV h w
    simp only [ho, opnd_den]
    rw [Sem.run_bind, this]
    rfl
  · rename_i t x f ho
    have := run_fieldV h w
    simp only [ho, opnd_den]
    rw [Sem.run_bind, this]
    rfl
  · rename_i t x i ho
    have := run_indexAddrV h hp w
    simp only [ho, opnd_den]
    rw [Sem.run_bind, this]
    rfl
  · rename_i t x i ho
    have := run_indexV h hp w
    simp only [ho, opnd_den]
    rw [Sem.run_bind, this]
    rfl
  · rename_i x i ho
    have := run_extractV (P := P) h w
    simp only [ho, opnd_den]
    rw [Sem.run_bind, this]
    rfl
  · rename_i c ho
    split at h
    · rename_i x t hcal hargs htys
      have ha : c.args = #[x] := by rw [← Array.toList_inj]; simpa using hargs
      have ht : c.argTypes = #[t] := by rw [← Array.toList_inj]; simpa using htys
      have key : ∀ {n : Int}, (Builtin.len_ #[t] o.type #[(opnd fr x).den]).run P w = .ok (.int .i64 n) w → (execOp (⟨fden fr, ds⟩ : Act).eval o).run P w = .ok (.value (.int .i64 n)) w := by
        intro n hn
        unfold execOp
        simp only [ho, resolve, hcal, ha, ht, Sem.run_bind, Sem.run_pure, Result.andThen_ok, invoke, builtin]
        simp only [List.map_toArray, List.map_cons, List.map_nil, opnd_den, hn, Result.andThen_ok]
      split at h
      · rename_i e nm b off n cap hu hx
        simp at h; obtain ⟨rfl, rfl⟩ := h
        exact key (by simp [hx, Builtin.len_, run_underlying' hu, SV.den, SA.den, SC.den, SN.v, SI.v, goInt])
      · rename_i e nm b off n cap hu hx
        simp at h; obtain ⟨rfl, rfl⟩ := h
        exact key (by simp [hx, Builtin.len_, run_underlying' hu, SV.den, SA.den, SC.den, SN.v, SI.v, goInt])
      · rename_i e hu hx
        simp at h; obtain ⟨rfl, rfl⟩ := h
        exact key (by simp [hx, Builtin.len_, run_underlying' hu, SV.den, SA.den, SC.den, SN.v, SI.v, goInt])
      · rename_i n e hu
        simp at h; obtain ⟨rfl, rfl⟩ := h
        exact key (by simp [Builtin.len_, run_underlying' hu, SI.v, goInt])
      · simp at h
    · simp at h
  · simp at h
end
end Go.Proofs.Ytfapicccijbanaa.Ev
