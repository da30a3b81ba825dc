/- What is proved: the evaluator of code over a heap that is described block by block: regions in the text's order and in any order, loops, calls. Conditions: the evaluator's own premises. -/
import Derived.Test.YtfapicccijbanaaEvCode
namespace Go.Proofs.Ytfapicccijbanaa.Ev
open Go Go.Proofs.Ytfapicccijbanaa.Sep
set_option linter.unusedVariables false
set_option linter.unusedSimpArgs false
section
variable {A : Type}
/-! ### what is handed on is laid open first: else the kernel reckons it anew each time -/
def frcC (c : SC) (k : SC → Tree A) : Tree A :=
  match c with
  | .int j (.lit n) => k (.int j (.lit n))
  | .int j (.sym n) => k (.int j (.sym n))
  | .bool (.lit b) => k (.bool (.lit b))
  | .bool (.sym b) => k (.bool (.sym b))
  | c => k c
def frcCs : List SC → (List SC → Tree A) → Tree A
  | [], k => k []
  | c :: r, k => frcC c fun c => frcCs r fun r => k (c :: r)
def frcA (x : SA) (k : SA → Tree A) : Tree A :=
  match x with
  | .one c => frcC c fun c => k (.one c)
  | .agg l => frcCs l fun l => k (.agg l)
def frcAs : List SA → (List SA → Tree A) → Tree A
  | [], k => k []
  | c :: r, k => frcA c fun c => frcAs r fun r => k (c :: r)
def frcV (v : SV) (k : SV → Tree A) : Tree A :=
  match v with
  | .a x => frcA x fun x => k (.a x)
  | .tup l => frcAs l fun l => k (.tup l)
def frcL : List SV → (List SV → Tree A) → Tree A
  | [], k => k []
  | v :: r, k => frcL r fun r => k (v :: r)
def frcH : SH A → (SH A → Tree A) → Tree A
  | [], k => k []
  | (n, b, .cells l T) :: r, k => frcCs l fun l => frcH r fun r => k ((n, b, .cells l T) :: r)
  | (n, b, o) :: r, k => frcH r fun r => k ((n, b, o) :: r)
theorem frcC_eq (c : SC) (k : SC → Tree A) : frcC c k = k c := by unfold frcC; split <;> rfl
theorem frcCs_eq : ∀ (l : List SC) (k : List SC → Tree A), frcCs l k = k l
  | [], k => rfl
  | c :: r, k => by unfold frcCs; rw [frcC_eq, frcCs_eq r]
theorem frcA_eq (x : SA) (k : SA → Tree A) : frcA x k = k x := by
  cases x with
  | one c => exact frcC_eq c fun c => k (.one c)
  | agg l => exact frcCs_eq l fun l => k (.agg l)
theorem frcAs_eq : ∀ (l : List SA) (k : List SA → Tree A), frcAs l k = k l
  | [], k => rfl
  | c :: r, k => by unfold frcAs; rw [frcA_eq, frcAs_eq r]
theorem frcV_eq (v : SV) (k : SV → Tree A) : frcV v k = k v := by
  cases v with
  | a x => exact frcA_eq x fun x => k (.a x)
  | tup l => exact frcAs_eq l fun l => k (.tup l)
theorem frcL_eq : ∀ (l : List SV) (k : List SV → Tree A), frcL l k = k l
  | [], k => rfl
  | c :: r, k => by unfold frcL; rw [frcL_eq r]
theorem frcH_eq : ∀ (H : SH A) (k : SH A → Tree A), frcH H k = k H
  | [], k => rfl
  | (n, b, o) :: r, k => by
    cases o with
    | cells l T => unfold frcH; rw [frcCs_eq, frcH_eq r]
    | row ws T => unfold frcH; rw [frcH_eq r]
    | abs x => unfold frcH; rw [frcH_eq r]
/-- On with the frame that has v in its place, and the heap. -/
def goOn (v : SV) (fr : List SV) (d : Option Tmp) (H : SH A) (k : List SV → SH A → Tree A) : Tree A :=
  frcV v fun v => frcL (fput fr d v) fun fr => frcH H fun H => k fr H
theorem goOn_eq (v : SV) (fr : List SV) (d : Option Tmp) (H : SH A) (k : List SV → SH A → Tree A) : goOn v fr d H k = k (fput fr d v) H := by
  unfold goOn; rw [frcV_eq, frcL_eq, frcH_eq]
end
section
variable {A : Type} [Abs A]
abbrev KontF (A : Type) := List SV → SH A → Nat → Tree A
def allT : List Nat → (Nat → Tree A) → Tree A
  | [], _ => .fail
  | [i], t => t i
  | i :: r, t => .both (t i) (allT r t)
theorem allT_leads {P : Program} {t : Nat → Tree A} {L : Leaf A → Prop} : ∀ {l : List Nat}, (allT l t).Leads P L → ∀ i ∈ l, (t i).Leads P L
  | [], h, i, hi => by cases hi
  | [j], h, i, hi => by
    rcases List.mem_singleton.1 hi with rfl
    exact h
  | j :: k :: r, h, i, hi => by
    obtain ⟨h1, h2⟩ := h
    rcases List.mem_cons.1 hi with rfl | hi
    · exact h1
    · exact allT_leads h2 i hi
/-- The operations of a region, one behind the other. -/
def evList (P : Program) [Fast P] (call : Caller A) (ops : List Oper) : List Oper → List SV → SH A → Nat → KontF A → Tree A
  | [], fr, H, n, K => K fr H n
  | o :: rest, fr, H, n, K =>
    match gd ops fr o.guard with
    | .yes => evOp P call o fr H n fun v H n => goOn v fr o.dst H fun fr H => evList P call ops rest fr H n K
    | .no => evList P call ops rest (fput fr o.dst .un) H n K
    | .fork d c want =>
      .ite c
        (bif want then evOp P call o (fr.set d (.c (.bool (.lit true)))) H n fun v H n => goOn v (fr.set d (.c (.bool (.lit true)))) o.dst H fun fr H => evList P call ops rest fr H n K
          else evList P call ops rest (fput (fr.set d (.c (.bool (.lit true)))) o.dst .un) H n K)
        (bif want then evList P call ops rest (fput (fr.set d (.c (.bool (.lit false)))) o.dst .un) H n K
          else evOp P call o (fr.set d (.c (.bool (.lit false)))) H n fun v H n => goOn v (fr.set d (.c (.bool (.lit false)))) o.dst H fun fr H => evList P call ops rest fr H n K)
    | .bad => .fail
theorem gd_fork {ops : List Oper} {fr : List SV} {g : Option (Nat × Bool)} {d : Nat} {c want : Bool} (h : gd ops fr g = .fork d c want) :
    ∃ j o, g = some (j, want) ∧ ops[j]? = some o ∧ o.dst = some d ∧ fr[d]? = some (.c (.bool (.sym c))) := by
  unfold gd at h
  cases hg : g with
  | none => rw [hg] at h; simp at h
  | some q =>
    obtain ⟨j, w⟩ := q
    rw [hg] at h
    simp only at h
    cases ho : ops[j]? with
    | none => rw [ho] at h; simp at h
    | some o =>
      rw [ho] at h
      simp only at h
      cases hd : o.dst with
      | none => rw [hd] at h; simp at h
      | some d' =>
        rw [hd] at h
        simp only at h
        split at h
        · rename_i b hv
          cases hb : (b == w) <;> rw [hb] at h <;> simp at h
        · rename_i c' hv
          simp at h
          obtain ⟨rfl, rfl, rfl⟩ := h
          exact ⟨j, o, rfl, ho, hd, hv⟩
        · simp at h
        · simp at h
theorem gd_set {ops : List Oper} {fr : List SV} {d : Nat} {c want b : Bool} {o : Oper} (h : gd ops fr o.guard = .fork d c want) :
    gd ops (fr.set d (.c (.bool (.lit b)))) o.guard = (bif b == want then .yes else .no) := by
  obtain ⟨j, oj, hg, ho, hd, hv⟩ := gd_fork h
  have hlt : d < fr.length := by
    rcases Nat.lt_or_ge d fr.length with h | h
    · exact h
    · rw [List.getElem?_eq_none h] at hv; cases hv
  unfold gd
  rw [hg]
  simp only [ho, hd, List.getElem?_set_self hlt]
theorem evList_ok {P : Program} [Fast P] (hn : NoGos P) {call : Caller A} (hcall : CallerOk P call) {ops : List Oper} {L : Leaf A → Prop} {R : HProp} {Q : Exit → Act → World → Prop} {K : KontF A} :
    ∀ (l : List Oper) (fr : List SV) (H : SH A) (n : Nat) (w : World), (evList P call ops l fr H n K).Leads P L → Holds w (hden H * R) →
      (∀ fr' H' n' w', (K fr' H' n').Leads P L → Holds w' (hden H' * R) → Strm w w' → Q .normal ⟨fden fr', []⟩ w') → wpList P ops.toArray Q l ⟨fden fr, []⟩ w
  | [], fr, H, n, w, hl, hw, hk => hk fr H n w hl hw (Strm.refl w)
  | o :: rest, fr, H, n, w, hl, hw, hk => by
    have yes : ∀ (fr1 : List SV), gd ops fr1 o.guard = .yes → (evOp P call o fr1 H n fun v H n => goOn v fr1 o.dst H fun fr H => evList P call ops rest fr H n K).Leads P L → wpList P ops.toArray Q (o :: rest) ⟨fden fr1, []⟩ w := by
      intro fr1 hg hl
      have hwant := wanted_den.1 hg
      unfold wpList
      rw [if_pos hwant]
      left
      refine evOp_ok hn hcall hl hw fun v H' n' w' h1 h2 h3 => ?_
      rw [goOn_eq] at h1
      exact evList_ok hn hcall rest _ H' n' w' h1 h2 fun fr' H' n' w'' k1 k2 k3 => hk fr' H' n' w'' k1 k2 (h3.trans k3)
    have no : ∀ (fr1 : List SV), gd ops fr1 o.guard = .no → (evList P call ops rest (fput fr1 o.dst .un) H n K).Leads P L → wpList P ops.toArray Q (o :: rest) ⟨fden fr1, []⟩ w := by
      intro fr1 hg hl
      have hwant := wanted_den.2 hg
      unfold wpList
      rw [if_neg (by rw [hwant]; simp)]
      show wpList P ops.toArray Q rest ((⟨fden fr1, []⟩ : Act).put o.dst undef) w
      rw [← un_den, fput_den]
      exact evList_ok hn hcall rest _ H n w hl hw hk
    unfold evList at hl
    cases hg : gd ops fr o.guard with
    | yes => rw [hg] at hl; exact yes fr hg hl
    | no => rw [hg] at hl; exact no fr hg hl
    | bad => rw [hg] at hl; exact hl.elim
    | fork d c want =>
      rw [hg] at hl
      obtain ⟨h1, h2⟩ := hl
      obtain ⟨j, oj, _, _, _, hv⟩ := gd_fork hg
      cases hc : c with
      | true =>
        have e : fden (fr.set d (.c (.bool (.lit true)))) = fden fr := set_same hv (by rw [hc]; rfl)
        have hs := gd_set (b := true) hg
        have h1' := h1 hc
        rw [← e]
        cases want with
        | true => exact yes _ hs h1'
        | false => exact no _ hs h1'
      | false =>
        have e : fden (fr.set d (.c (.bool (.lit false)))) = fden fr := set_same hv (by rw [hc]; rfl)
        have hs := gd_set (b := false) hg
        have h2' := h2 hc
        rw [← e]
        cases want with
        | true => exact no _ hs h2'
        | false => exact yes _ hs h2'

/-! ### a region in any order: cells that nobody of it writes are held -/
abbrev Held := List (Nat × Nat × Nat × SC)
def heldS (S : Held) (w : World) : Prop := ∀ x ∈ S, w.cell? ⟨x.2.1, x.2.2.1, none⟩ = some x.2.2.2.den
def heldP (H : SH A) : Held → Option (List Prop)
  | [] => some []
  | (nm, b, off, c) :: r =>
    match find H nm, heldP H r with
    | some (b', .cells l _), some ps =>
      match l[off]? with
      | some c' => some ((b' = b) :: (c'.den = c.den) :: ps)
      | none => none
    | _, _ => none
theorem heldP_ok {H : SH A} {w : World} {R : HProp} (hw : Holds w (hden H * R)) : ∀ (S : Held) (ps : List Prop), heldP H S = some ps → (∀ p ∈ ps, p) → heldS S w
  | [], ps, h, hp => fun x hx => (by cases hx)
  | (nm, b, off, c) :: r, ps, h, hp => by
    unfold heldP at h
    split at h
    · rename_i b' l T ps' hf hr
      cases hl : l[off]? with
      | none => rw [hl] at h; simp at h
      | some c' =>
        rw [hl] at h
        simp at h
        subst h
        have h1 : b' = b := hp _ (by simp)
        have h2 : c'.den = c.den := hp _ (by simp)
        have h3 := heldP_ok hw r ps' hr (fun p hp' => hp p (by simp [hp']))
        have hw1 : Holds w (pt b' (.cells (dens l) T (0, 0)) * (hden (del H nm) * R)) := focus hf hw
        intro x hx
        rcases List.mem_cons.1 hx with rfl | hx
        · show w.cell? ⟨b, off, none⟩ = some c.den
          rw [← h1, hw1.cells, ← h2]
          simp [dens, hl]
        · exact h3 x hx
    · simp at h
def lookS : Held → Nat → Nat → Option (Nat × SC)
  | [], _, _ => none
  | (nm, b, off, c) :: r, m, o => bif Nat.beq nm m && Nat.beq off o then some (b, c) else lookS r m o
theorem lookS_mem : ∀ {S : Held} {m o b : Nat} {c : SC}, lookS S m o = some (b, c) → (m, b, o, c) ∈ S
  | [], _, _, _, _, h => by simp [lookS] at h
  | (nm, b', off, c') :: r, m, o, b, c, h => by
    unfold lookS at h
    cases hc : (Nat.beq nm m && Nat.beq off o) with
    | true =>
      rw [hc] at h
      simp at h
      obtain ⟨rfl, rfl⟩ := h
      rw [Bool.and_eq_true] at hc
      rw [Nat.eq_of_beq_eq_true hc.1, Nat.eq_of_beq_eq_true hc.2]
      exact List.mem_cons_self ..
    | false => rw [hc] at h; exact List.mem_cons_of_mem _ (lookS_mem h)
def looksS (S : Held) (m b : Nat) : Nat → Nat → Option (List Prop × List SC)
  | _, 0 => some ([], [])
  | o, n + 1 =>
    match lookS S m o, looksS S m b (o + 1) n with
    | some (b', c), some (ps, l) => some ((b' = b) :: ps, c :: l)
    | _, _ => none
theorem looksS_ok {S : Held} {m b : Nat} {w : World} (hS : heldS S w) : ∀ (n o : Nat) (ps : List Prop) (l : List SC), looksS S m b o n = some (ps, l) → (∀ p ∈ ps, p) →
    l.length = n ∧ ∀ j c, l[j]? = some c → w.cell? ⟨b, o + j, none⟩ = some c.den
  | 0, o, ps, l, h, hp => by
    simp [looksS] at h
    obtain ⟨rfl, rfl⟩ := h
    exact ⟨rfl, fun j c hj => by simp at hj⟩
  | n + 1, o, ps, l, h, hp => by
    unfold looksS at h
    split at h
    · rename_i b' c ps' l' h1 h2
      simp at h
      obtain ⟨rfl, rfl⟩ := h
      have e : b' = b := hp _ (by simp)
      subst e
      obtain ⟨g1, g2⟩ := looksS_ok hS n (o + 1) ps' l' h2 (fun p hp' => hp p (by simp [hp']))
      refine ⟨by simp [g1], fun j c' hj => ?_⟩
      cases j with
      | zero => simp at hj; subst hj; exact hS _ (lookS_mem h1)
      | succ j =>
        simp at hj
        have := g2 j c' hj
        rw [show o + (j + 1) = o + 1 + j by omega]; exact this
    · simp at h
def loadH (P : Program) [Fast P] (S : Held) (t : TypeId) (x : SV) : Option (List Prop × SV) :=
  match x with
  | .a (.one (.ptr nm b off)) =>
    match tyAgg P t, tySize P t with
    | some true, some n => (looksS S nm b off n).map fun r => (r.1, .a (.agg r.2))
    | some false, _ => (lookS S nm off).map fun r => ([r.1 = b], .c r.2)
    | _, _ => none
  | _ => none
theorem run_loadH {P : Program} [Fast P] {S : Held} {t : TypeId} {x : SV} {ps : List Prop} {v : SV} (h : loadH P S t x = some (ps, v)) (hp : ∀ p ∈ ps, p) {w : World} (hS : heldS S w) :
    (Instr.loadAt t x.den).run P w = .ok v.den w := by
  unfold loadH at h
  split at h
  · rename_i nm b off
    unfold Instr.loadAt
    simp only [SV.den, SA.den, SC.den, Instr.sureAddr, Sem.run_bind, Sem.run_pure, Result.andThen_ok]
    split at h
    · rename_i n ha hs
      cases hl : looksS S nm b off n with
      | none => rw [hl] at h; simp at h
      | some r =>
        rw [hl] at h
        simp at h
        obtain ⟨rfl, rfl⟩ := h
        obtain ⟨g1, g2⟩ := looksS_ok hS n off r.1 r.2 hl hp
        exact run_loadVar_agg ha hs g1 g2
    · rename_i ha
      cases hl : lookS S nm off with
      | none => rw [hl] at h; simp at h
      | some r =>
        rw [hl] at h
        simp at h
        obtain ⟨rfl, rfl⟩ := h
        have e : r.1 = b := hp _ (List.mem_singleton.2 rfl)
        have := hS _ (lookS_mem hl)
        rw [e] at this
        exact run_loadVar_one ha this
    · simp at h
  · simp at h
/-- An operation that may be taken first. -/
def quiet (P : Program) [Fast P] (ops : List Oper) (S : Held) (fr : List SV) (o : Oper) : Option (List Prop × SV) :=
  match gd ops fr o.guard with
  | .no => some ([], .un)
  | .yes =>
    match pureOp P fr o with
    | some r => some r
    | none =>
      match o.op with
      | .load t x => loadH P S t (opnd fr x)
      | _ => none
  | _ => none
theorem quiet_ok {P : Program} [Fast P] {ops : List Oper} {S : Held} {fr : List SV} {o : Oper} {ps : List Prop} {v : SV} (h : quiet P ops S fr o = some (ps, v)) (hp : ∀ p ∈ ps, p) :
    YieldsIf P ops.toArray (heldS S) o v.den ⟨fden fr, []⟩ := by
  unfold quiet at h
  unfold YieldsIf
  split at h
  · rename_i hg
    simp at h
    obtain ⟨rfl, rfl⟩ := h
    exact .inr ⟨wanted_den.2 hg, rfl⟩
  · rename_i hg
    left
    refine ⟨wanted_den.1 hg, fun w hS => ?_⟩
    split at h
    · rename_i r hr
      simp only [Option.some.injEq] at h
      subst h
      exact run_pureOp hr hp [] w
    · split at h
      · rename_i t x ho
        have := run_loadH h hp hS
        unfold execOp
        simp only [ho, opnd_den, Sem.run_bind, this, Result.andThen_ok, Sem.run_pure]
      · simp at h
  · simp at h
def pickQ (P : Program) [Fast P] (ops : List Oper) (S : Held) (listed : Array Bool) (fr : List SV) : List Nat → Option (Nat × Oper × List Prop × SV)
  | [] => none
  | i :: r =>
    match ops[i]? with
    | some o =>
      match quiet P ops S fr o with
      | some (ps, v) => bif Region.free .any ops.toArray listed i then some (i, o, ps, v) else pickQ P ops S listed fr r
      | none => pickQ P ops S listed fr r
    | none => pickQ P ops S listed fr r
theorem pickQ_ok {P : Program} [Fast P] {ops : List Oper} {S : Held} {listed : Array Bool} {fr : List SV} : ∀ {l : List Nat} {i : Nat} {o : Oper} {ps : List Prop} {v : SV}, pickQ P ops S listed fr l = some (i, o, ps, v) →
    i ∈ l ∧ ops[i]? = some o ∧ quiet P ops S fr o = some (ps, v) ∧ Region.free .any ops.toArray listed i = true
  | [], _, _, _, _, h => by simp [pickQ] at h
  | j :: r, i, o, ps, v, h => by
    unfold pickQ at h
    split at h
    · rename_i o' ho
      split at h
      · rename_i ps' v' hq
        cases hf : Region.free .any ops.toArray listed j with
        | true =>
          rw [hf] at h
          simp at h
          obtain ⟨rfl, rfl, rfl, rfl⟩ := h
          exact ⟨List.mem_cons_self .., ho, hq, hf⟩
        | false =>
          rw [hf] at h
          obtain ⟨h1, h2⟩ := pickQ_ok h
          exact ⟨List.mem_cons_of_mem _ h1, h2⟩
      · obtain ⟨h1, h2⟩ := pickQ_ok h
        exact ⟨List.mem_cons_of_mem _ h1, h2⟩
    · obtain ⟨h1, h2⟩ := pickQ_ok h
      exact ⟨List.mem_cons_of_mem _ h1, h2⟩
def pickF (ops : List Oper) (fr : List SV) : List Nat → Option (Nat × Bool)
  | [] => none
  | i :: r =>
    match ops[i]? with
    | some o =>
      match gd ops fr o.guard with
      | .fork d c _ => some (d, c)
      | _ => pickF ops fr r
    | none => pickF ops fr r
theorem pickF_ok {ops : List Oper} {fr : List SV} : ∀ {l : List Nat} {d : Nat} {c : Bool}, pickF ops fr l = some (d, c) → fr[d]? = some (.c (.bool (.sym c)))
  | [], _, _, h => by simp [pickF] at h
  | i :: r, d, c, h => by
    unfold pickF at h
    split at h
    · split at h
      · rename_i d' c' want hg
        simp at h
        obtain ⟨rfl, rfl⟩ := h
        obtain ⟨j, oj, _, _, _, hv⟩ := gd_fork hg
        exact hv
      · exact pickF_ok h
    · exact pickF_ok h
def evAny (P : Program) [Fast P] (call : Caller A) (ops : List Oper) (S : Held) : Nat → Nat → Array Bool → List SV → SH A → Nat → KontF A → Tree A
  | 0, _, _, _, _, _, _ => .fail
  | g + 1, F, listed, fr, H, n, K =>
    match Region.ready .any ops.toArray listed with
    | [] => K fr H n
    | r :: rs =>
      match F with
      | 0 => .fail
      | F + 1 =>
        match pickQ P ops S listed fr (r :: rs) with
        | some (i, o, ps, v) => needs ps (goOn v fr o.dst H fun fr H => evAny P call ops S g F (listed.setIfInBounds i true) fr H n K)
        | none =>
          match pickF ops fr (r :: rs) with
          | some (d, c) => .ite c (evAny P call ops S g (F + 1) listed (fr.set d (.c (.bool (.lit true)))) H n K) (evAny P call ops S g (F + 1) listed (fr.set d (.c (.bool (.lit false)))) H n K)
          | none => allT (r :: rs) fun i =>
            match ops[i]? with
            | some o =>
              match gd ops fr o.guard with
              | .yes => evOp P call o fr H n fun v H' n' =>
                match heldP H' S with
                | some ps => needs ps (goOn v fr o.dst H' fun fr H' => evAny P call ops S g F (listed.setIfInBounds i true) fr H' n' K)
                | none => .fail
              | _ => .fail
            | none => .fail
theorem evAny_ok {P : Program} [Fast P] (hn : NoGos P) {call : Caller A} (hcall : CallerOk P call) {ops : List Oper} {S : Held} (hns : Region.noSelect ops.toArray = true) {L : Leaf A → Prop} {R : HProp}
    {Q : Exit → Act → World → Prop} (hQ : ∀ c a a' w, Q (.panic c) a w → Q (.panic c) a' w) {K : KontF A} :
    ∀ (g F : Nat) (listed : Array Bool) (fr : List SV) (H : SH A) (n : Nat) (w : World), (evAny P call ops S g F listed fr H n K).Leads P L → Holds w (hden H * R) → heldS S w →
      (∀ fr' H' n' w', (K fr' H' n').Leads P L → Holds w' (hden H' * R) → Strm w w' → Q .normal ⟨fden fr', []⟩ w') → wpAnyH P .any ops.toArray Q (heldS S) F listed ⟨fden fr, []⟩ w
  | 0, F, listed, fr, H, n, w, hl, hw, hS, hk => hl.elim
  | g + 1, F, listed, fr, H, n, w, hl, hw, hS, hk => by
    unfold evAny at hl
    split at hl
    · rename_i hr
      exact wpAnyH_done hr (hk fr H n w hl hw (Strm.refl w)) F
    · rename_i r rs hr
      cases F with
      | zero => exact hl.elim
      | succ F =>
        simp only at hl
        split at hl
        · rename_i i o ps v hq
          obtain ⟨h1, h2⟩ := needs_leads hl
          rw [goOn_eq] at h2
          obtain ⟨p1, p2, p3, p4⟩ := pickQ_ok hq
          refine wpAnyH_take (i := i) (oi := o) (v := v.den) (by simpa using p2) hns p4 (by rw [hr]; simpa using p1) (fun c a w h => hQ c _ _ w h) (quiet_ok p3 h1) hS ?_
          rw [fput_den]
          exact evAny_ok hn hcall hns hQ g F _ _ H n w h2 hw hS hk
        · split at hl
          · rename_i d c hf
            obtain ⟨h1, h2⟩ := hl
            have hv := pickF_ok hf
            cases hc : c with
            | true =>
              have e : fden (fr.set d (.c (.bool (.lit true)))) = fden fr := set_same hv (by rw [hc]; rfl)
              rw [← e]
              exact evAny_ok hn hcall hns hQ g (F + 1) _ _ H n w (h1 hc) hw hS hk
            | false =>
              have e : fden (fr.set d (.c (.bool (.lit false)))) = fden fr := set_same hv (by rw [hc]; rfl)
              rw [← e]
              exact evAny_ok hn hcall hns hQ g (F + 1) _ _ H n w (h2 hc) hw hS hk
          · refine wpAnyH_all hr (by simp) fun i hi => ?_
            have hl' := allT_leads hl i hi
            split at hl'
            · rename_i o ho
              split at hl'
              · rename_i hg
                have ho' : ops.toArray[i]? = some o := by simpa using ho
                unfold wpOp
                simp only [ho']
                rw [if_pos (wanted_den.1 hg)]
                left
                refine evOp_ok hn hcall hl' hw fun v H' n' w' k1 k2 k3 => ?_
                split at k1
                · rename_i ps hps
                  obtain ⟨h1, h2⟩ := needs_leads k1
                  rw [goOn_eq] at h2
                  have hS' := heldP_ok k2 S ps hps h1
                  exact ⟨hS', evAny_ok hn hcall hns hQ g F _ _ H' n' w' h2 k2 hS' fun fr' H' n' w'' j1 j2 j3 => hk fr' H' n' w'' j1 j2 (k3.trans j3)⟩
                · exact k1.elim
              · exact hl'.elim
            · exact hl'.elim
end
section
variable {A : Type}
/-- The cells that a region's loads read and that none of its stores writes. -/
def gather (P : Program) [Fast P] (ops : List Oper) (H : SH A) : List Oper → List SV → Held → List (Nat × Nat × Nat) → Held × List (Nat × Nat × Nat)
  | [], _, S, W => (S, W)
  | o :: rest, fr, S, W =>
    match gd ops fr o.guard with
    | .yes =>
      match pureOp P fr o with
      | some (_, v) => gather P ops H rest (fput fr o.dst v) S W
      | none =>
        match o.op with
        | .load t x =>
          match opnd fr x with
          | .a (.one (.ptr nm b off)) =>
            match find H nm with
            | some (b, .cells l _) =>
              match tyAgg P t, tySize P t with
              | some true, some n => gather P ops H rest (fput fr o.dst (.a (.agg ((l.drop off).take n)))) (((l.drop off).take n).zipIdx.map (fun p => (nm, b, off + p.2, p.1)) ++ S) W
              | some false, _ =>
                match l[off]? with
                | some c => gather P ops H rest (fput fr o.dst (.c c)) ((nm, b, off, c) :: S) W
                | none => gather P ops H rest (fput fr o.dst .un) S W
              | _, _ => gather P ops H rest (fput fr o.dst .un) S W
            | _ => gather P ops H rest (fput fr o.dst .un) S W
          | _ => gather P ops H rest (fput fr o.dst .un) S W
        | .store t x _ =>
          match opnd fr x, tySize P t with
          | .a (.one (.ptr nm b off)), some n => gather P ops H rest fr S ((nm, off, n) :: W)
          | _, _ => gather P ops H rest fr S W
        | _ => gather P ops H rest (fput fr o.dst .un) S W
    | _ => gather P ops H rest (fput fr o.dst .un) S W
def struck (W : List (Nat × Nat × Nat)) (nm off : Nat) : Bool := W.any fun q => Nat.beq q.1 nm && (Nat.ble q.2.1 off && Nat.blt off (q.2.1 + q.2.2))
def gathered (P : Program) [Fast P] (ops : List Oper) (fr : List SV) (H : SH A) : Held :=
  let r := gather P ops H ops fr [] []
  r.1.filter fun x => !struck r.2 x.1 x.2.2.1
/-- A cell that the heap has. -/
def HasCell (H : SH A) (x : Nat × Nat × Nat × SC) : Prop := ∃ l T, find H x.1 = some (x.2.1, .cells l T) ∧ l[x.2.2.1]? = some x.2.2.2
theorem gather_has (P : Program) [Fast P] (ops : List Oper) (H : SH A) : ∀ (l : List Oper) (fr : List SV) (S : Held) (W : List (Nat × Nat × Nat)), (∀ x ∈ S, HasCell H x) → ∀ x ∈ (gather P ops H l fr S W).1, HasCell H x
  | [], fr, S, W, h => h
  | o :: rest, fr, S, W, h => by
    unfold gather
    split
    · split
      · exact gather_has P ops H rest _ S W h
      · split
        · split
          · rename_i nm b0 off hx
            split
            · rename_i b l T hf
              split
              · rename_i n _ _
                refine gather_has P ops H rest _ _ W fun x hx => ?_
                rcases List.mem_append.1 hx with hx | hx
                · obtain ⟨p, hp, rfl⟩ := List.mem_map.1 hx
                  refine ⟨l, T, hf, ?_⟩
                  obtain ⟨c, j⟩ := p
                  have hj := List.mem_zipIdx hp
                  simp only [Nat.zero_add] at hj
                  obtain ⟨_, h2, h3⟩ := hj
                  show l[off + j]? = some c
                  simp only [Nat.sub_zero] at h3
                  rw [h3, List.getElem_take, List.getElem_drop]
                  exact List.getElem?_eq_getElem _
                · exact h x hx
              · split
                · rename_i c hc
                  refine gather_has P ops H rest _ _ W fun x hx => ?_
                  rcases List.mem_cons.1 hx with rfl | hx
                  · exact ⟨l, T, hf, hc⟩
                  · exact h x hx
                · exact gather_has P ops H rest _ S W h
              · exact gather_has P ops H rest _ S W h
            · exact gather_has P ops H rest _ S W h
          · exact gather_has P ops H rest _ S W h
        · split
          · exact gather_has P ops H rest _ S _ h
          · exact gather_has P ops H rest _ S W h
        · exact gather_has P ops H rest _ S W h
    · exact gather_has P ops H rest _ S W h
end
section
variable {A : Type} [Abs A]
theorem gathered_held {P : Program} [Fast P] {ops : List Oper} {fr : List SV} {H : SH A} {w : World} {R : HProp} (hw : Holds w (hden H * R)) : heldS (gathered P ops fr H) w := by
  intro x hx
  have hx' : x ∈ (gather P ops H ops fr [] []).1 := (List.mem_filter.1 hx).1
  obtain ⟨l, T, hf, hl⟩ := gather_has P ops H ops fr [] [] (fun x hx => by cases hx) x hx'
  have hw1 : Holds w (pt x.2.1 (.cells (dens l) T (0, 0)) * (hden (del H x.1) * R)) := focus hf hw
  rw [hw1.cells]
  simp [dens, hl]
end
end Go.Proofs.Ytfapicccijbanaa.Ev
