/- What is proved: what can be read of a memory and of rows of arguments in the second evaluator; a new memory; one count of accesses below another. Conditions: stated with each lemma. -/
import Derived.Test.YtmmpnjcmaodkcaaTk
import Derived.Test.YtmmpnjcmaodkcaaM2
import Derived.Test.YtmmpnjcmaodkcaaMemNew
namespace Go.Proofs.Ytmmpnjcmaodkcaa.Ef
open Go Go.RowKit Go.Proofs.Ytmmpnjcmaodkcaa.Sep Go.Proofs.Ytmmpnjcmaodkcaa.Num Go.Proofs.Ytmmpnjcmaodkcaa.Mem
open Go.Proofs.Ytmmpnjcmaodkcaa.Ev (Fast topAt topVer topNext topNext_rng tyAgg tySize)
set_option maxRecDepth 100000
set_option linter.unusedVariables false
set_option linter.unusedSimpArgs false
set_option linter.unusedSectionVars false
def lenT (M : Tm) : Tm :=
  match mlen M with
  | some m => bif intLe 0 m then .lit m else i1 14 M
  | none => i1 14 M
def trV (M : Tm) : Tm :=
  match trT M with
  | some n => .lit n
  | none => i1 15 M
def is12 (k : Nat) : Bool := Nat.beq k 1 || Nat.beq k 2
def offT : Off → List Tm × Tm
  | .at o => ([], .lit o)
  | .el b t st o => ([mkNot (mkLt b (.lit 0)), mkNot (mkLt t (.lit 0))], mkAdd b (mkAdd (mkMul t (.lit st)) (.lit o)))
def rowAt : Tm → List Nat → Nat → Option Tm
  | _, [], _ => none
  | x, b :: r, nm => bif Nat.beq b nm then some (mkFst x) else rowAt (mkSnd x) r nm
section
variable [Ext] [Exp]
def rdRow (R t : Tm) (st o : Nat) : SC := .int .i64 (i2 30 R (mkAdd (mkMul t (.lit st)) (.lit o)))
def rdRows (R t : Tm) (st : Nat) : Nat → Nat → List SC
  | 0, _ => []
  | n + 1, o => rdRow R t st o :: rdRows R t st n (o + 1)
def cntV (M : Tm) : Tm :=
  match cntT M with
  | some n => .lit n
  | none => i1 16 M
def mStore (P : Program) [Fast P] (π : Pi) (t : TypeId) (k : Nat) (x : Tm) (ns : List Nat) (off : Nat) (y : SA) : Option (Tm × List Nat) :=
  match off, tyAgg P t, tySize P t, y with
  | 1, some false, some 1, .one (.int .i64 v) =>
    bif is12 k && (selRg π v).inside 0 1000000 then some (.a2 .pair (i2 29 (mkFst x) v) (mkAdd (mkSnd x) (.lit 1000000)), ns) else none
  | _, _, _, _ => none
theorem mStore_wf {P : Program} [Fast P] {π : Pi} {t : TypeId} {k : Nat} {x : Tm} {ns : List Nat} {off : Nat} {y : SA} {x' : Tm} {ns' : List Nat} (h : mStore P π t k x ns off y = some (x', ns')) : ns' = ns := by
  unfold mStore at h
  split at h
  · rw [Bool.cond_eq_ite] at h
    split at h
    · simp only [Option.some.injEq, Prod.mk.injEq] at h; exact h.2.symm
    · cases h
  · cases h
def mLoad (P : Program) [Fast P] (t : TypeId) (k : Nat) (x : Tm) (ns : List Nat) (off : Off) : Option (List Tm × SV) :=
  match off, tyAgg P t with
  | .at 0, some false => match ns with
    | [m] => bif is12 k then some ([], .c (.slice m 0 (lenT (mkFst x)) (lenT (mkFst x)))) else none
    | _ => none
  | .at 1, some false => bif is12 k then some ([], .c (.int .i64 (cntV (mkFst x)))) else none
  | .at 2, some false => bif is12 k then some ([], .c (.int .i64 (trV (mkFst x)))) else none
  | _, _ => none
def mOpens (P : Program) [Fast P] (t : TypeId) (k : Nat) (x : Tm) (off : Off) (n : Nat) : Option (SV × List Nat) :=
  match off, tyAgg P t with
  | .at 0, some false => bif is12 k then some (.c (.slice n 0 (lenT (mkFst x)) (lenT (mkFst x))), [n]) else none
  | _, _ => none
def mInner (P : Program) [Fast P] (π : Pi) (t : TypeId) (k : Nat) (x : Tm) (ns : List Nat) (nm : Nat) (off : Off) : Option (List Tm × SV) :=
  bif is12 k then
    match ns, tyAgg P t with
    | [m], some false =>
      match offT off with
      | (ps, a) => some (mkNot (mkLt a (.lit 0)) :: mkLt a (lenT (mkFst x)) :: ps, .c (.int .u64 (mkLoad π a (mkFst x))))
    | _, _ => none
  else bif Nat.beq k 9 then
    match off, rowAt (mkSnd x) ns nm with
    | .el b t1 st o, some rec =>
      bif Tm.beq b (mkFst (mkSnd rec)) && Tm.beq (.lit st) (mkSnd (mkSnd (mkSnd rec))) then
        match tyAgg P t, tySize P t with
        | some false, _ => bif Nat.blt o st then some ([mkNot (mkLt t1 (.lit 0)), mkLt t1 (mkFst (mkSnd (mkSnd rec)))], .c (rdRow (mkFst rec) t1 st o)) else none
        | some true, some n => bif Nat.ble (o + n) st then some ([mkNot (mkLt t1 (.lit 0)), mkLt t1 (mkFst (mkSnd (mkSnd rec)))], .a (.agg (rdRows (mkFst rec) t1 st n o))) else none
        | _, _ => none
      else none
    | _, _ => none
  else none
theorem rdRows_wf (R t : Tm) (st m : Nat) : ∀ n o, lwf m (rdRows R t st n o)
  | 0, _ => fun c h => by cases h
  | n + 1, o => fun c h => by
    rcases List.mem_cons.1 h with rfl | h
    · trivial
    · exact rdRows_wf R t st m n (o + 1) c h
theorem mLoad_wf {P : Program} [Fast P] {t : TypeId} {k : Nat} {x : Tm} {ns : List Nat} {off : Off} {ps : List Tm} {v : SV} (h : mLoad P t k x ns off = some (ps, v)) (n : Nat) (hns : ∀ m ∈ ns, m < n) : v.wf n := by
  unfold mLoad at h
  split at h
  · split at h
    · rename_i m
      rw [Bool.cond_eq_ite] at h; split at h
      · simp only [Option.some.injEq, Prod.mk.injEq] at h; obtain ⟨_, rfl⟩ := h; exact hns _ (List.mem_singleton.2 rfl)
      · cases h
    · cases h
  · rw [Bool.cond_eq_ite] at h; split at h
    · simp only [Option.some.injEq, Prod.mk.injEq] at h; obtain ⟨_, rfl⟩ := h; exact trivial
    · cases h
  · rw [Bool.cond_eq_ite] at h; split at h
    · simp only [Option.some.injEq, Prod.mk.injEq] at h; obtain ⟨_, rfl⟩ := h; exact trivial
    · cases h
  · cases h
theorem mLoad_top {P : Program} [Fast P] {t : TypeId} {k : Nat} {x : Tm} {ns : List Nat} {off : Off} {ps : List Tm} {v : SV} (h : mLoad P t k x ns off = some (ps, v)) : v.isTop = false := by
  unfold mLoad at h
  split at h
  · split at h
    · rw [Bool.cond_eq_ite] at h; split at h
      · simp only [Option.some.injEq, Prod.mk.injEq] at h; obtain ⟨_, rfl⟩ := h; rfl
      · cases h
    · cases h
  · rw [Bool.cond_eq_ite] at h; split at h
    · simp only [Option.some.injEq, Prod.mk.injEq] at h; obtain ⟨_, rfl⟩ := h; rfl
    · cases h
  · rw [Bool.cond_eq_ite] at h; split at h
    · simp only [Option.some.injEq, Prod.mk.injEq] at h; obtain ⟨_, rfl⟩ := h; rfl
    · cases h
  · cases h
theorem mInner_wf {P : Program} [Fast P] {π : Pi} {t : TypeId} {k : Nat} {x : Tm} {ns : List Nat} {nm : Nat} {off : Off} {ps : List Tm} {v : SV} (h : mInner P π t k x ns nm off = some (ps, v)) (n : Nat) : v.wf n ∧ v.isTop = false := by
  unfold mInner at h
  rw [Bool.cond_eq_ite] at h
  split at h
  · split at h
    · simp only [Option.some.injEq, Prod.mk.injEq] at h; obtain ⟨_, rfl⟩ := h; exact ⟨trivial, rfl⟩
    · cases h
  · rw [Bool.cond_eq_ite] at h
    split at h
    · split at h
      · rw [Bool.cond_eq_ite] at h
        split at h
        · split at h
          · rw [Bool.cond_eq_ite] at h
            split at h
            · simp only [Option.some.injEq, Prod.mk.injEq] at h; obtain ⟨_, rfl⟩ := h; exact ⟨trivial, rfl⟩
            · cases h
          · rw [Bool.cond_eq_ite] at h
            split at h
            · simp only [Option.some.injEq, Prod.mk.injEq] at h; obtain ⟨_, rfl⟩ := h; exact ⟨rdRows_wf _ _ _ _ _ _, rfl⟩
            · cases h
          · cases h
        · cases h
      · cases h
    · cases h
theorem mOpens_wf {P : Program} [Fast P] {t : TypeId} {k : Nat} {x : Tm} {off : Off} {n : Nat} {v : SV} {ns : List Nat} (h : mOpens P t k x off n = some (v, ns)) : v.wf (n + 1) ∧ (∀ m ∈ ns, m < n + 1) ∧ v.isTop = false := by
  unfold mOpens at h
  split at h <;> first
    | (rw [Bool.cond_eq_ite] at h; split at h
       · simp only [Option.some.injEq, Prod.mk.injEq] at h; obtain ⟨rfl, rfl⟩ := h; exact ⟨Nat.lt_succ_self _, fun m hm => by simp at hm; omega, rfl⟩
       · cases h)
    | cases h
abbrev abM (P : Program) [Fast P] : Ab P :=
  ⟨fun π t k x ns off => mLoad P t k x ns off, fun π t k x ns nm off => mInner P π t k x ns nm off, fun t k x ns off n => mOpens P t k x off n,
   fun h hn => mLoad_wf h _ hn, fun h => mLoad_top h, fun h _ => (mInner_wf h _).1, fun h => (mInner_wf h 0).2, fun h _ => mOpens_wf h,
   fun π t k x ns off y => mStore P π t k x ns off y, fun h hn => by rw [mStore_wf h]; exact hn⟩
end
section
variable [Ext] [Exp] [Vars]
theorem lenT_v (M : Tm) : (lenT M).v = ((memOf M.den).ws.length : Int) := by
  unfold lenT
  split
  · rename_i m hm
    rw [Bool.cond_eq_ite]
    split
    · rename_i h
      have h : 0 ≤ m := of_decide_eq_true h
      rw [lit_v, mlen_ok hm h]
    · rfl
  · rfl
theorem trV_v (M : Tm) : (trV M).v = ((memOf M.den).tr : Int) := by
  unfold trV
  split
  · rename_i n h; rw [lit_v, trT_ok h]
  · rfl
theorem cntV_v (M : Tm) : (cntV M).v = ((memOf M.den).cnt : Int) := by
  unfold cntV
  split
  · rename_i n h; rw [lit_v, cntT_ok h]
  · rfl
theorem is12_ok {k : Nat} (h : is12 k = true) : k = 1 ∧ (101 : Nat) = 101 ∨ k = 2 ∧ (101 : Nat) = 101 := by
  unfold is12 at h
  simp only [Bool.or_eq_true] at h
  rcases h with h | h
  · exact .inl ⟨Nat.eq_of_beq_eq_true h, rfl⟩
  · exact .inr ⟨Nat.eq_of_beq_eq_true h, rfl⟩
/-- A memory's cells. -/
theorem ob_cells {k : Nat} (h : is12 k = true) {u : UM} {ns : List Nat} {b : Nat} {w : World} {R : HProp} (H : Holds w (Interp.ob k u ns b * R)) :
    ∃ T wb tv xs, Holds w (pt b (.cells #[.slice (some ⟨wb, 0, none⟩) (memOf u.fst).ws.length (memOf u.fst).ws.length, .int .i64 ((memOf u.fst).cnt : Int), .int .i64 ((memOf u.fst).tr : Int), tv] T (0, 0)) * (pt wb (.cells (W (memOf u.fst).ws) 38 (0, 0)) * (Row 128 3 tv (memOf u.fst).n xs * R))) ∧ (memOf u.fst).ok ∧ Interp.ob k u [wb] = Interp.ob k u [wb] := by
  rcases is12_ok h with ⟨rfl, _⟩ | ⟨rfl, _⟩
  · obtain ⟨h1, h2⟩ := memO_open (ob_get (.inl ⟨rfl, rfl⟩) H)
    obtain ⟨wb, tv, xs, h3⟩ := memP_open h2
    exact ⟨_, wb, tv, xs, h3, h1.1, rfl⟩
  · obtain ⟨h1, h2⟩ := memO_open (ob_get (.inr ⟨rfl, rfl⟩) H)
    obtain ⟨wb, tv, xs, h3⟩ := memP_open h2
    exact ⟨_, wb, tv, xs, h3, h1.1, rfl⟩
theorem memOQ_open {T : Nat} {u : UM} {wb b : Nat} {w : World} {R : HProp} (H : Holds w (MemOQ T u wb b * R)) :
    (memOf u.fst).ok ∧ Holds w (pt wb (.cells (W (memOf u.fst).ws) 38 (0, 0)) * ((exP fun tv => exP fun xs => pt b (.cells #[.slice (some ⟨wb, 0, none⟩) (memOf u.fst).ws.length (memOf u.fst).ws.length, .int .i64 ((memOf u.fst).cnt : Int), .int .i64 ((memOf u.fst).tr : Int), tv] T (0, 0)) * Row 128 3 tv (memOf u.fst).n xs) * R)) := by
  obtain ⟨h1, h2⟩ := holds_and H
  refine ⟨h1.1, ?_⟩
  obtain ⟨tv, h2⟩ := holds_ex h2
  obtain ⟨xs, h2⟩ := holds_ex h2
  have h3 : Holds w ((exP fun tv => exP fun xs => pt b (.cells #[.slice (some ⟨wb, 0, none⟩) (memOf u.fst).ws.length (memOf u.fst).ws.length, .int .i64 ((memOf u.fst).cnt : Int), .int .i64 ((memOf u.fst).tr : Int), tv] T (0, 0)) * Row 128 3 tv (memOf u.fst).n xs) * (pt wb (.cells (W (memOf u.fst).ws) 38 (0, 0)) * R)) := by
    refine holds_ex_mk tv ?_
    refine holds_ex_mk xs ?_
    exact h2.cast (by ac_rfl)
  exact h3.cast (by ac_rfl)
theorem W_get {ws : List Int} {i : Nat} (h : i < ws.length) : (W ws)[i]? = some (.int .u64 (ws.getD i 0)) := by
  unfold W
  simp [List.getElem?_map, List.getElem?_eq_getElem h]
theorem offT_ok {off : Off} {ps : List Tm} {a : Tm} (h : offT off = (ps, a)) (hp : ∀ p ∈ ps, p.tv = true) : a.v = (off.v : Int) := by
  unfold offT at h
  split at h
  · simp only [Prod.mk.injEq] at h
    obtain ⟨_, rfl⟩ := h
    rfl
  · rename_i b t st o
    simp only [Prod.mk.injEq] at h
    obtain ⟨rfl, rfl⟩ := h
    have h1 := hp _ (List.mem_cons_self ..)
    have h2 := hp _ (List.mem_cons_of_mem _ (List.mem_singleton.2 rfl))
    rw [mkNot_tv, mkLt_tv, lit_v] at h1 h2
    simp at h1 h2
    rw [mkAdd_v, mkAdd_v, mkMul_v, lit_v, lit_v]
    show _ = ((b.v.toNat + t.v.toNat * st + o : Nat) : Int)
    have e1 : (b.v.toNat : Int) = b.v := by omega
    have e2 : (t.v.toNat : Int) = t.v := by omega
    rw [Int.natCast_add, Int.natCast_add, Int.natCast_mul, e1, e2]
    omega
theorem rowAt_ok {w : World} {B : Nat} {β : Bl} {nm : Nat} : ∀ {ns : List Nat} {x rec : Tm}, rowAt x ns nm = some rec → rowsOk w B x.den (ns.map β) → RowOk w B (listOf rec.den.fst) rec.den.snd.fst.int rec.den.snd.snd.fst.int rec.den.snd.snd.snd.int (β nm)
  | [], _, _, h, _ => by cases h
  | b :: r, x, rec, h, H => by
    unfold rowAt at h
    rw [Bool.cond_eq_ite] at h
    obtain ⟨h1, h2⟩ := H
    split at h
    · rename_i hb
      simp only [Option.some.injEq] at h
      subst h
      rw [Nat.eq_of_beq_eq_true hb] at h1
      rw [fst_den]
      exact h1
    · refine rowAt_ok h ?_
      rw [snd_den]
      exact h2
theorem old_cell {B : Nat} {w w' : World} {R : HProp} (H : Holds w' (old B w * R)) {b i : Nat} {v : Value} (hb : b < B) (h : w.cell? ⟨b, i, none⟩ = some v) : w'.cell? ⟨b, i, none⟩ = some v := by
  rw [← h]
  refine World.cell?_of_block (w := w) (a := ⟨b, i, none⟩) ?_
  obtain ⟨hp, a, p⟩ := H.left
  have hlt := World.block_lt_of_cell? w _ h
  have hlt : b < w.heap.size := hlt
  have e := p b
  rw [if_pos hb, Array.getElem?_eq_getElem hlt] at e
  show w'.heap[b]? = w.heap[b]?
  rw [a b _ e, Array.getElem?_eq_getElem hlt]
/-- An element's cell. -/
theorem row_cell {w w' : World} {B : Nat} {l : List Int} {off len : Int} {b st o : Nat} {R : HProp} (H : Holds w' (old B w * R)) (h : RowOk w B l off len st b) {t : Int} (h0 : 0 ≤ t) (h1 : t < len) (ho : o < st) :
    w'.cell? ⟨b, off.toNat + t.toNat * st + o, none⟩ = some (.int .i64 (ci64 (l.getD (t * st + o).toNat 0))) := by
  have hb : b < B := by rcases h.lo with hb | hb <;> omega
  have e1 : (t * st + o).toNat = t.toNat * st + o := by
    have e2 : (t.toNat : Int) = t := by omega
    have : (t * st + o : Int) = ((t.toNat * st + o : Nat) : Int) := by rw [Int.natCast_add, Int.natCast_mul, e2]
    rw [this]; rfl
  have e3 : t.toNat * st + o < l.length := by
    have e2 : (t.toNat : Int) = t := by omega
    have : t.toNat + 1 ≤ len.toNat := by omega
    have h2 : (t.toNat + 1) * st ≤ len.toNat * st := Nat.mul_le_mul_right _ this
    have h3 : (l.length : Int) = ((len.toNat * st : Nat) : Int) := by rw [h.n, Int.natCast_mul]; congr 1; omega
    have h4 : l.length = len.toNat * st := by omega
    rw [h4]
    rw [Nat.add_mul] at h2
    omega
  rw [e1]
  have hm : l.getD (t.toNat * st + o) 0 ∈ l := by
    rw [List.getD_eq_getElem?_getD, List.getElem?_eq_getElem e3]
    exact List.getElem_mem e3
  rw [ci64_in (h.r _ hm)]
  have := h.c _ e3
  rw [← Nat.add_assoc] at this
  exact old_cell H hb this
theorem rdRow_den {R t : Tm} {st o : Nat} (β : Bl) : (rdRow R t st o).den β = .int .i64 (ci64 ((listOf R.den).getD (t.v * st + o).toNat 0)) := by
  show Value.int .i64 (ci64 ((listOf R.den).getD ((mkAdd (mkMul t (.lit st)) (.lit o)).v).toNat 0)) = _
  rw [mkAdd_v, mkMul_v, lit_v, lit_v]
theorem rdRows_get {R t : Tm} {st : Nat} (β : Bl) : ∀ {n o j : Nat} {c : Value}, ((rdRows R t st n o).map (SC.den β))[j]? = some c → c = (rdRow R t st (o + j)).den β ∧ j < n
  | 0, _, _, _, h => by cases h
  | n + 1, o, 0, c, h => by simp [rdRows] at h; exact ⟨h.symm, Nat.succ_pos _⟩
  | n + 1, o, j + 1, c, h => by
    have h : ((rdRows R t st n (o + 1)).map (SC.den β))[j]? = some c := by simpa [rdRows] using h
    have := rdRows_get β h
    refine ⟨by rw [this.1]; congr 2; omega, by omega⟩
theorem rdRows_len (R t : Tm) (st : Nat) : ∀ n o, (rdRows R t st n o).length = n
  | 0, _ => rfl
  | n + 1, o => by simp [rdRows, rdRows_len R t st n (o + 1)]
theorem memQ_of {T : Nat} {u : UM} {b : Nat} {w : World} {R : HProp} (H : Holds w (MemO T u b * R)) : ∃ wb, Holds w (MemOQ T u wb b * R) := by
  obtain ⟨h1, h2⟩ := memO_open H
  obtain ⟨wb, h2⟩ := holds_ex (F := fun wb => MemQ T b wb (memOf u.fst)) (show Holds w (exP (fun wb => MemQ T b wb (memOf u.fst)) * R) from h2)
  exact ⟨wb, holds_and_mk h1 h2⟩
theorem mStore_ok {P : Program} [Fast P] {π : Pi} {t : TypeId} {k : Nat} {x : Tm} {ns : List Nat} {off : Nat} {y : SA} {x' : Tm} {ns' : List Nat} (h : mStore P π t k x ns off y = some (x', ns')) (hπ : facts π)
    {w : World} {R : HProp} {β : Bl} {b : Nat} (H : Holds w (Interp.ob k x.den (ns.map β) b * R)) :
    ∃ w', (storeVar t ⟨b, off, none⟩ (y.den β)).run P w = .ok () w' ∧ Holds w' (Interp.ob k x'.den (ns'.map β) b * R) ∧ Strm w w' := by
  unfold mStore at h
  split at h
  · rename_i v ha hs
    rw [Bool.cond_eq_ite] at h
    split at h
    · rename_i hk
      rw [Bool.and_eq_true] at hk
      obtain ⟨hk, hr⟩ := hk
      have hv := Rg.inside_ok (selRg_ok hπ v) hr
      simp only [Option.some.injEq, Prod.mk.injEq] at h
      obtain ⟨rfl, rfl⟩ := h
      have e1 : (Tm.a2 .pair (i2 29 (mkFst x) v) (mkAdd (mkSnd x) (.lit 1000000))).den.fst = .o (.mem { memOf x.den.fst with cnt := v.v.toNat }) := by
        show U.o (Om.mem { memOf (mkFst x).den with cnt := v.den.int.toNat }) = _
        rw [fst_den]
        rfl
      have e2 : (Tm.a2 .pair (i2 29 (mkFst x) v) (mkAdd (mkSnd x) (.lit 1000000))).den.snd.int = x.den.snd.int + 1000000 := by
        show (mkAdd (mkSnd x) (.lit 1000000)).v = _
        rw [mkAdd_v, lit_v, snd_v]
      have step : ∀ (T wb : Nat) (tv : Value) (xs : List Value) (S : HProp), Holds w (pt b (.cells #[.slice (some ⟨wb, 0, none⟩) (memOf x.den.fst).ws.length (memOf x.den.fst).ws.length, .int .i64 ((memOf x.den.fst).cnt : Int), .int .i64 ((memOf x.den.fst).tr : Int), tv] T (0, 0)) * S) →
          ∃ w', (storeVar t ⟨b, 1, none⟩ ((SA.one (.int .i64 v)).den β)).run P w = .ok () w' ∧ Holds w' (pt b (.cells #[.slice (some ⟨wb, 0, none⟩) (memOf x.den.fst).ws.length (memOf x.den.fst).ws.length, .int .i64 ((v.v.toNat : Nat) : Int), .int .i64 ((memOf x.den.fst).tr : Int), tv] T (0, 0)) * S) ∧ Strm w w' := by
        intro T wb tv xs S HS
        have hc := HS.cell 1 (.int .i64 ((memOf x.den.fst).cnt : Int)) rfl
        have hf := HS.free 1
        have h1 := HS.set 1 (.int .i64 ((v.v.toNat : Nat) : Int))
        have ev : ((v.v.toNat : Nat) : Int) = v.v := by omega
        refine ⟨w.setCell ⟨b, 1, none⟩ (.int .i64 ((v.v.toNat : Nat) : Int)), ?_, h1, (Strm.refl w).set _ _⟩
        rw [ev]
        show (storeVar t ⟨b, 1, none⟩ (Value.int .i64 v.v)).run P w = _
        unfold storeVar
        simp only [Sem.run_bind, Sem.run_pure, Result.andThen_ok, Ev.run_sizeOf' hs]
        rw [show (Value.int .i64 v.v).cells = #[.int .i64 v.v] from rfl, if_neg (by simp)]
        have hc' : (w.cell? ⟨b, 1, none⟩).isSome = true := by rw [hc]; rfl
        rw [show (#[Value.int .i64 v.v] : Array Value).toList = [.int .i64 v.v] from rfl]
        simp [storeCells, Addr.add_lit, go_sem, hc, hf, Value.oneCell']
      have fin : ∀ M : MS, M = { memOf x.den.fst with cnt := v.v.toNat } → (memOf x.den.fst).ok → ((memOf x.den.fst).n : Int) ≤ x.den.snd.int → ((memOf x.den.fst).tr : Int) ≤ x.den.snd.int →
          M.ok ∧ (M.n : Int) ≤ x.den.snd.int + 1000000 ∧ (M.cnt : Int) ≤ x.den.snd.int + 1000000 ∧ (M.tr : Int) ≤ x.den.snd.int + 1000000 := by
        rintro M rfl ⟨g1, g2, g3, g4, g5⟩ h1 h2
        exact ⟨⟨g1, g2, by simp only; omega, g4, g5⟩, by simp only; omega, by simp only; omega, by simp only; omega⟩
      have key : ∀ T (L : List Nat), Holds w (MemX T x.den L b * R) → ∃ w', (storeVar t ⟨b, 1, none⟩ ((SA.one (.int .i64 v)).den β)).run P w = .ok () w' ∧ Holds w' (MemX T (Tm.a2 .pair (i2 29 (mkFst x) v) (mkAdd (mkSnd x) (.lit 1000000))).den L b * R) ∧ Strm w w' := by
        intro T L HX
        have hq : ∀ wb : Nat, Holds w (MemOQ T x.den wb b * R) → ∃ w', (storeVar t ⟨b, 1, none⟩ ((SA.one (.int .i64 v)).den β)).run P w = .ok () w' ∧ Holds w' (MemOQ T (Tm.a2 .pair (i2 29 (mkFst x) v) (mkAdd (mkSnd x) (.lit 1000000))).den wb b * R) ∧ Strm w w' := by
          intro wb HQ
          obtain ⟨⟨ok, b1, b2, b3⟩, h2⟩ := holds_and HQ
          obtain ⟨tv, h2⟩ := holds_ex h2
          obtain ⟨xs, h2⟩ := holds_ex h2
          obtain ⟨w', q1, q2, q3⟩ := step T wb tv xs _ (h2.cast (star_assoc _ _ _))
          refine ⟨w', q1, ?_, q3⟩
          refine holds_and_mk ?_ ?_
          · rw [e1, e2]
            exact fin _ rfl ok b1 b3
          · unfold MemQ
            rw [e1]
            exact holds_ex_mk tv (holds_ex_mk xs (q2.cast (star_assoc _ _ _).symm))
        have ho : Holds w (MemO T x.den b * R) → ∃ w', (storeVar t ⟨b, 1, none⟩ ((SA.one (.int .i64 v)).den β)).run P w = .ok () w' ∧ Holds w' (MemO T (Tm.a2 .pair (i2 29 (mkFst x) v) (mkAdd (mkSnd x) (.lit 1000000))).den b * R) ∧ Strm w w' := by
          intro HO
          obtain ⟨wb, HQ⟩ := memQ_of HO
          obtain ⟨w', q1, q2, q3⟩ := hq wb HQ
          obtain ⟨g1, g2⟩ := holds_and q2
          exact ⟨w', q1, holds_and_mk g1 (holds_ex_mk (F := fun wb => MemQ T b wb (memOf (Tm.a2 .pair (i2 29 (mkFst x) v) (mkAdd (mkSnd x) (.lit 1000000))).den.fst)) wb g2), q3⟩
        match L, HX with
        | [], HX => exact ho HX
        | [wb], HX => exact hq wb HX
        | _ :: _ :: _, HX => exact ho HX
      rcases is12_ok hk with ⟨rfl, _⟩ | ⟨rfl, _⟩
      · exact key _ _ H
      · exact key _ _ H
    · cases h
  · cases h
theorem abM_ok (P : Program) [Fast P] : @AbOk _ _ _ P _ (abM P) := by
  refine @AbOk.mk _ _ _ P _ (abM P) ?_ ?_ ?_ (fun h hπ => mStore_ok h hπ)
  · intro π t k x ns off ps v h hπ hp w R β b H
    replace h : mLoad P t k x ns off = some (ps, v) := h
    unfold mLoad at h
    split at h
    · rename_i ha
      split at h
      · rename_i m
        rw [Bool.cond_eq_ite] at h
        split at h
        · rename_i hk
          simp only [Option.some.injEq, Prod.mk.injEq] at h
          obtain ⟨_, rfl⟩ := h
          have key : ∀ T, Holds w (MemOQ T x.den (β m) b * R) → (loadVar t ⟨b, 0, none⟩).run P w = .ok ((SV.c (.slice m 0 (lenT (mkFst x)) (lenT (mkFst x)))).den β) w := by
            intro T HQ
            obtain ⟨ok, h3⟩ := memOQ_open HQ
            rw [star_comm, star_assoc] at h3
            obtain ⟨tv, h3⟩ := holds_ex h3
            obtain ⟨xs, h3⟩ := holds_ex h3
            rw [star_assoc] at h3
            refine run_loadVar_one ha ?_
            rw [h3.cells]
            show some (Value.slice (some ⟨β m, 0, none⟩) (memOf x.den.fst).ws.length (memOf x.den.fst).ws.length) = some (Value.slice (some ⟨β m, 0, none⟩) (lenT (mkFst x)).v.toNat (lenT (mkFst x)).v.toNat)
            rw [lenT_v, fst_den, Int.toNat_natCast]
          rcases is12_ok hk with ⟨rfl, _⟩ | ⟨rfl, _⟩
          · exact key _ H
          · exact key _ H
        · cases h
      · cases h
    · rename_i ha
      rw [Bool.cond_eq_ite] at h
      split at h
      · rename_i hk
        simp only [Option.some.injEq, Prod.mk.injEq] at h
        obtain ⟨_, rfl⟩ := h
        obtain ⟨T, wb, tv, xs, h3, _, _⟩ := ob_cells hk H
        refine run_loadVar_one ha ?_
        rw [h3.cells]
        show some (Value.int .i64 ((memOf x.den.fst).cnt : Int)) = some (.int .i64 (cntV (mkFst x)).v)
        rw [cntV_v, fst_den]
      · cases h
    · rename_i ha
      rw [Bool.cond_eq_ite] at h
      split at h
      · rename_i hk
        simp only [Option.some.injEq, Prod.mk.injEq] at h
        obtain ⟨_, rfl⟩ := h
        obtain ⟨T, wb, tv, xs, h3, _, _⟩ := ob_cells hk H
        refine run_loadVar_one ha ?_
        rw [h3.cells]
        show some (Value.int .i64 ((memOf x.den.fst).tr : Int)) = some (.int .i64 (trV (mkFst x)).v)
        rw [trV_v, fst_den]
      · cases h
    · cases h
  · intro π t k x ns nm off ps v h hπ hp hnm w R β b H
    replace h : mInner P π t k x ns nm off = some (ps, v) := h
    unfold mInner at h
    rw [Bool.cond_eq_ite] at h
    split at h
    · rename_i hk
      split at h
      · rename_i m ha
        have hm : nm = m := by simpa using hnm
        subst hm
        generalize ho : offT off = pa at h
        obtain ⟨ps', a⟩ := pa
        simp only [Option.some.injEq, Prod.mk.injEq] at h
        obtain ⟨rfl, rfl⟩ := h
        have a1 := hp _ (List.mem_cons_self ..)
        have a2 := hp _ (List.mem_cons_of_mem _ (List.mem_cons_self ..))
        have a3 := offT_ok ho fun p hp' => hp p (List.mem_cons_of_mem _ (List.mem_cons_of_mem _ hp'))
        rw [mkNot_tv, mkLt_tv, lit_v] at a1
        rw [mkLt_tv, lenT_v, fst_den] at a2
        simp at a1 a2
        have key : ∀ T, Holds w (MemOQ T x.den (β nm) b * R) → (loadVar t ⟨β nm, off.v, none⟩).run P w = .ok ((SV.c (.int .u64 (mkLoad π a (mkFst x)))).den β) w := by
          intro T HQ
          obtain ⟨ok, h3⟩ := memOQ_open HQ
          refine run_loadVar_one ha ?_
          have hlt : off.v < (memOf x.den.fst).ws.length := by omega
          rw [h3.cells, W_get hlt]
          show some (Value.int .u64 _) = some (Value.int .u64 (mkLoad π a (mkFst x)).v)
          rw [mkLoad_v hπ, fst_den, cl64_in (load_in ok _)]
          congr 2
          unfold MS.load MS.get
          rw [if_pos (by simp [MS.there]; omega), a3]
          rfl
        rcases is12_ok hk with ⟨rfl, _⟩ | ⟨rfl, _⟩
        · exact key _ H
        · exact key _ H
      · cases h
    · rw [Bool.cond_eq_ite] at h
      split at h
      · rename_i hk
        have hk := Nat.eq_of_beq_eq_true hk
        subst hk
        split at h
        · rename_i b1 t1 st o rec hr
          rw [Bool.cond_eq_ite] at h
          split at h
          · rename_i hc
            rw [Bool.and_eq_true] at hc
            have hb := Tm.beq_eq hc.1
            have hs := Tm.beq_eq hc.2
            replace H : Holds w (OldO x.den (ns.map β) * R) := H
            obtain ⟨⟨w0, B⟩, H⟩ := holds_ex H
            obtain ⟨⟨_, hrow⟩, H⟩ := holds_and H
            have _t : True := trivial
            · rw [← snd_den] at hrow
              have hR := rowAt_ok hr hrow
              have e1 : rec.den.snd.fst.int = b1.v := by rw [hb]; unfold Tm.v; rw [fst_den, snd_den]
              have e2 : rec.den.snd.snd.snd.int = (st : Int) := by
                have := congrArg Tm.v hs
                rw [lit_v, snd_v, snd_den, snd_den] at this
                exact this.symm
              have e3 : (mkFst (mkSnd (mkSnd rec))).v = rec.den.snd.snd.fst.int := by unfold Tm.v; rw [fst_den, snd_den, snd_den]
              rw [e1, e2, ← e3] at hR
              split at h
              · rename_i ha
                rw [Bool.cond_eq_ite] at h
                split at h
                · rename_i ho
                  have ho : o < st := by simpa using ho
                  simp only [Option.some.injEq, Prod.mk.injEq] at h
                  obtain ⟨rfl, rfl⟩ := h
                  have a1 := hp _ (List.mem_cons_self ..)
                  have a2 := hp _ (List.mem_cons_of_mem _ (List.mem_cons_self ..))
                  rw [mkNot_tv, mkLt_tv, lit_v] at a1
                  rw [mkLt_tv] at a2
                  simp at a1 a2
                  refine run_loadVar_one ha ?_
                  show w.cell? ⟨β nm, b1.v.toNat + t1.v.toNat * st + o, none⟩ = some ((rdRow (mkFst rec) t1 st o).den β)
                  rw [row_cell H hR a1 a2 ho, rdRow_den, fst_den]
                · cases h
              · rename_i n ha hsz
                rw [Bool.cond_eq_ite] at h
                split at h
                · rename_i ho
                  have ho := Nat.le_of_ble_eq_true ho
                  simp only [Option.some.injEq, Prod.mk.injEq] at h
                  obtain ⟨rfl, rfl⟩ := h
                  have a1 := hp _ (List.mem_cons_self ..)
                  have a2 := hp _ (List.mem_cons_of_mem _ (List.mem_cons_self ..))
                  rw [mkNot_tv, mkLt_tv, lit_v] at a1
                  rw [mkLt_tv] at a2
                  simp at a1 a2
                  refine run_loadVar_agg ha hsz (l := (rdRows (mkFst rec) t1 st n o).map (SC.den β)) (by simp [rdRows_len]) ?_
                  intro j c hj
                  obtain ⟨rfl, hlt⟩ := rdRows_get β hj
                  rw [rdRow_den, fst_den]
                  have := row_cell H hR a1 a2 (o := o + j) (by omega)
                  rw [show b1.v.toNat + t1.v.toNat * st + (o + j) = (Off.el b1 t1 st o).v + j by show _ = b1.v.toNat + t1.v.toNat * st + o + j; omega] at this
                  exact this
                · cases h
              · cases h
          · cases h
        · cases h
      · cases h
  · intro t k x ns off n v ns' h w R β b H
    replace h : mOpens P t k x off n = some (v, ns') := h
    unfold mOpens at h
    split at h
    · rename_i ha
      rw [Bool.cond_eq_ite] at h
      split at h
      · rename_i hk
        simp only [Option.some.injEq, Prod.mk.injEq] at h
        obtain ⟨rfl, rfl⟩ := h
        have key : ∀ T, Holds w (MemO T x.den b * R) → ∃ wb : Nat, (loadVar t ⟨b, (Off.at 0).v, none⟩).run P w = .ok ((SV.c (.slice n 0 (lenT (mkFst x)) (lenT (mkFst x)))).den (upd β n wb)) w ∧ Holds w (MemOQ T x.den (upd β n wb n) b * R) := by
          intro T HO
          obtain ⟨wb, HQ⟩ := memQ_of HO
          refine ⟨wb, run_loadVar_one ha ?_, by rw [upd_self]; exact HQ⟩
          obtain ⟨h1, h2⟩ := holds_and HQ
          obtain ⟨tv, h2⟩ := holds_ex h2
          obtain ⟨xs, h2⟩ := holds_ex h2
          have h3 := (h2.cast (star_assoc _ _ _)).cells
          rw [h3]
          show some (Value.slice (some ⟨wb, 0, none⟩) _ _) = some (.slice (some ⟨upd β n wb n, 0, none⟩) (lenT (mkFst x)).v.toNat (lenT (mkFst x)).v.toNat)
          rw [lenT_v, fst_den, upd_self]
          rfl
        rcases is12_ok hk with ⟨rfl, _⟩ | ⟨rfl, _⟩
        · exact key _ (ob_get (.inl ⟨rfl, rfl⟩) H)
        · exact key _ (ob_get (.inr ⟨rfl, rfl⟩) H)
      · cases h
    · cases h
end
/-! ### a larger count -/
section
variable [Ext] [Exp]
def weakM (π : Pi) (k : Nat) (x y : Tm) : Bool := is12 k && Tm.beq (mkFst x) (mkFst y) && pv π false (mkLt (mkSnd y) (mkSnd x))
def hintM (M : Tm) : Tm → List (Tm × Tm)
  | .a2 (.usr 26) P (.a2 .pair a v) => (v, loadX a M) :: hintM M P
  | .a2 (.usr 27) P _ => hintM M P
  | .a2 (.usr 28) P _ => hintM M P
  | .a2 (.usr 25) P _ => [(P, M)]
  | P => [(P, M)]
def hintK (k : Nat) (x' x : Tm) : List (Tm × Tm) := bif is12 k then (mkSnd x', mkSnd x) :: hintM (mkFst x) (mkFst x') else [(x', x)]
instance : Wk where
  hint := hintK
  weak := weakM
  weak_ok := by
    intro V π k x y hπ h ns b hp H
    unfold weakM at h
    simp only [Bool.and_eq_true] at h
    obtain ⟨⟨h1, h2⟩, h3⟩ := h
    have h2 := Tm.beq_eq h2
    have e : x.den.fst = y.den.fst := by rw [← fst_den, ← fst_den, h2]
    have h4 := pv_ok hπ h3
    rw [mkLt_tv, snd_v, snd_v] at h4
    have h4 : x.den.snd.int ≤ y.den.snd.int := by simpa using h4
    have key : ∀ T, MemX T x.den ns b hp → MemX T y.den ns b hp := by
      intro T H
      unfold MemX at H ⊢
      split at H
      · obtain ⟨⟨a1, a2, a3, a4⟩, a5⟩ := H
        rw [e] at a1 a2 a3 a4 a5
        exact ⟨⟨a1, by omega, by omega, by omega⟩, a5⟩
      · obtain ⟨⟨a1, a2, a3, a4⟩, a5⟩ := H
        rw [e] at a1 a2 a3 a4 a5
        exact ⟨⟨a1, by omega, by omega, by omega⟩, a5⟩
    rcases is12_ok h1 with ⟨rfl, _⟩ | ⟨rfl, _⟩
    · exact key _ H
    · exact key _ H
end
/-! ### a new memory -/
section
variable [Ext] [Exp]
def cNew (k : Nat) : CtrAt := fun args s =>
  match args with
  | [.a (.one (.int .i64 (.lit n)))] => bif intLe 1 n && intLe n 4096 then
      match s with
      | ⟨π, H, m⟩ => some (frcH ((m, .abs k (.a2 .pair (i1 13 (.lit n)) (.lit 0)) []) :: H) fun H => frcN m fun m => .new m (.done (.tup [.one (.ptr m 0), .one (.int .i64 (.lit 0))], ⟨π, H, m + 1⟩)))
    else none
  | _ => none
variable [Vars]
theorem cNew_ok {P : Program} {g k T : Nat} (hk0 : k = 1 ∧ T = 101 ∨ k = 2 ∧ T = 50)
    (h : ∀ (w : World) (R : HProp) (n : Nat), 1 ≤ n → n ≤ 4096 → Holds w R → Calls P g #[.int .i64 (n : Int)] w fun e w' => ∃ mb, e = .returned (.tuple #[.pointer (some ⟨mb, 0, none⟩), .int .i64 0]) ∧ Holds w' (MemP T mb (MS.new n) * R) ∧ Strm w w') : CAtOk P g (cNew k) := by
  intro args s t ht L β hl ha htp w R hw Q hk
  unfold cNew at ht
  split at ht
  · rename_i n
    rw [Bool.cond_eq_ite] at ht
    split at ht
    · rename_i hn
      rw [Bool.and_eq_true] at hn
      have n1 : 1 ≤ n := of_decide_eq_true hn.1
      have n2 : n ≤ 4096 := of_decide_eq_true hn.2
      obtain ⟨π, H, m⟩ := s
      simp only [frcH_eq, frcN_eq, Option.some.injEq] at ht
      subst ht
      have hc := h w _ n.toNat (by omega) (by omega) hw.hold
      rw [show ((n.toNat : Nat) : Int) = n by omega] at hc
      refine hc.mono ?_
      rintro e w' ⟨mb, rfl, g1, g2⟩
      have hok := new_ok n.toNat (by omega)
      have hag := upd_ag β m mb
      have q := hk (upd β m mb) (.tup [.one (.ptr m 0), .one (.int .i64 (.lit 0))]) ⟨π, (m, .abs k (.a2 .pair (i1 13 (.lit n)) (.lit 0)) []) :: H, m + 1⟩ w' (hl mb) (by
        intro x hx
        rcases List.mem_cons.1 hx with rfl | hx
        · exact Nat.lt_succ_self _
        · rcases List.mem_cons.1 hx with rfl | hx
          · trivial
          · cases hx) rfl
      have hwf : hwf (m + 1) ((m, .abs k (.a2 .pair (i1 13 (.lit n)) (.lit 0)) []) :: H) := by
        intro q hq
        rcases List.mem_cons.1 hq with rfl | hq
        · exact ⟨Nat.lt_succ_self _, fun _ h => nomatch h⟩
        · exact ⟨Nat.lt_succ_of_lt (hw.wf q hq).1, SO.wf_mono (Nat.le_succ _) (hw.wf q hq).2⟩
      have hho : Holds w' (hden (upd β m mb) ((m, .abs k (.a2 .pair (i1 13 (.lit n)) (.lit 0)) []) :: H) * R) := by
        show Holds w' ((Interp.ob k (Tm.a2 F2.pair (i1 13 (.lit n)) (.lit 0)).den [] (upd β m mb m) * hden (upd β m mb) H) * R)
        rw [ob_of hk0, hden_ext hag hw.wf, upd_self]
        have h3 : Holds w' (MemO T (Tm.a2 F2.pair (i1 13 (.lit n)) (.lit 0)).den mb * (hden β H * R)) := by
          refine holds_and_mk ⟨hok, ?_, ?_, ?_⟩ g1
          · show (((MS.new n.toNat).n : Nat) : Int) ≤ 0; simp [MS.new]
          · show (((MS.new n.toNat).cnt : Nat) : Int) ≤ 0; simp [MS.new]
          · show (((MS.new n.toNat).tr : Nat) : Int) ≤ 0; simp [MS.new]
        exact h3.cast (by ac_rfl)
      have q := q ⟨hag, Nat.le_succ _, ⟨hw.pi, hwf, hho⟩, g2⟩
      have e : (SV.tup [.one (.ptr m 0), .one (.int .i64 (.lit 0))]).den (upd β m mb) = .tuple #[.pointer (some ⟨mb, 0, none⟩), .int .i64 0] := by
        show Value.tuple #[.pointer (some ⟨upd β m mb m, 0, none⟩), .int .i64 0] = _
        rw [upd_self]
      rw [e] at q
      exact q
    · cases ht
  · cases ht
end
end Go.Proofs.Ytmmpnjcmaodkcaa.Ef
