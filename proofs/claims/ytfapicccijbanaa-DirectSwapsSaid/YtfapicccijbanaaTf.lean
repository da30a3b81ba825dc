/- What is proved: loads, stores and new blocks of a heap that is described block by block, by the second evaluator. Conditions: the evaluator's own premises. -/
import Derived.Test.YtfapicccijbanaaTe
namespace Go.Proofs.Ytfapicccijbanaa.Ef
open Go Go.Proofs.Ytfapicccijbanaa.Sep
open Go.Proofs.Ytfapicccijbanaa.Ev (Fast tyAgg tySize run_underlying' run_isAgg' run_sizeOf' run_zeroValue')
set_option linter.unusedVariables false
set_option linter.unusedSimpArgs false
set_option linter.unusedSectionVars false
inductive SO where
  | cells (l : List SC) (T : TypeId)
  | abs (k : Nat) (x : Tm) (ns : List Nat)
abbrev SH := List (Nat × SO)
/-- A place within a block: known, or by a number. -/
inductive Off where
  | at (o : Nat)
  | el (b t : Tm) (st o : Nat)
def SO.wf (n : Nat) : SO → Prop
  | .cells l _ => lwf n l
  | .abs _ _ ns => ∀ m ∈ ns, m < n
def hwf (n : Nat) (H : SH) : Prop := ∀ q ∈ H, q.1 < n ∧ q.2.wf n
theorem SO.wf_mono {n m : Nat} (h : n ≤ m) {o : SO} (ho : o.wf n) : o.wf m := by
  cases o with
  | cells l T => exact lwf_mono h ho
  | abs k x ns => exact fun i hi => Nat.lt_of_lt_of_le (ho i hi) h
theorem hwf_mono {n m : Nat} (h : n ≤ m) {H : SH} (hH : hwf n H) : hwf m H := fun q hq => ⟨Nat.lt_of_lt_of_le (hH q hq).1 h, SO.wf_mono h (hH q hq).2⟩
def find : SH → Nat → Option SO
  | [], _ => none
  | (m, o) :: r, n => bif Nat.beq m n then some o else find r n
def del : SH → Nat → SH
  | [], _ => []
  | (m, o) :: r, n => bif Nat.beq m n then r else (m, o) :: del r n
def put : SH → Nat → SO → SH
  | [], _, _ => []
  | (m, o) :: r, n, o' => bif Nat.beq m n then (m, o') :: r else (m, o) :: put r n o'
theorem find_mem {n : Nat} {o : SO} : ∀ {H : SH}, find H n = some o → (n, o) ∈ H
  | [], h => by cases h
  | (m, o') :: r, h => by
    unfold find at h
    rw [Bool.cond_eq_ite] at h
    split at h
    · rename_i hm
      simp at h; subst h
      rw [← Nat.eq_of_beq_eq_true hm]
      exact List.mem_cons_self ..
    · exact List.mem_cons_of_mem _ (find_mem h)
theorem del_mem {n : Nat} {q : Nat × SO} : ∀ {H : SH}, q ∈ del H n → q ∈ H
  | [], h => by cases h
  | (m, o') :: r, h => by
    unfold del at h
    rw [Bool.cond_eq_ite] at h
    split at h
    · exact List.mem_cons_of_mem _ h
    · rcases List.mem_cons.1 h with rfl | h
      · exact List.mem_cons_self ..
      · exact List.mem_cons_of_mem _ (del_mem h)
theorem put_mem {n : Nat} {q : Nat × SO} {o : SO} : ∀ {H : SH}, q ∈ put H n o → q ∈ H ∨ (q.2 = o ∧ ∃ o', (q.1, o') ∈ H)
  | [], h => by cases h
  | (m, o') :: r, h => by
    unfold put at h
    rw [Bool.cond_eq_ite] at h
    split at h
    · rcases List.mem_cons.1 h with rfl | h
      · exact .inr ⟨rfl, o', List.mem_cons_self ..⟩
      · exact .inl (List.mem_cons_of_mem _ h)
    · rcases List.mem_cons.1 h with rfl | h
      · exact .inl (List.mem_cons_self ..)
      · rcases put_mem h with h | ⟨h1, o'', h2⟩
        · exact .inl (List.mem_cons_of_mem _ h)
        · exact .inr ⟨h1, o'', List.mem_cons_of_mem _ h2⟩
theorem put_wf {n m : Nat} {H : SH} {o : SO} (h : hwf n H) (ho : o.wf n) : hwf n (put H m o) := by
  intro q hq
  rcases put_mem hq with hq | ⟨h1, o', h2⟩
  · exact h q hq
  · exact ⟨(h _ h2).1, by rw [h1]; exact ho⟩
theorem del_wf {n m : Nat} {H : SH} (h : hwf n H) : hwf n (del H m) := fun q hq => h q (del_mem hq)
/-- What a table says of loads of objects that are kept closed: at the object's own block; at an inner one; a load that lays an inner one open. -/
class Ab [Interp] (P : Program) [Fast P] where
  load : Pi → TypeId → Nat → Tm → List Nat → Off → Option (List Tm × SV)
  inner : Pi → TypeId → Nat → Tm → List Nat → Nat → Off → Option (List Tm × SV)
  opens : TypeId → Nat → Tm → List Nat → Off → Nat → Option (SV × List Nat)
  load_wf : ∀ {π t k x ns off ps v n}, load π t k x ns off = some (ps, v) → (∀ m ∈ ns, m < n) → v.wf n
  load_top : ∀ {π t k x ns off ps v}, load π t k x ns off = some (ps, v) → v.isTop = false
  inner_wf : ∀ {π t k x ns nm off ps v n}, inner π t k x ns nm off = some (ps, v) → (∀ m ∈ ns, m < n) → v.wf n
  inner_top : ∀ {π t k x ns nm off ps v}, inner π t k x ns nm off = some (ps, v) → v.isTop = false
  opens_wf : ∀ {t k x ns off n v ns'}, opens t k x ns off n = some (v, ns') → (∀ m ∈ ns, m < n) → v.wf (n + 1) ∧ (∀ m ∈ ns', m < n + 1) ∧ v.isTop = false
def memb : List Nat → Nat → Bool
  | [], _ => false
  | j :: r, i => bif Nat.beq j i then true else memb r i
theorem memb_mem : ∀ {l : List Nat} {i : Nat}, memb l i = true → i ∈ l
  | [], _, h => by cases h
  | j :: r, i, h => by
    unfold memb at h
    rw [Bool.cond_eq_ite] at h
    split at h
    · rename_i hj; rw [Nat.eq_of_beq_eq_true hj]; exact List.mem_cons_self ..
    · exact List.mem_cons_of_mem _ (memb_mem h)
/-- Who has an inner block of that name. -/
def owner : SH → Nat → Option Nat
  | [], _ => none
  | (m, o) :: r, i =>
    match o with
    | .abs _ _ ns => bif memb ns i then some m else owner r i
    | _ => owner r i
section
variable [Interp] [Vars]
def Off.v : Off → Nat
  | .at o => o
  | .el b t st o => b.v.toNat + t.v.toNat * st + o
def SO.den (β : Bl) (b : Nat) : SO → HProp
  | .cells l T => pt b (.cells (dens β l) T (0, 0))
  | .abs k x ns => Interp.ob k x.den (ns.map β) b
def hden (β : Bl) : SH → HProp
  | [] => emp
  | (m, o) :: r => o.den β (β m) * hden β r
theorem SO.ext {n : Nat} {β β' : Bl} (h : Ag n β β') {o : SO} (ho : o.wf n) (b : Nat) : o.den β' b = o.den β b := by
  cases o with
  | cells l T => simp only [SO.den, dens_ext h ho]
  | abs k x ns => simp only [SO.den]; rw [List.map_congr_left fun m hm => h m (ho m hm)]
theorem hden_ext {n : Nat} {β β' : Bl} (h : Ag n β β') : ∀ {H : SH}, hwf n H → hden β' H = hden β H
  | [], _ => rfl
  | (m, o) :: r, hH => by
    unfold hden
    have h1 := hH _ (List.mem_cons_self ..)
    rw [hden_ext h (fun q hq => hH q (List.mem_cons_of_mem _ hq)), SO.ext h h1.2, h m h1.1]
theorem find_den {β : Bl} {n : Nat} {o : SO} : ∀ (H : SH), find H n = some o → hden β H = (o.den β (β n) * hden β (del H n))
  | [], h => by simp [find] at h
  | (m, o') :: r, h => by
    unfold find at h
    unfold del
    cases hm : Nat.beq m n with
    | true => rw [hm] at h; simp at h; obtain ⟨rfl, rfl⟩ := h; rw [Nat.eq_of_beq_eq_true hm]; rfl
    | false =>
      rw [hm] at h
      simp only [cond_false] at h ⊢
      unfold hden
      rw [find_den r h]
      ac_rfl
theorem put_den {β : Bl} {n : Nat} {o o1 : SO} : ∀ (H : SH), find H n = some o → hden β (put H n o1) = (o1.den β (β n) * hden β (del H n))
  | [], h => by simp [find] at h
  | (m, o') :: r, h => by
    unfold find at h
    unfold del put
    cases hm : Nat.beq m n with
    | true => rw [hm] at h; simp at h; obtain ⟨rfl, rfl⟩ := h; rw [← Nat.eq_of_beq_eq_true hm]; rfl
    | false =>
      rw [hm] at h
      simp only [cond_false] at h ⊢
      unfold hden
      rw [put_den r h]
      ac_rfl
variable {w : World} {R : HProp} {β : Bl}
theorem focus {H : SH} {n : Nat} {o : SO} (h : find H n = some o) (hw : Holds w (hden β H * R)) : Holds w (o.den β (β n) * (hden β (del H n) * R)) :=
  hw.cast (by rw [find_den H h]; ac_rfl)
theorem unfocus {H : SH} {n : Nat} {o o1 : SO} (h : find H n = some o) (hw : Holds w (o1.den β (β n) * (hden β (del H n) * R))) : Holds w (hden β (put H n o1) * R) :=
  hw.cast (by rw [put_den H h]; ac_rfl)
end
def upd (β : Bl) (n b : Nat) : Bl := fun m => bif Nat.beq m n then b else β m
section
variable [Interp] [Vars]
/-- The table's loads are so. -/
class AbOk [Rules] (P : Program) [Fast P] [Ab P] : Prop where
  load_ok : ∀ {π t k x ns off ps v}, Ab.load (P := P) π t k x ns off = some (ps, v) → facts π → (∀ p ∈ ps, p.tv = true) → ∀ {w : World} {R : HProp} {β : Bl} {b : Nat}, Holds w (Interp.ob k x.den (ns.map β) b * R) →
    (loadVar t ⟨b, off.v, none⟩).run P w = .ok (v.den β) w
  inner_ok : ∀ {π t k x ns nm off ps v}, Ab.inner (P := P) π t k x ns nm off = some (ps, v) → facts π → (∀ p ∈ ps, p.tv = true) → nm ∈ ns → ∀ {w : World} {R : HProp} {β : Bl} {b : Nat}, Holds w (Interp.ob k x.den (ns.map β) b * R) →
    (loadVar t ⟨β nm, off.v, none⟩).run P w = .ok (v.den β) w
  opens_ok : ∀ {t k x ns off n v ns'}, Ab.opens (P := P) t k x ns off n = some (v, ns') → ∀ {w : World} {R : HProp} {β : Bl} {b : Nat}, Holds w (Interp.ob k x.den (ns.map β) b * R) →
    ∃ wb : Nat, (loadVar t ⟨b, off.v, none⟩).run P w = .ok (v.den (upd β n wb)) w ∧ Holds w (Interp.ob k x.den (ns'.map (upd β n wb)) b * R)
end
/-- No loads of closed objects. -/
abbrev ab0 [Interp] (P : Program) [Fast P] : Ab P := ⟨fun _ _ _ _ _ _ => none, fun _ _ _ _ _ _ _ => none, fun _ _ _ _ _ _ => none, fun h => (by cases h), fun h => (by cases h), fun h => (by cases h), fun h => (by cases h), fun h => (by cases h)⟩
theorem ab0_ok [Interp] [Rules] [Vars] (P : Program) [Fast P] : @AbOk _ _ _ P _ (ab0 P) := @AbOk.mk _ _ _ P _ (ab0 P) (fun h => (by cases h)) (fun h => (by cases h)) (fun h => (by cases h))
/-! ### loads -/
def loadC (P : Program) [Fast P] (t : TypeId) (l : List SC) (off : Nat) : Option SV :=
  match tyAgg P t, tySize P t with
  | some true, some n => bif Nat.ble (off + n) l.length then some (.a (.agg ((l.drop off).take n))) else none
  | some false, _ => match l[off]? with
    | some c => some (.c c)
    | none => none
  | _, _ => none
theorem loadC_wf {P : Program} [Fast P] {t : TypeId} {l : List SC} {off : Nat} {v : SV} (h : loadC P t l off = some v) {n : Nat} (hl : lwf n l) : v.wf n := by
  unfold loadC at h
  split at h
  · rw [Bool.cond_eq_ite] at h
    split at h
    · simp at h; subst h
      intro c hc
      exact hl c (List.mem_of_mem_drop (List.mem_of_mem_take hc))
    · cases h
  · split at h
    · rename_i c hc
      simp at h; subst h
      exact hl c (List.mem_of_getElem? hc)
    · cases h
  · cases h
section
variable [Interp] [Rules]
def loadIn (P : Program) [Fast P] [Ab P] (π : Pi) (t : TypeId) (H : SH) (nm : Nat) (off : Off) : Option (List Tm × SV) :=
  match owner H nm with
  | some m =>
    match find H m with
    | some (.abs k x ns) => bif memb ns nm then Ab.inner P π t k x ns nm off else none
    | _ => none
  | none => none
def loadV (P : Program) [Fast P] [Ab P] (π : Pi) (t : TypeId) (H : SH) (x : SV) : Option (List Tm × SV) :=
  match x with
  | .a (.one (.ptr nm off)) =>
    match find H nm with
    | some (.cells l _) => match loadC P t l off with
      | some v => some ([], v)
      | none => none
    | some (.abs k x ns) => Ab.load P π t k x ns (.at off)
    | none => loadIn P π t H nm (.at off)
  | .a (.one (.ptrR nm b i st o)) =>
    match find H nm with
    | some (.abs k x ns) => Ab.load P π t k x ns (.el b i st o)
    | none => loadIn P π t H nm (.el b i st o)
    | _ => none
  | _ => none
theorem loadIn_wf {P : Program} [Fast P] [Ab P] {π : Pi} {t : TypeId} {H : SH} {nm : Nat} {off : Off} {ps : List Tm} {v : SV} (h : loadIn P π t H nm off = some (ps, v)) {n : Nat} (hH : hwf n H) : v.wf n ∧ v.isTop = false := by
  unfold loadIn at h
  split at h
  · split at h
    · rename_i hf
      rw [Bool.cond_eq_ite] at h
      split at h
      · exact ⟨Ab.inner_wf h (hH _ (find_mem hf)).2, Ab.inner_top h⟩
      · cases h
    · cases h
  · cases h
theorem loadV_wf {P : Program} [Fast P] [Ab P] {π : Pi} {t : TypeId} {H : SH} {x : SV} {ps : List Tm} {v : SV} (h : loadV P π t H x = some (ps, v)) {n : Nat} (hH : hwf n H) : v.wf n := by
  unfold loadV at h
  split at h
  · split at h
    · rename_i hf
      split at h
      · rename_i hl
        simp at h; obtain ⟨_, rfl⟩ := h
        exact loadC_wf hl (hH _ (find_mem hf)).2
      · cases h
    · rename_i hf
      exact Ab.load_wf h (hH _ (find_mem hf)).2
    · exact (loadIn_wf h hH).1
  · split at h
    · rename_i hf
      exact Ab.load_wf h (hH _ (find_mem hf)).2
    · exact (loadIn_wf h hH).1
    · cases h
  · cases h
theorem loadIn_top {P : Program} [Fast P] [Ab P] {π : Pi} {t : TypeId} {H : SH} {nm : Nat} {off : Off} {ps : List Tm} {v : SV} (h : loadIn P π t H nm off = some (ps, v)) : v.isTop = false := by
  unfold loadIn at h
  split at h
  · split at h
    · rw [Bool.cond_eq_ite] at h
      split at h
      · exact Ab.inner_top h
      · cases h
    · cases h
  · cases h
theorem loadV_top {P : Program} [Fast P] [Ab P] {π : Pi} {t : TypeId} {H : SH} {x : SV} {ps : List Tm} {v : SV} (h : loadV P π t H x = some (ps, v)) : v.isTop = false := by
  unfold loadV at h
  split at h
  · split at h
    · split at h
      · rename_i hl
        simp at h; obtain ⟨_, rfl⟩ := h
        unfold loadC at hl
        split at hl
        · rw [Bool.cond_eq_ite] at hl
          split at hl <;> first | (simp at hl; subst hl; rfl) | cases hl
        · split at hl <;> first | (simp at hl; subst hl; rfl) | cases hl
        · cases hl
      · cases h
    · exact Ab.load_top h
    · exact loadIn_top h
  · split at h
    · exact Ab.load_top h
    · exact loadIn_top h
    · cases h
  · cases h
/-- A load that lays an object's inner block open. -/
def openV (P : Program) [Fast P] [Ab P] (t : TypeId) (H : SH) (n : Nat) (x : SV) : Option (Nat × SO × SV) :=
  match x with
  | .a (.one (.ptr nm off)) =>
    match find H nm with
    | some (.abs k x ns) => match Ab.opens P t k x ns (.at off) n with
      | some (v, ns') => some (nm, .abs k x ns', v)
      | none => none
    | _ => none
  | _ => none
variable [Vars]
theorem run_loadVar_one {P : Program} [Fast P] {t : TypeId} {w : World} (ha : tyAgg P t = some false) {a : Addr} {v : Value} (hc : w.cell? a = some v) : (loadVar t a).run P w = .ok v w := by
  unfold loadVar
  simp [run_isAgg' ha, hc]
theorem run_loadVar_agg {P : Program} [Fast P] {t : TypeId} {w : World} {n : Nat} (ha : tyAgg P t = some true) (hs : tySize P t = some n) {b off : Nat} {l : List Value} (hl : l.length = n)
    (hc : ∀ j c, l[j]? = some c → w.cell? ⟨b, off + j, none⟩ = some c) : (loadVar t ⟨b, off, none⟩).run P w = .ok (.agg l.toArray) w := by
  unfold loadVar
  have h1 := run_loadCells_list (P := P) w ⟨b, off, none⟩ l (fun j v hj => by rw [addr_add]; exact hc j v hj)
  rw [hl] at h1
  simp only [Sem.run_bind, run_isAgg' ha, Result.andThen_ok, if_true, run_sizeOf' hs, h1, Sem.run_pure]
theorem run_loadC {P : Program} [Fast P] {β : Bl} {t : TypeId} {l : List SC} {off : Nat} {v : SV} (h : loadC P t l off = some v) {w : World} {R : HProp} {b : Nat} {T : TypeId} (hw : Holds w (pt b (.cells (dens β l) T (0, 0)) * R)) :
    (loadVar t ⟨b, off, none⟩).run P w = .ok (v.den β) w := by
  have hcell := Holds.cells hw
  unfold loadC at h
  split at h
  · rename_i n ha hs
    rw [Bool.cond_eq_ite] at h
    split at h
    · rename_i hb
      have hb := Nat.le_of_ble_eq_true hb
      simp at h
      subst h
      refine run_loadVar_agg ha hs (l := ((l.drop off).take n).map (SC.den β)) (by simp; omega) ?_
      intro j c hj
      rw [hcell]
      rw [List.getElem?_map] at hj
      have : l[off + j]?.map (SC.den β) = some c := by
        rw [← hj, List.getElem?_take]
        split
        · rw [List.getElem?_drop]
        · rename_i hjn
          rw [List.getElem?_take, if_neg hjn] at hj
          cases hj
      simp [dens, this]
    · cases h
  · rename_i ha
    split at h
    · rename_i c hl
      simp at h
      subst h
      exact run_loadVar_one ha (by rw [hcell]; simp [dens, hl]; rfl)
    · cases h
  · simp at h
theorem run_loadIn {P : Program} [Fast P] [Ab P] [AbOk P] {π : Pi} (hπ : facts π) {β : Bl} {t : TypeId} {H : SH} {nm : Nat} {off : Off} {ps : List Tm} {v : SV} (h : loadIn P π t H nm off = some (ps, v)) (hp : ∀ p ∈ ps, p.tv = true) {w : World} {R : HProp} (hw : Holds w (hden β H * R)) :
    (loadVar t ⟨β nm, off.v, none⟩).run P w = .ok (v.den β) w := by
  unfold loadIn at h
  split at h
  · split at h
    · rename_i m k x ns hf
      rw [Bool.cond_eq_ite] at h
      split at h
      · rename_i hm
        exact AbOk.inner_ok h hπ hp (memb_mem hm) (focus hf hw)
      · cases h
    · cases h
  · cases h
theorem run_loadV {P : Program} [Fast P] [Ab P] [AbOk P] {π : Pi} (hπ : facts π) {β : Bl} {t : TypeId} {H : SH} {x : SV} {ps : List Tm} {v : SV} (h : loadV P π t H x = some (ps, v)) (hp : ∀ p ∈ ps, p.tv = true) {w : World} {R : HProp} (hw : Holds w (hden β H * R)) :
    (Instr.loadAt t (x.den β)).run P w = .ok (v.den β) w := by
  unfold loadV at h
  split at h
  · rename_i nm off
    have key : (loadVar t ⟨β nm, off, none⟩).run P w = .ok (v.den β) w → (Instr.loadAt t ((SV.a (.one (.ptr nm off))).den β)).run P w = .ok (v.den β) w := by
      intro hk
      unfold Instr.loadAt
      simp [SV.den, SA.den, SC.den, Instr.sureAddr]
      exact hk
    split at h
    · rename_i l T hf
      split at h
      · rename_i u hl
        simp at h; obtain ⟨rfl, rfl⟩ := h
        exact key (run_loadC hl (focus hf hw))
      · cases h
    · rename_i k y ns hf
      exact key (AbOk.load_ok h hπ hp (focus hf hw))
    · exact key (run_loadIn hπ h hp hw)
  · rename_i nm b i st o
    have key : (loadVar t ⟨β nm, (Off.el b i st o).v, none⟩).run P w = .ok (v.den β) w → (Instr.loadAt t ((SV.a (.one (.ptrR nm b i st o))).den β)).run P w = .ok (v.den β) w := by
      intro hk
      unfold Instr.loadAt
      simp [SV.den, SA.den, SC.den, Instr.sureAddr]
      exact hk
    split at h
    · rename_i k y ns hf
      exact key (AbOk.load_ok h hπ hp (focus hf hw))
    · exact key (run_loadIn hπ h hp hw)
    · cases h
  · simp at h
theorem run_openV {P : Program} [Fast P] [Ab P] [AbOk P] {β : Bl} {t : TypeId} {H : SH} {n : Nat} {x : SV} {nm : Nat} {o : SO} {v : SV} (h : openV P t H n x = some (nm, o, v)) {w : World} {R : HProp} (hw : Holds w (hden β H * R)) (hH : hwf n H) (hag : ∀ wb, Ag n β (upd β n wb)) :
    ∃ wb : Nat, (Instr.loadAt t (x.den β)).run P w = .ok (v.den (upd β n wb)) w ∧ Holds w (hden (upd β n wb) (put H nm o) * R) ∧ v.wf (n + 1) ∧ v.isTop = false ∧ hwf (n + 1) (put H nm o) := by
  unfold openV at h
  split at h
  · rename_i nm' off
    split at h
    · rename_i k y ns hf
      split at h
      · rename_i u ns' ho
        simp only [Option.some.injEq, Prod.mk.injEq] at h
        obtain ⟨rfl, rfl, rfl⟩ := h
        obtain ⟨wb, h1, h2⟩ := AbOk.opens_ok ho (focus hf hw)
        obtain ⟨o1, o2, o3⟩ := Ab.opens_wf ho (hH _ (find_mem hf)).2
        have hnm : nm' < n := (hH _ (find_mem hf)).1
        have hdel : hwf n (del H nm') := del_wf hH
        refine ⟨wb, ?_, ?_, o1, o3, put_wf (hwf_mono (Nat.le_succ n) hH) o2⟩
        · unfold Instr.loadAt
          simp [SV.den, SA.den, SC.den, Instr.sureAddr]
          exact h1
        · have hput : hden (upd β n wb) (put H nm' (.abs k y ns')) = (SO.den (upd β n wb) (upd β n wb nm') (.abs k y ns') * hden (upd β n wb) (del H nm')) := put_den H hf
          rw [hput, hden_ext (hag wb) hdel, hag wb nm' hnm]
          exact h2.cast (by rw [star_assoc]; rfl)
      · cases h
    · cases h
  · cases h
end
/-! ### stores -/
def storeV (P : Program) [Fast P] (t : TypeId) (H : SH) (x y : SV) : Option (Nat × SO) :=
  match x, y with
  | .a (.one (.ptr nm off)), .a y =>
    match find H nm, tySize P t with
    | some (.cells l T), some n =>
      bif y.cells.all SC.okc && (Nat.beq y.cells.length n && Nat.ble (off + n) l.length) then some (nm, .cells (over l off y.cells) T) else none
    | _, _ => none
  | _, _ => none
theorem storeV_wf {P : Program} [Fast P] {t : TypeId} {H : SH} {x y : SV} {nm : Nat} {o : SO} (h : storeV P t H x y = some (nm, o)) {n : Nat} (hH : hwf n H) (hy : y.wf n) : hwf n (put H nm o) := by
  unfold storeV at h
  split at h
  · split at h
    · rename_i hf _
      rw [Bool.cond_eq_ite] at h
      split at h
      · simp at h; obtain ⟨rfl, rfl⟩ := h
        exact put_wf hH (over_wf (hH _ (find_mem hf)).2 (SA.cells_wf hy))
      · cases h
    · cases h
  · cases h
section
variable [Interp] [Vars]
theorem SC.okc_one {β : Bl} {c : SC} (h : c.okc = true) : (c.den β).oneCell' = true := by
  cases c <;> first | rfl | cases h
theorem run_storeCells {P : Program} {β : Bl} {R : HProp} {b T : Nat} : ∀ (cs : List SC) (l : List SC) (off : Nat) (w : World) (i : Nat), Holds w (pt b (.cells (dens β l) T (0, 0)) * R) → off + i + cs.length ≤ l.length → (∀ c ∈ cs, c.okc = true) →
    ∃ w', (storeCells ⟨b, off, none⟩ (cs.map (SC.den β)) i).run P w = .ok () w' ∧ Holds w' (pt b (.cells (dens β (over l (off + i) cs)) T (0, 0)) * R) ∧ Strm w w'
  | [], l, off, w, i, hw, hl, hc => by
    refine ⟨w, by simp [storeCells], ?_, Strm.refl w⟩
    simpa [over] using hw
  | c :: cs, l, off, w, i, hw, hl, hc => by
    simp only [List.length_cons] at hl
    have hlt : off + i < l.length := by omega
    have hcell : w.cell? ⟨b, off + i, none⟩ = some ((l[off + i]).den β) := by rw [hw.cells]; simp [dens, hlt]
    have hfr := hw.frees (off + i)
    have h1 := hw.set (off + i) (c.den β)
    have e1 : (dens β l).setIfInBounds (off + i) (c.den β) = dens β (l.set (off + i) c) := by simp [dens, List.map_set]
    rw [e1] at h1
    obtain ⟨w', h2, h3, h4⟩ := run_storeCells (P := P) cs (l.set (off + i) c) off _ (i + 1) h1 (by simp; omega) (fun x hx => hc x (List.mem_cons_of_mem _ hx))
    refine ⟨w', ?_, ?_, ((Strm.refl w).set _ _).trans h4⟩
    · rw [List.map_cons, storeCells]
      simp only [Sem.run_bind, addr_add, run_store P w _ _ _ (SC.okc_one (hc c (List.mem_cons_self ..))), hcell, hfr, Bool.false_eq_true, if_false, Result.andThen_ok]
      exact h2
    · have e2 : over (l.set (off + i) c) (off + (i + 1)) cs = over l (off + i) (c :: cs) := by
        unfold over
        have e5 : (l.set (off + i) c).take (off + (i + 1)) = l.take (off + i) ++ [c] := by
          rw [show off + (i + 1) = off + i + 1 by omega, List.take_succ_eq_append_getElem (by simpa using hlt)]
          simp only [List.getElem_set_self]
          congr 1
          apply List.ext_getElem?
          intro k
          rw [List.getElem?_take, List.getElem?_take]
          split
          · rw [List.getElem?_set_ne (by omega)]
          · rfl
        rw [e5, List.length_cons, show off + (i + 1) + cs.length = off + i + (cs.length + 1) by omega, List.drop_set_of_lt (by omega)]
        simp
      rw [e2] at h3
      exact h3
theorem all_okc_plain {y : SA} (h : y.cells.all SC.okc = true) : y.plain = true := by
  cases y with
  | agg l => rfl
  | one c => show c.okc = true; simpa [SA.cells] using h
theorem run_storeV {P : Program} [Fast P] {β : Bl} {t : TypeId} {H : SH} {x y : SV} {nm : Nat} {o : SO} (h : storeV P t H x y = some (nm, o)) {w : World} {R : HProp} (hw : Holds w (hden β H * R)) :
    ∃ w', (Instr.storeAt t (x.den β) (y.den β)).run P w = .ok () w' ∧ Holds w' (hden β (put H nm o) * R) ∧ Strm w w' := by
  unfold storeV at h
  split at h
  · rename_i nm off y
    split at h
    · rename_i l T n hf hs
      rw [Bool.cond_eq_ite] at h
      split at h
      · rename_i hb
        rw [Bool.and_eq_true, Bool.and_eq_true] at hb
        obtain ⟨h1, h2, h3⟩ := hb
        simp at h
        obtain ⟨rfl, rfl⟩ := h
        have h2' : y.cells.length = n := Nat.eq_of_beq_eq_true h2
        have h3' : off + n ≤ l.length := Nat.le_of_ble_eq_true h3
        obtain ⟨w', r1, r2, r3⟩ := run_storeCells (P := P) y.cells l off w 0 (focus hf hw) (by omega) (fun c hc => List.all_eq_true.1 h1 c hc)
        refine ⟨w', ?_, unfocus hf r2, r3⟩
        have hy : (y.den β).cells = dens β y.cells := SA.cells_den β y (all_okc_plain h1)
        have hsz : (dens β y.cells).size = n := by simp [dens, h2']
        show (Instr.storeAt t (.pointer (some ⟨β nm, off, none⟩)) (y.den β)).run P w = _
        generalize y.den β = yv at hy
        unfold Instr.storeAt storeVar
        simp only [Sem.run_bind, Instr.sureAddr, Sem.run_pure, Result.andThen_ok, run_sizeOf' hs]
        rw [hy, if_neg (by rw [hsz]; simp)]
        simpa [dens] using r1
      · cases h
    · simp at h
  · simp at h
end
/-! ### new blocks -/
theorem upd_ag (β : Bl) (n b : Nat) : Ag n β (upd β n b) := by
  intro m hm
  unfold upd
  cases h : Nat.beq m n with
  | true => have := Nat.eq_of_beq_eq_true h; omega
  | false => rfl
theorem upd_self (β : Bl) (n b : Nat) : upd β n b n = b := by unfold upd; rw [Nat.beq_refl]; rfl
def rowOf (z : List SC) (k : Nat) : List SC := (List.range (k * z.length)).map fun i => (z[i % z.length]?).getD .nil
def sliceC (P : Program) [Fast P] (t : TypeId) (len : Nat) (parts : List (Nat × SA)) : Option (TypeId × List SC) :=
  match Fast.und P t with
  | some (.slice e) =>
    match tySize P e, zeroC P e with
    | some n, some z =>
      bif Nat.beq z.length n && (Nat.blt 0 (len * n) && Nat.ble (len * n) 4096) then
        match fillC (fun i => some (i * n, n)) (rowOf z len) parts with
        | some l => some (e, l)
        | none => none
      else none
    | _, _ => none
  | _ => none
theorem rowOf_wf {n : Nat} {z : List SC} (hz : lwf n z) (k : Nat) : lwf n (rowOf z k) := by
  intro c hc
  obtain ⟨i, _, rfl⟩ := List.mem_map.1 hc
  cases h : z[i % z.length]? with
  | none => trivial
  | some c => exact hz c (List.mem_of_getElem? h)
theorem sliceC_wf {P : Program} [Fast P] {n : Nat} {t : TypeId} {len : Nat} {parts : List (Nat × SA)} {e : TypeId} {l : List SC} (h : sliceC P t len parts = some (e, l)) (hp : ∀ p ∈ parts, p.2.wf n) : lwf n l := by
  unfold sliceC at h
  split at h
  · split at h
    · rename_i hz
      rw [Bool.cond_eq_ite] at h
      split at h
      · split at h
        · rename_i hl
          simp at h; obtain ⟨_, rfl⟩ := h
          exact fillC_wf _ _ _ _ hl (rowOf_wf (zeroC_wf hz n) _) hp
        · cases h
      · cases h
    · cases h
  · cases h
section
variable [Interp] [Vars] {w : World} {R : HProp} {β : Bl}
theorem alloc_holds {n : Nat} {H : SH} (hw : Holds w (hden β H * R)) (hH : hwf n H) {l : List SC} (hl : lwf n l) (T : Nat) :
    Holds (w.alloc (.cells (dens β l) T)) (hden (upd β n w.heap.size) ((n, SO.cells l T) :: H) * R) := by
  refine (hw.alloc (.cells (dens β l) T)).cast ?_
  show _ = (pt (upd β n w.heap.size n) (.cells (dens (upd β n w.heap.size) l) T (0, 0)) * hden (upd β n w.heap.size) H) * R
  rw [hden_ext (upd_ag β n _) hH, dens_ext (upd_ag β n _) hl, upd_self]
  ac_rfl
theorem run_alloc' {P : Program} [Fast P] {t : TypeId} {l : List SC} (h : zeroC P t = some l) : (Instr.alloc t true (.tuple #[])).run P w = .ok (.pointer (some ⟨w.heap.size, 0, none⟩)) (w.alloc (.cells (dens β l) t)) := by
  unfold zeroC at h
  split at h
  · rename_i v hv
    simp only [Option.some.injEq] at h
    subst h
    unfold Instr.alloc newVar newRow
    simp [run_zeroValue' hv, dens_of]
  · cases h
theorem run_box' {P : Program} {t : TypeId} {x : SA} (h : x.plain = true) : (Instr.box t (x.den β)).run P w = .ok (.pointer (some ⟨w.heap.size, 0, none⟩)) (w.alloc (.cells (dens β x.cells) t)) := by
  unfold Instr.box newVar newRow
  simp [SA.cells_den β x h]
theorem run_sliceC {P : Program} [Fast P] {t : TypeId} {len : Nat} {parts : List (Nat × SA)} {e : TypeId} {l : List SC} (h : sliceC P t len parts = some (e, l)) :
    (Instr.buildSlice t len (parts.map fun p => (p.1, p.2.den β)).toArray).run P w = .ok (.slice (some ⟨w.heap.size, 0, none⟩) len len) (w.alloc (.cells (dens β l) e)) := by
  unfold sliceC at h
  split at h
  · rename_i e' hu
    split at h
    · rename_i n z hs hz
      rw [Bool.cond_eq_ite] at h
      split at h
      · rename_i hc
        rw [Bool.and_eq_true, Bool.and_eq_true] at hc
        have c1 := Nat.eq_of_beq_eq_true hc.1
        have c2 : 0 < len * n := Nat.le_of_ble_eq_true hc.2.1
        have c3 := Nat.le_of_ble_eq_true hc.2.2
        split at h
        · rename_i l' hf
          simp only [Option.some.injEq, Prod.mk.injEq] at h
          obtain ⟨rfl, rfl⟩ := h
          have hfd := fillC_den β _ _ _ _ hf
          unfold zeroC at hz
          split at hz
          · rename_i v hv
            · simp only [Option.some.injEq] at hz
              have hzv : dens β z = v.cells := by rw [← hz]; exact dens_of β _
              have hz0 : z.length = v.cells.size := by rw [← hz]; simp
              have hrow : dens β (rowOf z len) = (Array.range (len * n)).map (v.cells[· % v.cells.size]!) := by
                unfold dens rowOf
                rw [← hzv, List.map_map, c1]
                apply Array.ext'
                simp only [Array.toList_map, Array.toList_range]
                apply List.map_congr_left
                intro i hi'
                have hpos : 0 < z.length := by
                  rcases Nat.eq_zero_or_pos z.length with h | h
                  · rw [c1] at h; rw [h] at c2; simp at c2
                  · exact h
                have hlt : i % n < z.length := by rw [← c1]; exact Nat.mod_lt _ hpos
                have hsz : (dens β z).size = n := by simp [dens, c1]
                simp only [Function.comp]
                rw [hsz]
                have e1 : (dens β z)[i % n]! = (z[i % n]).den β := by
                  rw [getElem!_pos (dens β z) (i % n) (by simpa [dens] using hlt)]
                  simp [dens]
                rw [e1, List.getElem?_eq_getElem hlt]
                rfl
              have hn0 : ¬ (len * n > 2 ^ 24) := by omega
              have hn1 : ¬ (len * n = 0) := by omega
              unfold Instr.buildSlice
              have hzr : (zeroValue e').run P w = .ok v w := run_zeroValue' hv w
              simp only [Sem.run_bind, run_underlying' hu, Result.andThen_ok, run_sizeOf' hs, if_neg hn0, if_neg hn1, hzr, Sem.run_pure]
              rw [← hrow]
              simp only [hfd]
              unfold newRow
              simp
          · cases hz
        · cases h
      · cases h
    · cases h
  · cases h
end
end Go.Proofs.Ytfapicccijbanaa.Ef
