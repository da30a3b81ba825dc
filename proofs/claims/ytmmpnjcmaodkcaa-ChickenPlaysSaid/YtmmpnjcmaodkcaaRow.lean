/- What is proved: a slice that the program owns, as a part of the heap ('Row'): reading it, and the builtin append on it. Conditions: stated with each lemma. -/
import Derived.Test.YtmmpnjcmaodkcaaSep
import Derived.OwnWalk
namespace Go.Proofs.Ytmmpnjcmaodkcaa.Sep
open Go Go.RowKit

/-- A slice's value v with n elements of a type (size cells each) that read as the cells xs: nothing, or a block of its own. -/
def Row (e : TypeId) (size : Nat) (v : Value) (n : Nat) (xs : List Value) : HProp := fun h =>
  xs.length = n * size ∧ ((v = .slice none 0 0 ∧ n = 0) ∨
    ∃ g cap cur, v = .slice (some ⟨g, 0, none⟩) n cap ∧ n ≤ cap ∧ cap ≤ maxLen ∧ cur.size = cap * size ∧ cur.toList.take (n * size) = xs ∧ pt g (.cells cur e (0, 0)) h)

theorem row_nil (e : TypeId) (size : Nat) : ∀ h, Row e size (.slice none 0 0) 0 [] h := fun _ => ⟨by simp, Or.inl ⟨rfl, rfl⟩⟩
theorem row_mk {e : TypeId} {size : Nat} (g n cap : Nat) (cur : Array Value) (h1 : n ≤ cap) (h2 : cap ≤ maxLen) (h3 : cur.size = cap * size) :
    ∀ h, pt g (.cells cur e (0, 0)) h → Row e size (.slice (some ⟨g, 0, none⟩) n cap) n (cur.toList.take (n * size)) h := by
  intro h hp
  refine ⟨?_, Or.inr ⟨g, cap, cur, rfl, h1, h2, h3, rfl, hp⟩⟩
  rw [List.length_take, Array.length_toList, h3]
  exact Nat.min_eq_left (Nat.mul_le_mul_right _ h1)
theorem Holds.row {w : World} {R : HProp} {e : TypeId} {size : Nat} {v : Value} {n : Nat} {xs : List Value} (H : Holds w (Row e size v n xs * R)) :
    xs.length = n * size ∧ ((v = .slice none 0 0 ∧ n = 0 ∧ Holds w R) ∨
      ∃ g cap cur, v = .slice (some ⟨g, 0, none⟩) n cap ∧ n ≤ cap ∧ cap ≤ maxLen ∧ cur.size = cap * size ∧ cur.toList.take (n * size) = xs ∧ Holds w (pt g (.cells cur e (0, 0)) * R)) := by
  have HR := H.drop
  obtain ⟨h, a, h1, h2, d, ee, ⟨hl, p⟩, r⟩ := H
  refine ⟨hl, ?_⟩
  rcases p with ⟨rfl, rfl⟩ | ⟨g, cap, cur, rfl, i1, i2, i3, i4, hp⟩
  · exact Or.inl ⟨rfl, rfl, HR⟩
  · exact Or.inr ⟨g, cap, cur, rfl, i1, i2, i3, i4, h, a, h1, h2, d, ee, hp, r⟩

theorem Holds.append {P : Program} {w : World} {R : HProp} {t ty e : TypeId} {i : TypeInfo} {z : Value} {size bytes : Nat} (ht : P.underlying t = some (.slice e)) (hi : P.info? e = some i) (hz : i.zero = some z)
    (hsize : i.size = size) (hby : i.bytes = bytes) (hzs : z.cells.size = size)
    {v : Value} {n : Nat} {xs : List Value} (H : Holds w (Row e size v n xs * R))
    (a : Addr) (m c : Nat) (news : List Value) (hl : news.length = m * size) (hnews : ∀ j u, news[j]? = some u → w.cell? (a.add j) = some u) (h1 : ∀ u ∈ news, u.oneCell' = true)
    (hm : 0 < m) (h63 : n + m ≤ maxLen) (hbytes : (n + m) * bytes ≤ 140737488355328) :
    ∃ v' w', (Builtin.append_ #[t, t] ty #[v, .slice (some a) m c]).run P w = .ok v' w' ∧ Holds w' (Row e size v' (n + m) (xs ++ news) * R) ∧ Strm w w' := by
  subst hsize
  subst hby
  have hsmall : n + m ≤ 9223372036854775807 := by simp only [maxLen] at h63; omega
  obtain ⟨hxl, hc⟩ := H.row
  have grown : ∀ (old : Nat), old < n + m → Holds w R →
      Holds (w.drew.alloc (.cells (xs.toArray ++ news.toArray ++ Builtin.zeroCells z.cells (grownCap w (n + m) old e - (n + m))) e))
        (Row e i.size (.slice (some ⟨w.heap.size, 0, none⟩) (n + m) (grownCap w (n + m) old e)) (n + m) (xs ++ news) * R) := by
    intro old ho HR
    have hge := grownCap_ge w (n + m) old e
    have hcm : grownCap w (n + m) old e ≤ maxLen := grownCap_le_maxLen w (n + m) old e h63
    have hlen : (xs ++ news).length = (n + m) * i.size := by rw [List.length_append, hxl, hl, Nat.add_mul]
    refine (HR.drew.alloc _).mono (star_mono (fun h hp => ?_) (fun _ r => r))
    refine ⟨hlen, Or.inr ⟨_, _, _, rfl, hge, hcm, ?_, ?_, hp⟩⟩
    · simp only [Array.size_append, List.size_toArray, size_zeroCells, hzs, hxl, hl, ← Nat.add_mul]
      congr 1
      omega
    · simp only [Array.toList_append, List.append_assoc]
      rw [← List.append_assoc, ← hlen]
      exact List.take_left
  rcases hc with ⟨rfl, rfl, HR⟩ | ⟨g, cap, cur, rfl, hnc, hcm, hcs, htake, HP⟩
  · have hx : xs = [] := List.eq_nil_of_length_eq_zero (by simpa using hxl)
    subst hx
    have hr := run_append_nil (P := P) w t ty e i z ht hi hz a m c news hl hnews hm (by omega) (by simp only [Nat.zero_add] at hbytes; omega)
    have hgr := grown 0 (by omega) HR
    simp only [Nat.zero_add, List.nil_append, Array.empty_append] at hgr ⊢
    exact ⟨_, _, hr, hgr, (Strm.refl w).drew.alloc _⟩
  · have hg := HP.block
    by_cases hroom : n + m ≤ cap
    · have hfit : n * i.size + news.length ≤ cur.size := by rw [hl, hcs, ← Nat.add_mul]; exact Nat.mul_le_mul_right _ hroom
      have hr := run_append_room (P := P) w t ty e i ht hi g n cap cur hg a m c news hl hnews h1 hroom hfit
      refine ⟨_, _, hr, ?_, ⟨rfl, rfl, rfl, by simp [World.setRow]⟩⟩
      refine (HP.upd (setRow_heap w g cur _ e _ hg) (fun k hk => setRow_other w g k _ hk)).mono (star_mono (fun h hp => ?_) (fun _ r => r))
      refine ⟨by rw [List.length_append, hxl, hl, Nat.add_mul], Or.inr ⟨g, cap, _, rfl, hroom, hcm, ?_, ?_, hp⟩⟩
      · simp only [List.size_toArray, List.length_append, List.length_take, List.length_drop, Array.length_toList]
        omega
      · have hlen : (xs ++ news).length = (n + m) * i.size := by rw [List.length_append, hxl, hl, Nat.add_mul]
        rw [htake, ← hlen]
        exact List.take_left
    · have holds : ∀ j u, xs[j]? = some u → w.cell? ((⟨g, 0, none⟩ : Addr).add j) = some u := by
        intro j u hu
        have hadd : (⟨g, 0, none⟩ : Addr).add j = ⟨g, j, none⟩ := by unfold Addr.add; split <;> simp_all
        rw [hadd, cell_of_row w g j cur e (0, 0) hg]
        rw [← htake, List.getElem?_take] at hu
        split at hu
        · simpa using hu
        · cases hu
      have hr := run_append_grow (P := P) w t ty e i z ht hi hz ⟨g, 0, none⟩ n cap xs hxl holds a m c news hl hnews (by omega) (by omega) (growslice_fits (by omega) hbytes)
      exact ⟨_, _, hr, grown cap (by omega) HP.drop, (Strm.refl w).drew.alloc _⟩

theorem wpList_append_row {P : Program} (w : World) {ops : Array Oper} {rest : List Oper} {o : Oper} {a : Act} {Q : Exit → Act → World → Prop} (hgd : o.guard = none) (s x : Operand) (t : TypeId)
    (ho : o.op = .call { callee := .builtin .append, args := #[s, x], argTypes := #[t, t] })
    (e : TypeId) (i : TypeInfo) (z : Value) (size bytes : Nat) (ht : P.underlying t = some (.slice e)) (hi : P.info? e = some i) (hz : i.zero = some z)
    (hsize : i.size = size) (hby : i.bytes = bytes) (hzs : z.cells.size = size)
    (R : HProp) (v : Value) (n : Nat) (xs : List Value) (H : Holds w (Row e size v n xs * R)) (hs : a.eval s = v)
    (ad : Addr) (m c : Nat) (news : List Value) (hx : a.eval x = .slice (some ad) m c) (hl : news.length = m * size) (hnews : ∀ j u, news[j]? = some u → w.cell? (ad.add j) = some u) (h1 : ∀ u ∈ news, u.oneCell' = true)
    (hm : 0 < m) (h63 : n + m ≤ maxLen) (hbytes : (n + m) * bytes ≤ 140737488355328)
    (h : ∀ ao c' w', Holds w' (Row e size (.slice ao (n + m) c') (n + m) (xs ++ news) * R) → Strm w w' → wpList P ops Q rest (a.put o.dst (.slice ao (n + m) c')) w') : wpList P ops Q (o :: rest) a w := by
  refine wpList_plain hgd fun K hK => ?_
  obtain ⟨v', w', hr, h2, h3⟩ := H.append (ty := o.type) ht hi hz hsize hby hzs ad m c news hl hnews h1 hm h63 hbytes
  unfold Oper.wp execOp
  simp only [ho, resolve, invoke, builtin, Sem.run_bind, Sem.run_pure, Result.andThen_ok, List.map_toArray, List.map_cons, List.map_nil, hs, hx, hr]
  obtain ⟨ao, c', rfl⟩ : ∃ ao c', v' = .slice ao (n + m) c' := by
    obtain ⟨_, ⟨rfl, e, _⟩ | ⟨g, cap, _, rfl, _⟩⟩ := h2.row
    · exact ⟨none, 0, by rw [e]⟩
    · exact ⟨_, cap, rfl⟩
  exact hK _ _ (h ao c' w' h2 h3)
/-- The cells of a block that has just been made. -/
theorem news_alloc (w : World) (l : List Value) (t : TypeId) (b : Nat) (hb : b = w.heap.size) : ∀ j u, l[j]? = some u → (w.alloc (.cells l.toArray t)).cell? ((⟨b, 0, none⟩ : Addr).add j) = some u := by
  intro j u hu
  have hadd : (⟨b, 0, none⟩ : Addr).add j = ⟨b, j, none⟩ := by unfold Addr.add; split <;> simp_all
  subst hb
  rw [hadd, cell_of_row _ _ j l.toArray t (0, 0) (heap_alloc_new w _)]
  simpa using hu
end Go.Proofs.Ytmmpnjcmaodkcaa.Sep
