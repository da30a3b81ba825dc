/- What is proved: contracts of a memory's clone: what it holds, Load and Len of it. Conditions: stated with each contract. -/
import Derived.Test.YtmmpnjcmaodkcaaMemNew
import Derived.WalkSpells
import Derived.OrdersHeld
import Derived.Deep.RegionHeld3
namespace Go.Proofs.Ytmmpnjcmaodkcaa.Sep
open Go Go.RowKit
/-- The same of a slice that is not nil, of none, too. -/
theorem Holds.appendS {P : Program} {w : World} {R : HProp} {t ty e : TypeId} {i : TypeInfo} {z : Value} {size bytes : Nat} (ht : P.underlying t = some (.slice e)) (hi : P.info? e = some i) (hz : i.zero = some z)
    (hsize : i.size = size) (hby : i.bytes = bytes) (hzs : z.cells.size = size)
    {v : Value} {n : Nat} {xs : List Value} (H : Holds w (Row e size v n xs * R))
    (a : Addr) (m c : Nat) (news : List Value) (hl : news.length = m * size) (hnews : ∀ j u, news[j]? = some u → w.cell? (a.add j) = some u) (h1 : ∀ a k cap, v = .slice a k cap → cap = 0)
    (hv : v ≠ .slice none 0 0) (h63 : n + m ≤ maxLen) (hbytes : (n + m) * bytes ≤ 140737488355328) :
    ∃ v' w', (Builtin.append_ #[t, t] ty #[v, .slice (some a) m c]).run P w = .ok v' w' ∧ Holds w' (Row e size v' (n + m) (xs ++ news) * R) ∧ Strm w w' := by
  subst hsize
  subst hby
  have hsmall : n + m ≤ 9223372036854775807 := by simp only [maxLen] at h63; omega
  obtain ⟨hxl, hc⟩ := H.row
  have grown : ∀ (old : Nat), old < n + m → Holds w R →
      Holds (w.drew.alloc (.cells (xs.toArray ++ news.toArray ++ Builtin.zeroCells z.cells (grownCap w (n + m) old e - (n + m))) e))
        (Row e i.size (.slice (some ⟨w.heap.size, 0, none⟩) (n + m) (grownCap w (n + m) old e)) (n + m) (xs ++ news) * R) := by
    intro old ho HR
    have hge := grownCap_ge w (n + m) old e
    have hcm : grownCap w (n + m) old e ≤ maxLen := grownCap_le_maxLen w (n + m) old e h63
    have hlen : (xs ++ news).length = (n + m) * i.size := by rw [List.length_append, hxl, hl, Nat.add_mul]
    refine (HR.drew.alloc _).mono (star_mono (fun h hp => ?_) (fun _ r => r))
    refine ⟨hlen, Or.inr ⟨_, _, _, rfl, hge, hcm, ?_, ?_, hp⟩⟩
    · simp only [Array.size_append, List.size_toArray, size_zeroCells, hzs, hxl, hl, ← Nat.add_mul]
      congr 1
      omega
    · simp only [Array.toList_append, List.append_assoc]
      rw [← List.append_assoc, ← hlen]
      exact List.take_left
  rcases hc with ⟨rfl, rfl, HR⟩ | ⟨g, cap, cur, rfl, hnc, hcm, hcs, htake, HP⟩
  · exact absurd rfl hv
  · have hg := HP.block
    by_cases hroom : n + m ≤ cap
    · have hc0 := h1 _ _ _ rfl
      have hm0 : m = 0 := by omega
      have hn0 : news = [] := List.eq_nil_of_length_eq_zero (by rw [hl, hm0]; simp)
      have h1 : ∀ u ∈ news, u.oneCell' = true := by rw [hn0]; intro u hu; cases hu
      have hfit : n * i.size + news.length ≤ cur.size := by rw [hl, hcs, ← Nat.add_mul]; exact Nat.mul_le_mul_right _ hroom
      have hr := run_append_room (P := P) w t ty e i ht hi g n cap cur hg a m c news hl hnews h1 hroom hfit
      refine ⟨_, _, hr, ?_, ⟨rfl, rfl, rfl, by simp [World.setRow]⟩⟩
      refine (HP.upd (setRow_heap w g cur _ e _ hg) (fun k hk => setRow_other w g k _ hk)).mono (star_mono (fun h hp => ?_) (fun _ r => r))
      refine ⟨by rw [List.length_append, hxl, hl, Nat.add_mul], Or.inr ⟨g, cap, _, rfl, hroom, hcm, ?_, ?_, hp⟩⟩
      · simp only [List.size_toArray, List.length_append, List.length_take, List.length_drop, Array.length_toList]
        omega
      · have hlen : (xs ++ news).length = (n + m) * i.size := by rw [List.length_append, hxl, hl, Nat.add_mul]
        rw [htake, ← hlen]
        exact List.take_left
    · have holds : ∀ j u, xs[j]? = some u → w.cell? ((⟨g, 0, none⟩ : Addr).add j) = some u := by
        intro j u hu
        have hadd : (⟨g, 0, none⟩ : Addr).add j = ⟨g, j, none⟩ := by unfold Addr.add; split <;> simp_all
        rw [hadd, cell_of_row w g j cur e (0, 0) hg]
        rw [← htake, List.getElem?_take] at hu
        split at hu
        · simpa using hu
        · cases hu
      have hr := run_append_grow (P := P) w t ty e i z ht hi hz ⟨g, 0, none⟩ n cap xs hxl holds a m c news hl hnews (by omega) (by omega) (growslice_fits (by omega) hbytes)
      exact ⟨_, _, hr, grown cap (by omega) HP.drop, (Strm.refl w).drew.alloc _⟩

theorem wpList_append_rowS {P : Program} (w : World) {ops : Array Oper} {rest : List Oper} {o : Oper} {a : Act} {Q : Exit → Act → World → Prop} (hgd : o.guard = none) (s x : Operand) (t : TypeId)
    (ho : o.op = .call { callee := .builtin .append, args := #[s, x], argTypes := #[t, t] })
    (e : TypeId) (i : TypeInfo) (z : Value) (size bytes : Nat) (ht : P.underlying t = some (.slice e)) (hi : P.info? e = some i) (hz : i.zero = some z)
    (hsize : i.size = size) (hby : i.bytes = bytes) (hzs : z.cells.size = size)
    (R : HProp) (v : Value) (n : Nat) (xs : List Value) (H : Holds w (Row e size v n xs * R)) (hs : a.eval s = v)
    (ad : Addr) (m c : Nat) (news : List Value) (hx : a.eval x = .slice (some ad) m c) (hl : news.length = m * size) (hnews : ∀ j u, news[j]? = some u → w.cell? (ad.add j) = some u) (h1 : ∀ a k cap, v = .slice a k cap → cap = 0)
    (hv : v ≠ .slice none 0 0) (h63 : n + m ≤ maxLen) (hbytes : (n + m) * bytes ≤ 140737488355328)
    (h : ∀ ao c' w', Holds w' (Row e size (.slice ao (n + m) c') (n + m) (xs ++ news) * R) → Strm w w' → wpList P ops Q rest (a.put o.dst (.slice ao (n + m) c')) w') : wpList P ops Q (o :: rest) a w := by
  refine wpList_plain hgd fun K hK => ?_
  obtain ⟨v', w', hr, h2, h3⟩ := H.appendS (ty := o.type) ht hi hz hsize hby hzs ad m c news hl hnews h1 hv h63 hbytes
  unfold Oper.wp execOp
  simp only [ho, resolve, invoke, builtin, Sem.run_bind, Sem.run_pure, Result.andThen_ok, List.map_toArray, List.map_cons, List.map_nil, hs, hx, hr]
  obtain ⟨ao, c', rfl⟩ : ∃ ao c', v' = .slice ao (n + m) c' := by
    obtain ⟨_, ⟨rfl, e, _⟩ | ⟨g, cap, _, rfl, _⟩⟩ := h2.row
    · exact ⟨none, 0, by rw [e]⟩
    · exact ⟨_, cap, rfl⟩
  exact hK _ _ (h ao c' w' h2 h3)
end Go.Proofs.Ytmmpnjcmaodkcaa.Sep
namespace Go.Proofs.Ytmmpnjcmaodkcaa.Mem
open Go Go.RowKit Go.Proofs.Ytmmpnjcmaodkcaa.Sep
set_option maxRecDepth 100000
set_option linter.unusedVariables false
set_option linter.unusedSimpArgs false
def Wl (ws : List Int) : List Value := ws.map (Value.int .u64)
theorem addr_add0 (b j : Nat) : (⟨b, 0, none⟩ : Addr).add j = ⟨b, j, none⟩ := by unfold Addr.add; split <;> simp_all
set_option maxHeartbeats 1000000 in
theorem cloneW (w : World) (R : HProp) (wb : Nat) (ws : List Int) (h0 : 1 ≤ ws.length) (hl : ws.length ≤ 4096) (H : Holds w (pt wb (.cells (W ws) 38 (0, 0)) * R)) :
    Calls Try.prog 72 #[.slice (some ⟨wb, 0, none⟩) ws.length ws.length] w fun e w' => ∃ ao c', e = .returned (.slice ao ws.length c') ∧ Holds w' (Row 38 1 (.slice ao ws.length c') ws.length (Wl ws) * (pt wb (.cells (W ws) 38 (0, 0)) * R)) ∧ Strm w w' := by
  obtain ⟨i0, hi, hz0, hz1, hz2⟩ := info_parts info48
  have hcn := Lib.run_eql_slice_nil (P := Try.prog) w 47 38 (some ⟨wb, 0, none⟩) ws.length ws.length 0 0 Try.underlying47
  simp only [Option.isNone_some] at hcn
  have H1 := H.alloc (.cells #[] 38)
  have H4 : Holds (w.alloc (.cells #[] 38)) (Row 38 1 (.slice (some ⟨w.heap.size, 0, none⟩) 0 0) 0 [] * (pt wb (.cells (W ws) 38 (0, 0)) * R)) :=
    H1.mono (star_mono (fun h hp => row_mk w.heap.size 0 0 #[] (by omega) (by unfold maxLen; omega) rfl h hp) (fun _ r => r))
  have k1 : Hid (∀ j u, (Wl ws)[j]? = some u → (w.alloc (.cells #[] 38)).cell? ((⟨wb, 0, none⟩ : Addr).add j) = some u) := by
    intro j u hu
    have H2 := H1.drop
    rw [addr_add0]
    refine H2.cell j u ?_
    simpa [W, Wl] using hu
  have k2 : Hid (∀ u ∈ Wl ws, u.oneCell' = true) := by intro u hu; simp [Wl] at hu; obtain ⟨x, _, rfl⟩ := hu; rfl
  have k3 : Hid ((Wl ws).length = ws.length * 1) := by simp [Wl, Hid]
  clear H H1
  go_enter Try.func72, Try.ntmps72
  go_wp2_with (at_builtin; refine wpList_append_row _ rfl (.tmp 5) (.tmp 6) 47 rfl 38 i0 _ 1 8 Try.underlying47 hi hz0 hz1 hz2 rfl _ _ 0 [] H4 rfl ⟨wb, 0, none⟩ ws.length ws.length (Wl ws) rfl k3.out k1.out k2.out (by omega) (by unfold maxLen; omega) (by omega) ?_)
  intro ao c' w5 H5 s5
  go_wp2_with fail
  go_ret
  exact ⟨_, _, rfl, H5, (Strm.refl w).alloc _ |>.trans s5⟩
set_option maxHeartbeats 1000000 in
theorem cloneA (w : World) (R : HProp) (v : Value) (n : Nat) (xs : List Value) (hn : n < 1099511627776) (H : Holds w (Row 128 3 v n xs * R)) :
    Calls Try.prog 73 #[v] w fun e w' => ∃ ao c', e = .returned (.slice ao n c') ∧ Holds w' (Row 128 3 (.slice ao n c') n xs * (Row 128 3 v n xs * R)) ∧ Strm w w' := by
  obtain ⟨i0, hi, hz0, hz1, hz2⟩ := info_parts info127
  obtain ⟨hxl, ⟨rfl, rfl, HR⟩ | ⟨g, cap, cur, rfl, hnc, hcm, hcs, htake, HP⟩⟩ := H.row
  · have hcn := Lib.run_eql_slice_nil (P := Try.prog) w 48 128 none 0 0 0 0 Try.underlying48
    simp only [Option.isNone_none] at hcn
    have hxs : xs = [] := List.eq_nil_of_length_eq_zero (by simpa using hxl)
    subst hxs
    have HH : Hid (Holds w (Row 128 3 (.slice none 0 0) 0 [] * (Row 128 3 (.slice none 0 0) 0 [] * R))) :=
      (H.cast (Q := emp * (Row 128 3 (.slice none 0 0) 0 [] * R)) (by rw [star_empl])).mono (star_mono (fun h _ => row_nil _ _ h) (fun _ r => r))
    clear H
    go_enter Try.func73, Try.ntmps73
    go_wp2_with fail
    go_ret
    exact ⟨_, _, rfl, HH.out, Strm.refl w⟩
  · have hcn := Lib.run_eql_slice_nil (P := Try.prog) w 48 128 (some ⟨g, 0, none⟩) n cap 0 0 Try.underlying48
    simp only [Option.isNone_some] at hcn
    have H1 := HP.alloc (.cells #[] 128)
    have H4 : Holds (w.alloc (.cells #[] 128)) (Row 128 3 (.slice (some ⟨w.heap.size, 0, none⟩) 0 0) 0 [] * (pt g (.cells cur 128 (0, 0)) * R)) :=
      H1.mono (star_mono (fun h hp => row_mk w.heap.size 0 0 #[] (by omega) (by unfold maxLen; omega) rfl h hp) (fun _ r => r))
    have k1 : Hid (∀ j u, xs[j]? = some u → (w.alloc (.cells #[] 128)).cell? ((⟨g, 0, none⟩ : Addr).add j) = some u) := by
      intro j u hu
      have H2 := H1.drop
      rw [addr_add0]
      refine H2.cell j u ?_
      rw [← htake, List.getElem?_take] at hu
      split at hu
      · simpa using hu
      · cases hu
    have k3 : Hid (xs.length = n * 3) := hxl
    have k4 : Hid (∀ h, pt g (.cells cur 128 (0, 0)) h → Row 128 3 (.slice (some ⟨g, 0, none⟩) n cap) n xs h) := fun h hp => ⟨hxl, Or.inr ⟨g, cap, cur, rfl, hnc, hcm, hcs, htake, hp⟩⟩
    clear H H1 HP hxl htake hcs
    go_enter Try.func73, Try.ntmps73
    go_wp2_with (at_builtin; refine wpList_append_rowS _ rfl (.tmp 5) (.tmp 6) 48 rfl 128 i0 _ 3 24 Try.underlying48 hi hz0 hz1 hz2 rfl _ _ 0 [] H4 rfl ⟨g, 0, none⟩ n cap xs rfl k3.out k1.out (by intro a k c h; cases h; rfl) (by simp) (by unfold maxLen; omega) (by omega) ?_)
    intro ao c' w5 H5 s5
    go_wp2_with fail
    go_ret
    exact ⟨_, _, rfl, H5.mono (star_mono (fun h hp => hp) (star_mono (fun h hp => k4.out h hp) (fun _ r => r))), (Strm.refl w).alloc _ |>.trans s5⟩
/-- A clone: its words' slice may have more room. -/
def CloneP (mb : Nat) (M : MS) : HProp := fun h => ∃ wb cap cur tv xs, M.ws.length ≤ cap ∧ cap ≤ maxLen ∧ cur.size = cap ∧ cur.toList.take M.ws.length = Wl M.ws ∧
  (pt mb (.cells #[.slice (some ⟨wb, 0, none⟩) M.ws.length cap, .int .i64 (M.cnt : Int), .int .i64 (M.tr : Int), tv] 101 (0, 0)) * (pt wb (.cells cur 38 (0, 0)) * Row 128 3 tv M.n xs)) h
theorem cloneP_open {mb : Nat} {M : MS} {w : World} {R : HProp} (H : Holds w (CloneP mb M * R)) : ∃ (wb cap : Nat) (cur : Array Value) (tv : Value) (xs : List Value), M.ws.length ≤ cap ∧ cap ≤ maxLen ∧ cur.size = cap ∧ cur.toList.take M.ws.length = Wl M.ws ∧
    Holds w (pt mb (.cells #[.slice (some ⟨wb, 0, none⟩) M.ws.length cap, .int .i64 (M.cnt : Int), .int .i64 (M.tr : Int), tv] 101 (0, 0)) * (pt wb (.cells cur 38 (0, 0)) * (Row 128 3 tv M.n xs * R))) := by
  obtain ⟨h, a, h1, h2, d, ee, ⟨wb, cap, cur, tv, xs, p1, p2, p3, p4, p5⟩, r⟩ := H
  have H' : Holds w ((pt mb (.cells #[.slice (some ⟨wb, 0, none⟩) M.ws.length cap, .int .i64 (M.cnt : Int), .int .i64 (M.tr : Int), tv] 101 (0, 0)) * (pt wb (.cells cur 38 (0, 0)) * Row 128 3 tv M.n xs)) * R) := ⟨h, a, h1, h2, d, ee, p5, r⟩
  exact ⟨wb, cap, cur, tv, xs, p1, p2, p3, p4, H'.cast (by simp only [star_assoc])⟩
theorem cloneP_close {mb : Nat} {M : MS} {w : World} {R : HProp} {wb cap : Nat} {cur : Array Value} {tv : Value} {xs : List Value} (p1 : M.ws.length ≤ cap) (p2 : cap ≤ maxLen) (p3 : cur.size = cap) (p4 : cur.toList.take M.ws.length = Wl M.ws)
    (H : Holds w (pt mb (.cells #[.slice (some ⟨wb, 0, none⟩) M.ws.length cap, .int .i64 (M.cnt : Int), .int .i64 (M.tr : Int), tv] 101 (0, 0)) * (pt wb (.cells cur 38 (0, 0)) * (Row 128 3 tv M.n xs * R)))) : Holds w (CloneP mb M * R) := by
  have H' : Holds w ((pt mb (.cells #[.slice (some ⟨wb, 0, none⟩) M.ws.length cap, .int .i64 (M.cnt : Int), .int .i64 (M.tr : Int), tv] 101 (0, 0)) * (pt wb (.cells cur 38 (0, 0)) * Row 128 3 tv M.n xs)) * R) := H.cast (by simp only [star_assoc])
  exact H'.mono (star_mono (fun h hp => ⟨wb, cap, cur, tv, xs, p1, p2, p3, p4, hp⟩) (fun _ r => r))
set_option maxHeartbeats 2000000 in
theorem clone_calls (w : World) (R : HProp) (mb : Nat) (M : MS) (H : Holds w (MemP 101 mb M * R)) (hok : M.ok) (h0 : 1 ≤ M.ws.length) :
    Calls Try.prog 61 #[.pointer (some ⟨mb, 0, none⟩)] w fun e w' => ∃ cb, e = .returned (.pointer (some ⟨cb, 0, none⟩)) ∧ Holds w' (CloneP cb M * (MemP 101 mb M * R)) ∧ Strm w w' := by
  obtain ⟨wb, tv, xs, H⟩ := memP_open H
  have c1 := H.cells
  have CW : Hid (∀ w R, Holds w (pt wb (.cells (W M.ws) 38 (0, 0)) * R) → Calls Try.prog 72 #[.slice (some ⟨wb, 0, none⟩) M.ws.length M.ws.length] w fun e w' => ∃ ao c', e = .returned (.slice ao M.ws.length c') ∧ Holds w' (Row 38 1 (.slice ao M.ws.length c') M.ws.length (Wl M.ws) * (pt wb (.cells (W M.ws) 38 (0, 0)) * R)) ∧ Strm w w') := fun w R H => cloneW w R wb M.ws h0 hok.len H
  have CA : Hid (∀ w R, Holds w (Row 128 3 tv M.n xs * R) → Calls Try.prog 73 #[tv] w fun e w' => ∃ ao c', e = .returned (.slice ao M.n c') ∧ Holds w' (Row 128 3 (.slice ao M.n c') M.n xs * (Row 128 3 tv M.n xs * R)) ∧ Strm w w') := fun w R H => cloneA w R tv M.n xs hok.n H
  have HH : Hid (Holds w (pt mb (.cells #[.slice (some ⟨wb, 0, none⟩) M.ws.length M.ws.length, .int .i64 (M.cnt : Int), .int .i64 (M.tr : Int), tv] 101 (0, 0)) * (pt wb (.cells (W M.ws) 38 (0, 0)) * (Row 128 3 tv M.n xs * R)))) := H
  have H0 : Hid (Holds w.drew (pt wb (.cells (W M.ws) 38 (0, 0)) * (pt mb (.cells #[.slice (some ⟨wb, 0, none⟩) M.ws.length M.ws.length, .int .i64 (M.cnt : Int), .int .i64 (M.tr : Int), tv] 101 (0, 0)) * (Row 128 3 tv M.n xs * R)))) := H.drew.cast (by ac_rfl)
  have HN : Hid (M.ws.length ≠ 0) := by show M.ws.length ≠ 0; omega
  clear H hok h0
  go_enter Try.func61, Try.ntmps61
  go_wp2_with fail
  go_region_held3 (fun w' => w'.cell? ⟨mb, 0, none⟩ = some (.slice (some ⟨wb, 0, none⟩) M.ws.length M.ws.length) ∧ w'.cell? ⟨mb, 1, none⟩ = some (.int .i64 (M.cnt : Int)) ∧ w'.cell? ⟨mb, 2, none⟩ = some (.int .i64 (M.tr : Int)) ∧ w'.cell? ⟨mb, 3, none⟩ = some tv) (first | exact ⟨c1 0, c1 1, c1 2, c1 3⟩ | exact ⟨c2 0, c2 1, c2 2, c2 3⟩ | exact ⟨c3 0, c3 1, c3 2, c3 3⟩ | exact ⟨c4 0, c4 1, c4 2, c4 3⟩)
    (first | (go_at_call 72; (with_reducible refine (CW.out _ _ H0.out).mono ?_); rintro e w2 ⟨ao1, cp1, rfl, H2, s2⟩; have H2' := H2.cast (Q := Row 128 3 tv M.n xs * (pt mb (.cells #[.slice (some ⟨wb, 0, none⟩) M.ws.length M.ws.length, .int .i64 (M.cnt : Int), .int .i64 (M.tr : Int), tv] 101 (0, 0)) * (Row 38 1 (.slice ao1 M.ws.length cp1) M.ws.length (Wl M.ws) * (pt wb (.cells (W M.ws) 38 (0, 0)) * R)))) (by ac_rfl); have c2 := H2'.drop.cells) | (go_at_call 73; (with_reducible refine (CA.out _ _ H2').mono ?_); rintro e w3 ⟨ao3, cp3, rfl, H3, s3⟩; have c3 := H3.drop.drop.cells; have H4 := H3.alloc (.cells #[.slice ao1 M.ws.length cp1, .int .i64 (M.cnt : Int), .int .i64 (M.tr : Int), .slice ao3 M.n cp3] 101); have c4 := H4.drop.drop.drop.cells))
  go_wp2_with fail
  go_ret
  refine ⟨w3.heap.size, rfl, ?_, ((((Strm.refl w).drew).trans s2).trans s3).alloc _⟩
  have H5 := H4.cast (Q := pt mb (.cells #[.slice (some ⟨wb, 0, none⟩) M.ws.length M.ws.length, .int .i64 (M.cnt : Int), .int .i64 (M.tr : Int), tv] 101 (0, 0)) * (pt wb (.cells (W M.ws) 38 (0, 0)) * (Row 128 3 tv M.n xs * (Row 38 1 (.slice ao1 M.ws.length cp1) M.ws.length (Wl M.ws) * (pt w3.heap.size (.cells #[.slice ao1 M.ws.length cp1, .int .i64 (M.cnt : Int), .int .i64 (M.tr : Int), .slice ao3 M.n cp3] 101 (0, 0)) * (Row 128 3 (.slice ao3 M.n cp3) M.n xs * R)))))) (by ac_rfl)
  have H6 := (memP_close H5).cast (Q := Row 38 1 (.slice ao1 M.ws.length cp1) M.ws.length (Wl M.ws) * (pt w3.heap.size (.cells #[.slice ao1 M.ws.length cp1, .int .i64 (M.cnt : Int), .int .i64 (M.tr : Int), .slice ao3 M.n cp3] 101 (0, 0)) * (Row 128 3 (.slice ao3 M.n cp3) M.n xs * (MemP 101 mb M * R)))) (by ac_rfl)
  obtain ⟨_, ⟨e1, e2, _⟩ | ⟨g, cap, cur, e1, q1, q2, q3, q4, H7⟩⟩ := H6.row
  · exact absurd e2 HN.out
  · cases e1
    exact cloneP_close (cap := cp1) (cur := cur) q1 q2 (by rw [q3]; omega) (by simpa using q4) (H7.cast (by ac_rfl))
def DoesC (K : Nat) (C : Array Value) (wb a len cap : Nat) (cur : Array Value) (ok : Bool) (D D' : HProp) : Prop :=
  ∀ (w1 : World) (R1 : HProp), Holds w1 (pt wb (.cells cur 38 (0, 0)) * (D * R1)) →
    Calls Try.prog K (#[.slice (some ⟨wb, a, none⟩) (len - a) (cap - a)] ++ C) w1 fun e w2 =>
      e = .returned (.bool ok) ∧ Holds w2 (pt wb (.cells cur 38 (0, 0)) * (D' * R1)) ∧ Strm w1 w2
set_option maxHeartbeats 1000000 in
theorem access_inC (w : World) (R D D' : HProp) (mb wb cap : Nat) (cur : Array Value) (M : MS) (p1 : M.ws.length ≤ cap) (p2 : cap ≤ maxLen) (ok : Bool) (tv : Value) (xs : List Value) (op a : Int) (K : Nat) (C : Array Value)
    (H : Holds w (pt mb (.cells #[.slice (some ⟨wb, 0, none⟩) M.ws.length cap, .int .i64 (M.cnt : Int), .int .i64 (M.tr : Int), tv] 101 (0, 0)) * (pt wb (.cells cur 38 (0, 0)) * (D * (Row 128 3 tv M.n xs * R)))))
    (hcf : ∀ (args : Array Value) (w : World), (callFunc K args).run Try.prog w = .ok (.enter K args) w)
    (hdo : DoesC K C wb a.toNat M.ws.length cap cur ok D D')
    (hok : M.ok) (h0 : 0 ≤ a) (h1 : a < M.ws.length) :
    Calls Try.prog 49 #[.pointer (some ⟨mb, 0, none⟩), .int .i64 op, .int .i64 a, .int .i64 1, .func (.func K) #[] C] w fun e w' => e = .returned (.tuple #[]) ∧ ∃ (tv2 : Value) (xs2 : List Value),
      Holds w' (pt mb (.cells #[.slice (some ⟨wb, 0, none⟩) M.ws.length cap, .int .i64 ((M.cnt : Int) + 1), .int .i64 (M.tr : Int), tv2] 101 (0, 0)) * (pt wb (.cells cur 38 (0, 0)) * (Row 128 3 tv2 (M.n + 1) xs2 * (D' * R)))) ∧ Strm w w' := by
  obtain ⟨hl, hwd, hcn, htn, hnn⟩ := hok
  clear hwd
  have hc0 := H.cell 0 (.slice (some ⟨wb, 0, none⟩) M.ws.length cap) rfl
  obtain ⟨i0, hi, hz0, hz1, hz2⟩ := info_parts info127
  have HH : Hid (Holds w (pt mb (.cells #[.slice (some ⟨wb, 0, none⟩) M.ws.length cap, .int .i64 (M.cnt : Int), .int .i64 (M.tr : Int), tv] 101 (0, 0)) * (pt wb (.cells cur 38 (0, 0)) * (D * (Row 128 3 tv M.n xs * R))))) := H
  have HD : Hid (DoesC K C wb a.toNat M.ws.length cap cur ok D D') := hdo
  clear H hdo
  go_enter Try.func49, Try.ntmps49
  go_wp2_with fail
  refine (HD.out w (Row 128 3 tv M.n xs * (pt mb (.cells #[.slice (some ⟨wb, 0, none⟩) M.ws.length cap, .int .i64 (M.cnt : Int), .int .i64 (M.tr : Int), tv] 101 (0, 0)) * R)) (HH.out.cast (by ac_rfl))).mono ?_
  rintro e w2 ⟨rfl, H2, s2⟩
  have H2' := H2.cast (Q := pt mb (.cells #[.slice (some ⟨wb, 0, none⟩) M.ws.length cap, .int .i64 (M.cnt : Int), .int .i64 (M.tr : Int), tv] 101 (0, 0)) * (Row 128 3 tv M.n xs * (pt wb (.cells cur 38 (0, 0)) * (D' * R)))) (by ac_rfl)
  have hc1 := H2'.cell 1 (.int .i64 (M.cnt : Int)) rfl
  have hc3 := H2'.cell 3 tv rfl
  have hf1 := H2'.free 1
  have H3 := (H2'.set 1 (.int .i64 ((M.cnt : Int) + 1))).alloc (.cells #[.int .i64 op, .int .i64 a, .bool ok] 128)
  have H4 := H3.drop.cast (Q := Row 128 3 tv M.n xs * (pt mb (.cells #[.slice (some ⟨wb, 0, none⟩) M.ws.length cap, .int .i64 ((M.cnt : Int) + 1), .int .i64 (M.tr : Int), tv] 101 (0, 0)) * (pt wb (.cells cur 38 (0, 0)) * (D' * R)))) (by simp only [List.setIfInBounds_toArray, List.set_cons_succ, List.set_cons_zero]; ac_rfl)
  have k1 : Hid (∀ j u, [Value.int .i64 op, .int .i64 a, .bool ok][j]? = some u → ((w2.setCell ⟨mb, 1, none⟩ (.int .i64 ((M.cnt : Int) + 1))).alloc (.cells #[.int .i64 op, .int .i64 a, .bool ok] 128)).cell? ((⟨w2.heap.size, 0, none⟩ : Addr).add j) = some u) := news_alloc (w2.setCell ⟨mb, 1, none⟩ (.int .i64 ((M.cnt : Int) + 1))) [.int .i64 op, .int .i64 a, .bool ok] _ _ (by simp [World.setCell])
  have k2 : Hid (∀ u ∈ [Value.int .i64 op, .int .i64 a, .bool ok], u.oneCell' = true) := by intro u hu; simp at hu; rcases hu with rfl | rfl | rfl <;> rfl
  have k3 : Hid (M.n + 1 ≤ maxLen) := by unfold maxLen Hid; omega
  go_wp2_with (at_builtin; refine wpList_append_row _ rfl (.tmp 66) (.tmp 71) 48 rfl 128 i0 _ 3 24 Try.underlying48 hi hz0 hz1 hz2 rfl _ tv M.n xs H4 rfl ⟨w2.heap.size, 0, none⟩ 1 1 [.int .i64 op, .int .i64 a, .bool ok] rfl rfl k1.out k2.out (by omega) k3.out (by omega) ?_)
  clear H3 H4 H2' hc1 hc3 hf1 k1 k2 k3
  intro ao c' w5 H5 s5
  have H6 := H5.cast (Q := pt mb (.cells #[.slice (some ⟨wb, 0, none⟩) M.ws.length cap, .int .i64 ((M.cnt : Int) + 1), .int .i64 (M.tr : Int), tv] 101 (0, 0)) * (pt wb (.cells cur 38 (0, 0)) * (Row 128 3 (.slice ao (M.n + 1) c') (M.n + 1) (xs ++ [.int .i64 op, .int .i64 a, .bool ok]) * (D' * R)))) (by ac_rfl)
  have hc3 := H6.cell 3 tv rfl
  have hf3 := H6.free 3
  have H7 := H6.set 3 (.slice ao (M.n + 1) c')
  go_wp2_with fail
  go_end0
  refine ⟨rfl, .slice ao (M.n + 1) c', xs ++ [.int .i64 op, .int .i64 a, .bool ok], H7.cast ?_, ((s2.set _ _).alloc _ |>.trans s5).set _ _⟩
  simp only [List.setIfInBounds_toArray, List.set_cons_succ, List.set_cons_zero]
set_option maxHeartbeats 1000000 in
theorem load1C (wb bx a len cap : Nat) (cur : Array Value) (v0 x : Int) (h1 : a < len) (hl : len ≤ 4096) (hx : cur[a]? = some (.int .u64 x)) : DoesC 50 #[.pointer (some ⟨bx, 0, none⟩)] wb a len cap cur true
    (pt bx (.cells #[.int .u64 v0] 38 (0, 0))) (pt bx (.cells #[.int .u64 x] 38 (0, 0))) := by
  intro w R H
  have hc : w.cell? ⟨wb, a, none⟩ = some (.int .u64 x) := H.cell a _ hx
  have H2 := H.cast (Q := pt bx (.cells #[.int .u64 v0] 38 (0, 0)) * (pt wb (.cells cur 38 (0, 0)) * R)) (by ac_rfl)
  have hb := H2.cell 0 (.int .u64 v0) rfl
  have hf := H2.free 0
  have H3 := H2.set 0 (.int .u64 x)
  clear H H2 hx
  have hlt : 0 < len - a := by omega
  simp only [List.append_toArray, List.cons_append, List.nil_append]
  go_enter Try.func50, Try.ntmps50
  go_wp2_with fail
  go_ret
  exact ⟨rfl, H3.cast (by simp only [List.setIfInBounds_toArray, List.set_cons_zero]; ac_rfl), (Strm.refl w).set _ _⟩
theorem cur_get {M : MS} {cur : Array Value} (p4 : cur.toList.take M.ws.length = Wl M.ws) {a : Nat} (h : a < M.ws.length) : cur[a]? = some (.int .u64 (M.ws.getD a 0)) := by
  have := congrArg (fun l : List Value => l[a]?) p4
  simp only [List.getElem?_take, if_pos h] at this
  rw [← Array.getElem?_toList, this]
  simp [Wl, h]
set_option maxHeartbeats 1000000 in
theorem loadC_in (w : World) (R : HProp) (mb : Nat) (M : MS) (a : Int) (H : Holds w (CloneP mb M * R)) (hok : M.ok) (h0 : 0 ≤ a) (h1 : a < M.ws.length) :
    Calls Try.prog 18 #[.pointer (some ⟨mb, 0, none⟩), .int .i64 a] w fun e w' => e = .returned (.int .u64 (M.get a)) ∧ Holds w' (CloneP mb (M.acc true) * R) ∧ Strm w w' := by
  obtain ⟨wb, cap, cur, tv, xs, p1, p2, p3, p4, H⟩ := cloneP_open H
  have hx := cur_get p4 (a := a.toNat) (by omega)
  have ex : M.get a = M.ws.getD a.toNat 0 := rfl
  rw [← ex] at hx
  generalize M.get a = x at hx ⊢
  have H1 := (H.alloc (.cells #[.int .u64 0] 38)).cast (Q := pt mb (.cells #[.slice (some ⟨wb, 0, none⟩) M.ws.length cap, .int .i64 (M.cnt : Int), .int .i64 (M.tr : Int), tv] 101 (0, 0)) * (pt wb (.cells cur 38 (0, 0)) * (pt w.heap.size (.cells #[.int .u64 0] 38 (0, 0)) * (Row 128 3 tv M.n xs * R)))) (by ac_rfl)
  have hd : Hid (DoesC 50 #[.pointer (some ⟨w.heap.size, 0, none⟩)] wb a.toNat M.ws.length cap cur true _ _) := load1C wb w.heap.size a.toNat M.ws.length cap cur 0 x (by omega) hok.len hx
  clear hx ex
  have HK : Hid M.ok := hok
  have HP : Hid (cur.size = cap ∧ cur.toList.take M.ws.length = Wl M.ws) := ⟨p3, p4⟩
  clear H hok p3 p4
  go_enter Try.func18, Try.ntmps18
  go_wp2_with (go_at_call 49; refine (access_inC _ R _ _ mb wb cap cur M p1 p2 true tv xs 1 a 50 _ H1 callFn41 hd.out HK.out h0 h1).mono ?_; rintro e w2 ⟨rfl, tv2, xs2, H2, s2⟩; have H3 := H2.cast (Q := pt w.heap.size (.cells #[.int .u64 x] 38 (0, 0)) * (pt mb (.cells #[.slice (some ⟨wb, 0, none⟩) M.ws.length cap, .int .i64 ((M.cnt : Int) + 1), .int .i64 (M.tr : Int), tv2] 101 (0, 0)) * (pt wb (.cells cur 38 (0, 0)) * (Row 128 3 tv2 (M.n + 1) xs2 * R)))) (by ac_rfl); have hb := H3.cell 0 (.int .u64 x) rfl; have hf := H3.free 0)
  refine bodyPost_ret (v := .int .u64 x) (by simp [results, Try.results18, go_sem, hb, hf]) rfl ⟨rfl, ?_, ((Strm.refl w).alloc _ |>.trans s2).set _ _⟩
  exact cloneP_close (M := M.acc true) (cap := cap) (cur := cur) p1 p2 HP.out.1 HP.out.2 ((H3.set 0 (.int .u64 x)).drop.cast (by unfold MS.acc; rfl))
set_option maxHeartbeats 1000000 in
theorem lenC_calls (w : World) (R : HProp) (mb : Nat) (M : MS) (H : Holds w (CloneP mb M * R)) :
    Calls Try.prog 62 #[.pointer (some ⟨mb, 0, none⟩)] w fun e w' => e = .returned (.int .i64 (M.ws.length : Int)) ∧ Holds w' (CloneP mb M * R) ∧ Strm w w' := by
  have HH : Hid (Holds w (CloneP mb M * R)) := H
  obtain ⟨wb, cap, cur, tv, xs, p1, p2, p3, p4, H⟩ := cloneP_open H
  have hc0 := H.cell 0 (.slice (some ⟨wb, 0, none⟩) M.ws.length cap) rfl
  clear H p3 p4
  go_enter Try.func62, Try.ntmps62
  go_wp2_with fail
  go_ret
  exact ⟨rfl, HH.out, Strm.refl w⟩
end Go.Proofs.Ytmmpnjcmaodkcaa.Mem
