/- Several texts in one: Over1 Over2 Over3 Over HistY. Each says ahead of it what it shows. -/
import Derived.Test.YtdjkblnocooldaaGreatBf
import Derived.Test.YtdjkblnocooldaaGreatB1
import Derived.Lib.SliceRun
import Derived.Test.YtdjkblnocooldaaGreatBc
/- Which calls are over (hist.Over): the closure, slices.Clone and slices.IndexFunc as Over calls them. Conditions: the deeds lie in memory as told; at most a million deeds. -/
namespace Go.Proofs.YtdjkblnocooldaaGreat
open Go.RowKit Go.SepYtdjkblnocooldaaGreat Go.Maps
set_option linter.unusedSimpArgs false
set_option linter.unusedVariables false
set_option maxRecDepth 100000
set_option maxHeartbeats 4000000
theorem open_calls (d : DeedM) (w : World) : Tells 84 #[deedV d] w (.bool (decide (d.stop < 0))) := by
  have K := Lib.hid (sat.start w)
  go_enter Tryz.func84, Tryz.ntmps84
  go_wp2_with (((with_reducible refine at_box ?_); refine st_boxf K.out rfl rfl (fun _ => rfl) ?_; intro gx w1 K1; have K2 := Lib.hid K1; clear K1 K; (try clear a0); (try clear l0); (try clear a1); (try clear l1); (try clear a2); (try clear l2); have K := K2; clear K2; have a0 := K.out.rd 0 rfl; have l0 := K.out.ltp 0 rfl))
  all_goals (go_ret; exact ⟨ret_b (by simp_all <;> omega), K.out.below⟩)
/-- What slices.IndexFunc tells: the first deed that is under way, or -1. -/
def idxP (l : List DeedM) (r : Int) : Prop := (r = -1 ∧ ∀ d ∈ l, 0 ≤ d.stop) ∨ ∃ k : Nat, ∃ hk : k < l.length, r = k ∧ l[k].stop < 0 ∧ ∀ d ∈ l.take k, 0 ≤ d.stop
theorem idxf_calls (p : Option Addr) (l : List DeedM) (cap : Nat) (w : World) (hl : l.length ≤ 1000000) (h : OldD w p l) :
    Calls Tryz.prog 113 #[.slice p l.length cap, .func (.func 84) #[] #[]] w fun e w' => ∃ r, e = .returned (.int .i64 r) ∧ idxP l r ∧ Below w.heap.size w w' := by
  have K := Lib.hid (sat.start w)
  have H := Lib.hid h
  clear h
  go_enter Tryz.func113, Tryz.ntmps113
  go_wp2
  go_loopg [8] l.length (fun gk i w' => ∃ n : Nat, n + gk = l.length ∧ i = .int .i64 n ∧ (∀ d ∈ l.take n, 0 ≤ d.stop) ∧ Below w.heap.size w w')
  case atStart => exact ⟨0, by simp, rfl, by simp, Below.refl _ _⟩
  case round =>
    obtain ⟨n, hn, rfl, hall, hb⟩ := hrel
    have K1 : sat w wr [] := sat.nil hb
    clear K hb
    have K := Lib.hid K1
    clear K1
    have HA := Lib.hid hall
    clear hall
    by_cases hlt : n < l.length
    · have d0 : decide (n < l.length) = true := by simpa using hlt
      obtain ⟨b, off, rfl, hb0, hx0⟩ := H.out n hlt; have hx : ∀ i u, (DeedM.v l[n])[i]? = some u → wr.cell? ⟨b, off + n * 11 + i, none⟩ = some u := fun i u hi => (K.out.below.cell (p := ⟨b, off + n * 11 + i, none⟩) hb0).trans (hx0 i u hi); have y0 : wr.cell? ⟨b, off + n * 11, none⟩ = _ := hx 0 _ rfl; have y1 := hx 1 _ rfl; have y2 := hx 2 _ rfl; have y3 := hx 3 _ rfl; have y4 := hx 4 _ rfl; have y5 := hx 5 _ rfl; have y6 := hx 6 _ rfl; have y7 := hx 7 _ rfl; have y8 := hx 8 _ rfl; have y9 := hx 9 _ rfl; have y10 := hx 10 _ rfl; clear hx hx0 hb0
      have HN := Lib.hid hn
      clear hn
      have C13 := fun w' => Lib.hid (open_calls l[n] w')
      have E1 := Lib.hid (show (∀ d ∈ l.take n, 0 ≤ d.stop) → 0 ≤ l[n].stop → ∀ d ∈ l.take (n + 1), 0 ≤ d.stop from fun h1 h2 d hd => by
        rw [List.take_succ_eq_append_getElem hlt, List.mem_append] at hd
        rcases hd with hd | hd
        · exact h1 d hd
        · rw [List.mem_singleton] at hd; subst hd; exact h2)
      have HX := Lib.hid (show ∃ d, d = l[n] from ⟨_, rfl⟩)
      obtain ⟨gk', rfl⟩ : ∃ g', gk = g' + 1 := ⟨gk - 1, by have := HN.out; omega⟩
      by_cases c0 : l[n].stop < 0
      · have t0 : decide (l[n].stop < 0) = true := by simpa using c0
        have C0 := Lib.hid c0
        clear c0
        have HL := Lib.hid hlt
        go_wp2_with ((go_at_call 84; (with_reducible refine ((C13 _).out).mono ?_); rintro r w1 ⟨rfl, hb⟩; have K1 := sat.grown K.out hb; clear hb; have K2 := Lib.hid K1; clear K1 K; (try clear a0); (try clear l0); (try clear a1); (try clear l1); (try clear a2); (try clear l2); have K := K2; clear K2))
        all_goals (go_ret; exact ⟨_, rfl, .inr ⟨n, HL.out, rfl, C0.out, HA.out⟩, K.out.below⟩)
      · have t0 : decide (l[n].stop < 0) = false := by simpa using c0
        have C0 := Lib.hid (show 0 ≤ l[n].stop from by omega)
        clear c0
        go_wp2_with ((go_at_call 84; (with_reducible refine ((C13 _).out).mono ?_); rintro r w1 ⟨rfl, hb⟩; have K1 := sat.grown K.out hb; clear hb; have K2 := Lib.hid K1; clear K1 K; (try clear a0); (try clear l0); (try clear a1); (try clear l1); (try clear a2); (try clear l2); have K := K2; clear K2))
        go_roundg gk'
        case measure => omega
        case rel => exact ⟨n + 1, by have := HN.out; omega, by simp, E1.out HA.out C0.out, K.out.below⟩
    · have hnl : n = l.length := by omega
      subst hnl
      have d0 : decide (l.length < l.length) = false := by simp
      rw [List.take_length] at HA
      go_wp2
      go_ret
      exact ⟨_, rfl, .inl ⟨rfl, HA.out⟩, K.out.below⟩
end Go.Proofs.YtdjkblnocooldaaGreat
/- A copy of deeds (slices.Clone as hist.Over calls it), and rows of deeds of one's own. Conditions: the deeds lie in memory as told; at most a million deeds. -/
namespace Go.Proofs.YtdjkblnocooldaaGreat
open Go.RowKit Go.SepYtdjkblnocooldaaGreat Go.Maps
set_option linter.unusedSimpArgs false
set_option linter.unusedVariables false
set_option maxRecDepth 100000
set_option maxHeartbeats 4000000
theorem deedInfo : ∃ q z, Tryz.prog.info? 47 = some q ∧ q.zero = some z ∧ q.size = 11 ∧ q.bytes = 88 ∧ z.cells.size = 11 := ⟨_, _, rfl, rfl, rfl, rfl, rfl⟩
theorem dd_len : ∀ l : List DeedM, (l.flatMap DeedM.v).length = l.length * 11
  | [] => rfl
  | e :: l => by rw [List.flatMap_cons, List.length_append, dd_len l]; simp; omega
theorem dd_at : ∀ (l : List DeedM) (n : Nat) (h : n < l.length) (i : Nat), i < 11 → (l.flatMap DeedM.v)[n * 11 + i]? = (DeedM.v l[n])[i]?
  | [], n, h, _, _ => by simp at h
  | e :: l, 0, _, i, hi => by
    rw [List.flatMap_cons, List.getElem?_append_left (by simp; omega)]
    simp
  | e :: l, n + 1, h, i, hi => by
    rw [List.flatMap_cons, List.getElem?_append_right (by simp; omega)]
    have := dd_at l n (by simpa using h) i hi
    simp only [List.getElem_cons_succ]
    rw [← this]
    congr 1
    simp
    omega
theorem dd_one (l : List DeedM) : ∀ u ∈ l.flatMap DeedM.v, u.oneCell' = true := by
  intro u hu
  obtain ⟨e, _, he⟩ := List.mem_flatMap.1 hu
  simp at he
  rcases he with rfl | rfl | rfl | rfl | rfl | rfl | rfl | rfl | rfl | rfl | rfl <;> rfl
theorem dd_mod (l : List DeedM) (j : Nat) (u : Value) (h : (l.flatMap DeedM.v)[j]? = some u) : ∃ n i, ∃ hn : n < l.length, j = n * 11 + i ∧ i < 11 ∧ (DeedM.v l[n])[i]? = some u := by
  have hj : j < (l.flatMap DeedM.v).length := by
    rcases Nat.lt_or_ge j (l.flatMap DeedM.v).length with h' | h'
    · exact h'
    · simp [List.getElem?_eq_none h'] at h
  rw [dd_len] at hj
  have hn : j / 11 < l.length := by omega
  refine ⟨j / 11, j % 11, hn, by omega, by omega, ?_⟩
  rw [← dd_at l (j / 11) hn (j % 11) (by omega), show j / 11 * 11 + j % 11 = j by omega]
  exact h
theorem dd_some {E w : World} {L : List SA} {p : Option Addr} {n c e size m : Nat} {xs : List Value} (h : sat E w (rowA (.slice p n c) e size m xs :: L)) (hm : 0 < m) : ∃ g, p = some ⟨g, 0, none⟩ ∧ n = m := by
  obtain ⟨rfl, ⟨_, h0⟩ | ⟨g, rfl⟩⟩ := row_len h
  · omega
  · exact ⟨g, rfl, rfl⟩
theorem oldD_row {E w : World} {L : List SA} {p : Option Addr} {n c t : Nat} {l : List DeedM} (h : sat E w (rowA (.slice p n c) t 11 l.length (l.flatMap DeedM.v) :: L)) : OldD w p l := fun j hj => by
  obtain ⟨g, rfl, rfl⟩ := dd_some h (by omega)
  obtain ⟨_, ⟨h0, _⟩ | ⟨g', cap, cur, h0, _, _, _, _, h5⟩⟩ := h.row_open
  · simp at h0
  · simp at h0
    obtain ⟨rfl, rfl⟩ := h0
    refine ⟨g, 0, rfl, h5.lt, fun i u hi => ?_⟩
    have h6 : i < 11 := by
      rcases Nat.lt_or_ge i 11 with h' | h'
      · exact h'
      · simp [List.getElem?_eq_none (show (DeedM.v l[j]).length ≤ i by simpa using h')] at hi
    rw [Nat.zero_add]
    exact h.row_rd 0 rfl (j * 11 + i) u (by rw [dd_at l j hj i h6]; exact hi)
theorem oldD_new {w : World} {p : Option Addr} {l : List DeedM} (h : OldD w p l) (h0 : 0 < l.length) : ∃ b o, p = some ⟨b, o, none⟩ ∧ ∀ j u, (l.flatMap DeedM.v)[j]? = some u → w.cell? ⟨b, o + j, none⟩ = some u := by
  obtain ⟨b, o, rfl, _, _⟩ := h 0 h0
  refine ⟨b, o, rfl, fun j u hu => ?_⟩
  obtain ⟨n, i, hn, rfl, hi, hv⟩ := dd_mod l j u hu
  obtain ⟨b', o', e, _, hx⟩ := h n hn
  injection e with e
  injection e with e1 e2 _
  subst e1 e2
  rw [← Nat.add_assoc]
  exact hx i u hv
theorem dd_put : ∀ (m : List DeedM) (i : Nat) (d : DeedM), i < m.length → putL (m.flatMap DeedM.v) (i * 11) d.v = (m.set i d).flatMap DeedM.v
  | [], _, _, h => by simp at h
  | e :: m, 0, d, _ => by
    have hp : ∀ xs : List Value, putL xs 0 [] = xs := fun xs => by cases xs <;> rfl
    simp [putL, hp]
  | e :: m, i + 1, d, h => by
    rw [List.set_cons_succ, List.flatMap_cons, List.flatMap_cons, ← dd_put m i d (by simpa using h), show (i + 1) * 11 = i * 11 + 1 + 1 + 1 + 1 + 1 + 1 + 1 + 1 + 1 + 1 + 1 by omega]
    rfl
/-- A row, cut. -/
theorem row_cut2 {E w : World} {L : List SA} {g n c e size m : Nat} {xs : List Value} (h : sat E w (rowA (.slice (some ⟨g, 0, none⟩) n c) e size n xs :: L)) (hm : m ≤ n) : sat E w (rowA (.slice (some ⟨g, 0, none⟩) m c) e size m (xs.take (m * size)) :: L) := by
  obtain ⟨hl, ⟨h0, _⟩ | ⟨g', cap', cur, h0, q1, q2, q3, q4, q5⟩⟩ := h.row_open
  · simp at h0
  · simp at h0
    obtain ⟨rfl, rfl⟩ := h0
    have hms : m * size ≤ n * size := Nat.mul_le_mul_right _ hm
    refine sat.row_shut ?_ (Nat.le_trans hm q1) q2 q3 ?_ q5
    · rw [List.length_take]; omega
    · rw [← q4, List.take_take, Nat.min_eq_left hms]
/-- Cells of a row, set one behind another. -/
def setL : List Value → Nat → List Value → List Value
  | xs, _, [] => xs
  | xs, o, v :: vs => setL (xs.set o v) (o + 1) vs
theorem setL_take : ∀ (vs xs : List Value) (o k : Nat), k ≤ o → (setL xs o vs).take k = xs.take k
  | [], _, _, _, _ => rfl
  | v :: vs, xs, o, k, h => by
    rw [setL, setL_take vs _ (o + 1) k (by omega), List.take_set_of_le h]
theorem row_setL {E : World} {L : List SA} {g n c e size : Nat} : ∀ (vs : List Value) {w : World} {xs : List Value} (o : Nat), sat E w (rowA (.slice (some ⟨g, 0, none⟩) n c) e size n xs :: L) → sat E (w.setCells g o vs) (rowA (.slice (some ⟨g, 0, none⟩) n c) e size n (setL xs o vs) :: L)
  | [], _, _, _, h => h
  | v :: vs, _, _, o, h => row_setL vs (o + 1) (h.row_set o v)
theorem eqlN (w : World) (a : Option Addr) (n c : Nat) : (binOp .eql 36 (.slice a n c) (.slice none 0 0)).run Tryz.prog w = .ok (.bool a.isNone) w := Lib.run_eql_slice_nil w 36 47 a n c 0 0 Tryz.underlying36
attribute [local go_sem] eqlN
theorem clone_calls (p : Option Addr) (l : List DeedM) (cap : Nat) (w : World) (hl : l.length ≤ 1000000) (h : OldD w p l) :
    Calls Tryz.prog 66 #[.slice p l.length cap] w fun e w' => ∃ p1 n1 c1, e = .returned (.slice p1 n1 c1) ∧ sat w w' [rowA (.slice p1 n1 c1) 47 11 l.length (l.flatMap DeedM.v)] := by
  have K := Lib.hid (sat.start w)
  have H := Lib.hid h
  clear h
  have HN := Lib.hid (show ∀ w', Below w.heap.size w w' → 0 < l.length → ∃ b o, p = some ⟨b, o, none⟩ ∧ ∀ j u, (l.flatMap DeedM.v)[j]? = some u → w'.cell? ⟨b, o + j, none⟩ = some u from fun w' hb h0 => oldD_new (H.out.grown hb) h0)
  cases p with
  | none =>
    have hl0 : l = [] := by
      rcases Nat.eq_zero_or_pos l.length with h | h
      · exact List.eq_nil_of_length_eq_zero h
      · obtain ⟨b, off, e, _⟩ := H.out 0 h
        simp at e
    subst hl0
    go_enter Tryz.func66, Tryz.ntmps66
    go_wp2
    go_ret
    exact ⟨_, _, _, rfl, sat.row_nil _ _ K.out⟩
  | some a =>
    go_enter Tryz.func66, Tryz.ntmps66
    go_wp2_with (have KE := sat.row_empty (e := 47) (size := 11) K.out; (with_reducible refine at_append ?_); refine st_append_part 0 47 11 88 Tryz.underlying36 deedInfo KE rfl rfl (news := l.flatMap DeedM.v) rfl (dd_len l) (HN.out _ KE.below) (dd_one l) ?_ ?_ ?_; (· simp only [maxLen]; omega); (· omega); intro pa na ca w1 K1; simp only [List.set, Nat.zero_add, List.nil_append] at K1; clear KE)
    go_ret
    exact ⟨_, _, _, rfl, K1⟩
end Go.Proofs.YtdjkblnocooldaaGreat
/- The calls that are over (slices.DeleteFunc as hist.Over calls it, hist.Over). Conditions: the deeds lie in memory as told; at most a million deeds. -/
namespace Go.Proofs.YtdjkblnocooldaaGreat
open Go.RowKit Go.SepYtdjkblnocooldaaGreat Go.Maps
set_option linter.unusedSimpArgs false
set_option linter.unusedVariables false
set_option maxRecDepth 100000
set_option maxHeartbeats 4000000
def overD (d : DeedM) : Bool := decide (0 ≤ d.stop)
theorem zeroO (w : World) : (zeroValue 47).run Tryz.prog w = .ok (deedV (dz 0 0)) w := by kernel_rfl
/-- clear of a part of a row of one's own. -/
theorem clear_dd {E w : World} {L : List SA} {g n c : Nat} {xs : List Value} (h : sat E w (rowA (.slice (some ⟨g, 0, none⟩) n c) 47 11 n xs :: L)) (i : Nat) (hi : i < n) :
    ∃ vs, ∀ (ty : TypeId) (k : Nat), (Builtin.clear_ #[36] ty #[.slice (some ⟨g, i * 11, none⟩) (n - i) k]).run Tryz.prog w = .ok (.tuple #[]) (w.setCells g (i * 11) vs) := by
  have hlen := h.row_open.1
  have hz : (Builtin.zeroCells (deedV (dz 0 0)).cells (n - i)).toList.length = (n - i) * 11 := by simp [Builtin.zeroCells, Value.cells]
  have h1 : ∀ v ∈ (Builtin.zeroCells (deedV (dz 0 0)).cells (n - i)).toList, v.oneCell' = true := by
    intro v hv
    simp only [Builtin.zeroCells, Array.toList_map, List.mem_map] at hv
    obtain ⟨j, _, rfl⟩ := hv
    have hj : j % 11 < 11 := Nat.mod_lt _ (by omega)
    show ((deedV (dz 0 0)).cells[j % 11]!).oneCell' = true
    generalize j % 11 = t at hj
    match t, hj with
    | 0, _ | 1, _ | 2, _ | 3, _ | 4, _ | 5, _ | 6, _ | 7, _ | 8, _ | 9, _ | 10, _ => rfl
  have hc : ∀ j, j < (n - i) * 11 → ∃ u, xs[i * 11 + j]? = some u := fun j hj => ⟨xs[i * 11 + j]'(by omega), List.getElem?_eq_getElem _⟩
  have hst := run_storeCells_cells (P := Tryz.prog) g (i * 11) (Builtin.zeroCells (deedV (dz 0 0)).cells (n - i)).toList 0 w
    (fun j hj => by rw [hz] at hj; obtain ⟨u, hu⟩ := hc j hj; rw [Nat.add_zero, (h.row_cell _ hu).2.1]; rfl)
    (fun j hj => by rw [hz] at hj; obtain ⟨u, hu⟩ := hc j hj; rw [Nat.add_zero]; exact (h.row_cell _ hu).2.2.1) h1
  rw [Nat.add_zero] at hst
  obtain ⟨m, hm⟩ : ∃ m, n - i = m + 1 := ⟨n - i - 1, by omega⟩
  refine ⟨(Builtin.zeroCells (deedV (dz 0 0)).cells (n - i)).toList, fun ty k => ?_⟩
  rw [hm] at hst ⊢
  obtain ⟨Z, hZ⟩ : ∃ Z, Z = deedV (dz 0 0) := ⟨_, rfl⟩
  have hv : ∀ w, (zeroValue 47).run Tryz.prog w = .ok Z w := by subst hZ; exact zeroO
  rw [← hZ] at hst ⊢
  simp only [Builtin.clear_]
  simp [run_underlying Tryz.underlying36, hv, hst]
theorem dd_take : ∀ (m : List DeedM) (i : Nat), (m.flatMap DeedM.v).take (i * 11) = (m.take i).flatMap DeedM.v
  | [], i => by simp
  | e :: m, 0 => by simp
  | e :: m, i + 1 => by
    rw [List.take_succ_cons, List.flatMap_cons, List.flatMap_cons, ← dd_take m i, show (i + 1) * 11 = i * 11 + 1 + 1 + 1 + 1 + 1 + 1 + 1 + 1 + 1 + 1 + 1 by omega]
    rfl
theorem over_set (m l : List DeedM) (i j : Nat) (hm : m.length = l.length) (hij : i < j) (hj : j < l.length) (h1 : m.take i = (l.take j).filter overD) (h2 : m.drop j = l.drop j) (ho : overD l[j] = true) :
    (m.set i l[j]).take (i + 1) = (l.take (j + 1)).filter overD ∧ (m.set i l[j]).drop (j + 1) = l.drop (j + 1) := by
  constructor
  · rw [List.take_succ_eq_append_getElem (by simp; omega), List.take_set_of_le (Nat.le_refl _), h1, List.getElem_set_self, List.take_succ_eq_append_getElem hj, List.filter_append]
    simp [ho]
  · rw [List.drop_set_of_lt (by omega), ← List.drop_drop, h2, List.drop_drop]
theorem over_skip (m l : List DeedM) (i j : Nat) (hj : j < l.length) (h1 : m.take i = (l.take j).filter overD) (h2 : m.drop j = l.drop j) (ho : overD l[j] = false) :
    m.take i = (l.take (j + 1)).filter overD ∧ m.drop (j + 1) = l.drop (j + 1) := by
  constructor
  · rw [h1, List.take_succ_eq_append_getElem hj, List.filter_append]
    simp [ho]
  · rw [← List.drop_drop, h2, List.drop_drop]
theorem over_at (m l : List DeedM) (j : Nat) (hm : m.length = l.length) (hj : j < l.length) (h2 : m.drop j = l.drop j) : m[j]'(by omega) = l[j] := by
  have a := List.drop_eq_getElem_cons (show j < m.length by omega)
  have b := List.drop_eq_getElem_cons hj
  rw [h2, b] at a
  injection a with a _
  exact a.symm
theorem over_none (l : List DeedM) (h : ∀ d ∈ l, 0 ≤ d.stop) : l.filter overD = l := List.filter_eq_self.2 fun d hd => by simpa [overD] using h d hd
theorem over_first (l : List DeedM) (k : Nat) (hk : k < l.length) (hs : l[k].stop < 0) (h : ∀ d ∈ l.take k, 0 ≤ d.stop) : l.take k = (l.take (k + 1)).filter overD := by
  rw [List.take_succ_eq_append_getElem hk, List.filter_append, over_none _ h]
  have : overD l[k] = false := by simp [overD]; omega
  simp [this]
end Go.Proofs.YtdjkblnocooldaaGreat
/- slices.DeleteFunc as hist.Over calls it; hist.Over. Conditions: the deeds lie in memory as told; at most a million deeds. -/
namespace Go.Proofs.YtdjkblnocooldaaGreat
open Go.RowKit Go.SepYtdjkblnocooldaaGreat Go.Maps
set_option linter.unusedSimpArgs false
set_option linter.unusedVariables false
set_option maxRecDepth 100000
set_option maxHeartbeats 4000000
theorem del_calls {E w : World} {L : List SA} (p : Option Addr) (l : List DeedM) (n1 cap : Nat) (hl : l.length ≤ 1000000) (h : sat E w (rowA (.slice p n1 cap) 47 11 l.length (l.flatMap DeedM.v) :: L)) :
    Calls Tryz.prog 83 #[.slice p n1 cap, .func (.func 84) #[] #[]] w fun e w' => ∃ r : List DeedM, ∃ p2 c2, e = .returned (.slice p2 r.length c2) ∧ r = l.filter overD ∧ sat E w' (rowA (.slice p2 r.length c2) 47 11 r.length (r.flatMap DeedM.v) :: L) := by
  obtain ⟨rfl, _⟩ := row_len h
  have CI := Lib.hid (idxf_calls p l cap w hl (oldD_row h))
  have K := Lib.hid h
  clear h
  go_enter Tryz.func83, Tryz.ntmps83
  go_wp2_with (go_at_call 113; (with_reducible refine (CI.out).mono ?_); rintro e w1 ⟨r, rfl, hP, hb⟩; have K1 := sat.grown K.out hb; clear hb; have K2 := Lib.hid K1; clear K1 K; have K := K2; clear K2; have HP := Lib.hid hP; clear hP CI; rcases HP.out with ⟨rfl, hall⟩ | ⟨k, hk, rfl, hs, hall⟩)
  · go_ret
    exact ⟨_, _, _, rfl, (over_none l hall).symm, K.out⟩
  · obtain ⟨g, rfl, _⟩ := dd_some K.out (by omega)
    have HF := Lib.hid (over_first l k hk hs hall)
    clear HP hs hall
    go_loopg [5, 6] (l.length - (k + 1)) (fun gk a b w' => ∃ (i j : Nat) (m : List DeedM), j + gk = l.length ∧ a = .int .i64 i ∧ b = .int .i64 j ∧ i < j ∧ m.length = l.length ∧ m.take i = (l.take j).filter overD ∧ m.drop j = l.drop j ∧ sat E w' (rowA (.slice (some ⟨g, 0, none⟩) l.length cap) 47 11 l.length (m.flatMap DeedM.v) :: L))
    case atStart => exact ⟨k, k + 1, l, by omega, rfl, by simp, by omega, rfl, HF.out, rfl, K.out⟩
    case round =>
      obtain ⟨i, j, m, hj, rfl, rfl, hij, hm, h1, h2, hsat⟩ := hrel
      clear K HF hk
      have K := Lib.hid hsat
      clear hsat
      have HJ := Lib.hid hj
      by_cases hlt : j < l.length
      · have d0 : decide (j < l.length) = true := by simpa using hlt
        have hat := over_at m l j hm hlt h2
        have hy : ∀ q u, (DeedM.v l[j])[q]? = some u → wr.cell? ⟨g, j * 11 + q, none⟩ = some u := fun q u hq => K.out.row_rd 0 rfl (j * 11 + q) u (by
          have hq11 : q < 11 := by
            rcases Nat.lt_or_ge q 11 with h' | h'
            · exact h'
            · simp [List.getElem?_eq_none (show (DeedM.v l[j]).length ≤ q by simpa using h')] at hq
          rw [dd_at m j (by omega) q hq11, hat]; exact hq)
        have y0 : wr.cell? ⟨g, j * 11, none⟩ = _ := hy 0 _ rfl
        have y1 := hy 1 _ rfl; have y2 := hy 2 _ rfl; have y3 := hy 3 _ rfl; have y4 := hy 4 _ rfl; have y5 := hy 5 _ rfl; have y6 := hy 6 _ rfl; have y7 := hy 7 _ rfl; have y8 := hy 8 _ rfl; have y9 := hy 9 _ rfl; have y10 := hy 10 _ rfl
        have ES := Lib.hid (fun ho => over_set m l i j hm hij hlt h1 h2 ho)
        have EK := Lib.hid (fun ho => over_skip m l i j hlt h1 h2 ho)
        have C13 := fun w' => Lib.hid (open_calls l[j] w')
        have HM := Lib.hid hm
        have HI := Lib.hid hij
        have j1 : (j : Int) < (l.length : Int) := by omega
        have i0 : (0 : Int) ≤ (i : Int) := by omega
        have i1 : (i : Int) < (l.length : Int) := by omega
        have i2 : i < l.length := by omega
        have HL := Lib.hid hlt
        clear hy hat h1 h2 hj hm hij
        generalize l[j] = x at *
        clear hlt
        obtain ⟨gk', rfl⟩ : ∃ g', gk = g' + 1 := ⟨gk - 1, by have := HJ.out; have := HL.out; omega⟩
        by_cases c0 : x.stop < 0
        · have t0 : decide (x.stop < 0) = true := by simpa using c0
          have ho := Lib.hid (show overD x = false from by simp [overD]; omega)
          clear c0
          go_wp2_with (first | ((with_reducible refine at_alloc ?_); refine st_allocf K.out (fun _ => rfl) ?_; intro gd w1 K1; have K2 := Lib.hid K1; clear K1 K; (try clear a0); (try clear l0); (try clear a1); (try clear l1); (try clear a2); (try clear l2); have K := K2; clear K2; have a0 := K.out.rd 0 rfl; have l0 := K.out.ltp 0 rfl) | ((with_reducible refine at_store ?_); refine st_store 0 K.out rfl rfl rfl rfl ?_ ?_ ?_ ?_; (· kernel_rfl); (· simp); (· simp [Value.oneCell']); intro w1 K1; simp only [List.set, putL] at K1; have K2 := Lib.hid K1; clear K1 K; (try clear a0); (try clear l0); (try clear a1); (try clear l1); (try clear a2); (try clear l2); have K := K2; clear K2; have a0 := K.out.rd 0 rfl; have l0 := K.out.ltp 0 rfl) | (go_at_call 84; (with_reducible refine ((C13 _).out).mono ?_); rintro r w1 ⟨rfl, hb⟩; have K1 := sat.grown K.out hb; clear hb; have K2 := Lib.hid K1; clear K1 K; (try clear a0); (try clear l0); (try clear a1); (try clear l1); (try clear a2); (try clear l2); have K := K2; clear K2; have a0 := K.out.rd 0 rfl; have l0 := K.out.ltp 0 rfl))
          go_roundg gk'
          case measure => omega
          case rel => exact ⟨i, j + 1, m, by have := HJ.out; omega, rfl, by simp, by have := HI.out; omega, HM.out, (EK.out ho.out).1, (EK.out ho.out).2, K.out.drop⟩
        · have t0 : decide (x.stop < 0) = false := by simpa using c0
          have ho := Lib.hid (show overD x = true from by simp [overD]; omega)
          clear c0
          go_wp2_with (first | ((with_reducible refine at_alloc ?_); refine st_allocf K.out (fun _ => rfl) ?_; intro gd w1 K1; have K2 := Lib.hid K1; clear K1 K; (try clear a0); (try clear l0); (try clear a1); (try clear l1); (try clear a2); (try clear l2); have K := K2; clear K2; have a0 := K.out.rd 0 rfl; have l0 := K.out.ltp 0 rfl) | ((with_reducible refine at_store ?_); refine st_store 0 K.out rfl rfl rfl rfl ?_ ?_ ?_ ?_; (· kernel_rfl); (· simp); (· simp [Value.oneCell']); intro w1 K1; simp only [List.set, putL] at K1; have K2 := Lib.hid K1; clear K1 K; (try clear a0); (try clear l0); (try clear a1); (try clear l1); (try clear a2); (try clear l2); have K := K2; clear K2; have a0 := K.out.rd 0 rfl; have l0 := K.out.ltp 0 rfl) | (go_at_call 84; (with_reducible refine ((C13 _).out).mono ?_); rintro r w1 ⟨rfl, hb⟩; have K1 := sat.grown K.out hb; clear hb; have K2 := Lib.hid K1; clear K1 K; (try clear a0); (try clear l0); (try clear a1); (try clear l1); (try clear a2); (try clear l2); have K := K2; clear K2; have a0 := K.out.rd 0 rfl; have l0 := K.out.ltp 0 rfl) | ((with_reducible refine at_store ?_); refine st_store_row 1 K.out rfl rfl rfl rfl ?_ ?_ ?_ ?_; (· kernel_rfl); (· rw [dd_len, HM.out]; simp; omega); (· simp [Value.oneCell']); intro w1 K1; simp only [List.set] at K1; rw [dd_put m i x (by rw [HM.out]; exact i2)] at K1; have K2 := Lib.hid K1; clear K1 K; (try clear a0); (try clear l0); (try clear a1); (try clear l1); (try clear a2); (try clear l2); have K := K2; clear K2; have a0 := K.out.rd 0 rfl; have l0 := K.out.ltp 0 rfl))
          go_roundg gk'
          case measure => omega
          case rel => exact ⟨i + 1, j + 1, m.set i x, by have := HJ.out; omega, by simp, by simp, by have := HI.out; omega, by rw [List.length_set]; exact HM.out, (ES.out ho.out).1, (ES.out ho.out).2, K.out.drop⟩
      · have hjl : j = l.length := by omega
        subst hjl
        have d0 : decide (l.length < l.length) = false := by simp
        obtain ⟨vs, hc⟩ := clear_dd K.out i hij
        rw [List.take_length] at h1
        have K1 := row_cut2 (row_setL vs (i * 11) K.out) (Nat.le_of_lt hij)
        rw [setL_take _ _ _ _ (Nat.le_refl _), dd_take] at K1
        have hlen : (m.take i).length = i := by rw [List.length_take]; omega
        have KK := Lib.hid K1
        have HH := Lib.hid h1
        have HN := Lib.hid hlen
        have i0 : (0 : Int) ≤ (i : Int) := by omega
        have i1 : (i : Int) ≤ (l.length : Int) := by omega
        have i2 : i ≤ l.length := by omega
        have hcap : l.length ≤ cap := by
          obtain ⟨_, ⟨h0, _⟩ | ⟨g', cap', cur, h0, q1, _⟩⟩ := K.out.row_open
          · simp at h0
          · simp at h0
            obtain ⟨rfl, rfl⟩ := h0
            exact q1
        have i3 : i ≤ cap := by omega
        have i4 : (i : Int) ≤ (cap : Int) := by omega
        clear K1 h1 hlen h2 hm hj
        go_wp2
        go_ret
        exact ⟨m.take i, _, _, by rw [HN.out]; rfl, HH.out, by rw [HN.out]; exact KK.out⟩
theorem over_calls (p : Option Addr) (l : List DeedM) (cap : Nat) (w : World) (hl : l.length ≤ 1000000) (h : OldD w p l) :
    Calls Tryz.prog 47 #[.slice p l.length cap] w fun e w' => ∃ r : List DeedM, ∃ p2 c2, e = .returned (.slice p2 r.length c2) ∧ r = l.filter overD ∧ OldD w' p2 r ∧ Below w.heap.size w w' := by
  have CC := Lib.hid (clone_calls p l cap w hl h)
  have K := Lib.hid (sat.start w)
  clear h
  go_enter Tryz.func47, Tryz.ntmps47
  go_wp2_with (first | (go_at_call 66; (with_reducible refine (CC.out).mono ?_); rintro e w1 ⟨pc, nc, cc, rfl, hs⟩; clear K CC; have K := Lib.hid hs; clear hs) | (go_at_call 83; (with_reducible refine (del_calls _ _ _ _ hl K.out).mono ?_); rintro e w1 ⟨r, p2, c2, rfl, hr, hs⟩; clear K; have K := Lib.hid hs; clear hs; have HR := Lib.hid hr; clear hr))
  go_ret
  exact ⟨_, _, _, rfl, HR.out, oldD_row K.out, K.out.below⟩
end Go.Proofs.YtdjkblnocooldaaGreat
/- What any yard tells may have been done so (plain lemmas: rightM, the most under way). -/
namespace Go.Proofs.YtdjkblnocooldaaGreat
set_option linter.unusedSimpArgs false
set_option linter.unusedVariables false
theorem lastFrom_at : ∀ (pre : List DeedM) (a : DeedM), pre[pre.length - 1]? = some a → lastFrom pre = a.start := by
  intro pre a h
  rcases List.eq_nil_or_concat pre with rfl | ⟨l, d, rfl⟩
  · simp at h
  · rw [List.concat_eq_append] at *
    rw [lastFrom_snoc]
    simp at h
    rw [h]
theorem lastOf_at (who : Int) : ∀ (pre : List DeedM) (o : DeedM), lastOf pre who = some o → o.who = who ∧ ∃ i : Nat, pre[i]? = some o := by
  intro pre
  induction h : pre.length generalizing pre with
  | zero => intro o e; have := List.eq_nil_of_length_eq_zero h; subst this; cases e
  | succ n ih =>
    rcases List.eq_nil_or_concat pre with rfl | ⟨l, d, rfl⟩
    · simp at h
    · rw [List.concat_eq_append] at *
      intro o e
      rw [lastOf_snoc] at e
      split at e
      · rename_i q
        cases e
        exact ⟨q, l.length, by simp⟩
      · obtain ⟨a, i, b⟩ := ih l (by simpa using h) o e
        exact ⟨a, i, by rw [List.getElem?_append_left (lt_of_at b)]; exact b⟩
theorem hinv_okD {y : YardM} (h : y.hinv) {pre : List DeedM} {d : DeedM} {l : List DeedM} (e : y.deeds = pre ++ d :: l) : okD pre d = true := by
  have hd : y.deeds[pre.length]? = some d := by rw [e, List.getElem?_append_right (Nat.le_refl _), Nat.sub_self]; rfl
  have hp : ∀ (i : Nat) a, pre[i]? = some a → y.deeds[i]? = some a := fun i a q => by rw [e, List.getElem?_append_left (lt_of_at q)]; exact q
  obtain ⟨a1, a2, a3, a4, a5, a6⟩ := h.each _ d hd
  have hm : ∀ o ∈ pre, ∃ i, i < pre.length ∧ y.deeds[i]? = some o := fun o ho => by
    obtain ⟨i, q⟩ := List.mem_iff_getElem?.1 ho
    exact ⟨i, lt_of_at q, hp i o q⟩
  have hlf : lastFrom pre < d.start := by
    cases q : pre[pre.length - 1]? with
    | none =>
      have : pre.length ≤ pre.length - 1 := List.getElem?_eq_none_iff.1 q
      have : pre = [] := List.eq_nil_of_length_eq_zero (by omega)
      subst this
      show (-1 : Int) < _; omega
    | some a =>
      rw [lastFrom_at pre a q]
      exact (h.two _ _ a d (lt_of_at q) (hp _ a q) hd).1
  have hT : ∀ t, (∀ o ∈ pre, o.start ≠ t ∧ o.stop ≠ t) → okT pre t = true := by
    intro t q
    unfold okT
    have : inT pre t = false := by
      cases g : inT pre t with
      | false => rfl
      | true =>
        obtain ⟨o, ho, g⟩ := (inT_iff pre t).1 g
        have := q o ho
        rcases g with g | g <;> simp_all
    rw [this]; simp
  unfold okD okHead okOwn
  simp only [Bool.and_eq_true, Bool.or_eq_true, decide_eq_true_eq]
  refine ⟨⟨⟨⟨⟨hlf, ?_⟩, a3⟩, ?_⟩, ?_⟩, ?_, ?_⟩
  · rcases a6 with ⟨q, _⟩ | ⟨q, _⟩
    · left; omega
    · exact .inr q
  · cases q : lastOf pre d.who with
    | none => rfl
    | some o =>
      obtain ⟨b1, i, b2⟩ := lastOf_at _ _ _ q
      have := (h.two i _ o d (lt_of_at b2) (hp i o b2) hd).2.2.2 b1
      show overB o d = true
      unfold overB
      simp only [Bool.and_eq_true, decide_eq_true_eq]
      exact this
  · refine hT _ fun o ho => ?_
    obtain ⟨i, hi, q⟩ := hm o ho
    have := h.two i _ o d hi q hd
    exact ⟨by omega, this.2.1⟩
  · rcases a6 with ⟨q, _⟩ | ⟨q1, q2⟩
    · unfold okT; rw [q]; rfl
    · refine hT _ fun o ho => ?_
      obtain ⟨i, hi, q⟩ := hm o ho
      have p := h.two i _ o d hi q hd
      refine ⟨by omega, ?_⟩
      rcases Int.lt_or_le o.stop 0 with g | g
      · omega
      · exact p.2.2.1 g
  · rcases a6 with ⟨q, _⟩ | ⟨q1, q2⟩
    · left; omega
    · right; simp; omega
theorem hinv_right {y : YardM} (h : y.hinv) : rightM [] y.deeds = true := by
  have : ∀ (l pre : List DeedM), y.deeds = pre ++ l → rightM pre l = true := by
    intro l
    induction l with
    | nil => intro pre _; rfl
    | cons d l ih =>
      intro pre e
      rw [rightM, hinv_okD h e, Bool.true_and]
      exact ih (pre ++ [d]) (by rw [e]; simp)
  exact this y.deeds [] rfl
theorem hinv_lright {y : YardM} (h : y.hinv) : lrightM [] y.deeds = true := by
  rw [← right_eq _ _ Inv.nil]; exact hinv_right h
/-- Distinct numbers below n are at most n. -/
theorem few_of : ∀ (n : Nat) (l : List Int), (∀ x ∈ l, 0 ≤ x ∧ x < n) → l.Pairwise (· ≠ ·) → l.length ≤ n
  | 0, l, h, _ => by
    cases l with
    | nil => simp
    | cons x l => have := h x (by simp); omega
  | n + 1, l, h, hd => by
    have h1 : (l.filter (fun x => x != (n : Int))).length ≤ n := few_of n _ (fun x hx => by
      have := List.mem_filter.1 hx
      have := h x this.1
      have : x ≠ n := by simp_all
      omega) (hd.filter _)
    have h2 : ∀ l : List Int, l.Pairwise (· ≠ ·) → l.length ≤ (l.filter (fun x => x != (n : Int))).length + 1 := by
      intro l
      induction l with
      | nil => simp
      | cons x l ih =>
        intro hp
        rw [List.pairwise_cons] at hp
        rw [List.filter_cons]
        split
        · have := ih hp.2; simp only [List.length_cons]; omega
        · rename_i q
          have hx : x = n := by simpa using q
          have : l.filter (fun x => x != (n : Int)) = l := List.filter_eq_self.2 fun z hz => by
            have := hp.1 z hz
            simp; omega
          rw [this]; simp
    have := h2 l hd
    omega
theorem filter_le_imp {α : Type} {p q : α → Bool} (h : ∀ x, p x = true → q x = true) : ∀ l : List α, (l.filter p).length ≤ (l.filter q).length
  | [] => by simp
  | x :: l => by
    have ih := filter_le_imp h l
    rw [List.filter_cons, List.filter_cons]
    cases hp : p x with
    | false => rw [if_neg (by simp)]; split <;> (try simp only [List.length_cons]) <;> omega
    | true => rw [h x hp, if_pos rfl, if_pos rfl]; simpa using ih
theorem hinv_under {y : YardM} (h : y.hinv) (d : DeedM) : (underN y.deeds d : Int) ≤ y.conf.th := by
  have hp : ((y.deeds.filter (underB d)).map DeedM.who).Pairwise (· ≠ ·) := by
    rw [List.pairwise_map]
    have hl : y.deeds.Pairwise (fun a b => a.who = b.who → 0 ≤ a.stop ∧ a.stop < b.start) := by
      rw [List.pairwise_iff_getElem]
      intro i j hi hj hij e
      exact (h.two i j _ _ hij (List.getElem?_eq_getElem hi) (List.getElem?_eq_getElem hj)).2.2.2 e
    refine (hl.filter (underB d)).imp_of_mem fun {a b} ha hb hab => ?_
    intro e
    have := hab e
    have h1 := (List.mem_filter.1 ha).2
    have h2 := (List.mem_filter.1 hb).2
    unfold underB beforeD at h1 h2
    simp at h1 h2
    omega
  have := few_of y.conf.th.toNat ((y.deeds.filter (underB d)).map DeedM.who) (fun x hx => by
    obtain ⟨o, ho, rfl⟩ := List.mem_map.1 hx
    obtain ⟨i, q⟩ := List.mem_iff_getElem?.1 (List.mem_filter.1 ho).1
    have := h.each i o q
    omega) hp
  rw [List.length_map] at this
  have h0 := h.tl
  unfold underN
  omega
theorem mostM_le (L : List DeedM) (n : Int) (hn : 0 ≤ n) : ∀ l : List DeedM, (∀ d ∈ l, (underN L d : Int) ≤ n) → mostM L l ≤ n
  | [], _ => hn
  | d :: l, h => by
    have h1 := mostM_le L n hn l (fun x hx => h x (by simp [hx]))
    have h2 := h d (by simp)
    rw [mostM]; omega
theorem mostM_ge (L : List DeedM) : ∀ (l : List DeedM) (d : DeedM), d ∈ l → (underN L d : Int) ≤ mostM L l
  | x :: l, d, h => by
    rw [mostM]
    rcases List.mem_cons.1 h with rfl | h
    · omega
    · have := mostM_ge L l d h; omega
theorem hinv_most {y : YardM} (h : y.hinv) : mostM y.deeds y.deeds ≤ y.conf.th := mostM_le _ _ (by have := h.tl; omega) _ (fun d _ => hinv_under h d)
theorem most_filter (p : DeedM → Bool) (l : List DeedM) : mostM (l.filter p) (l.filter p) ≤ mostM l l := by
  refine mostM_le _ _ (mostM_bd l l).1 _ fun d hd => ?_
  have h1 := mostM_ge l l d (List.mem_filter.1 hd).1
  have h2 : underN (l.filter p) d ≤ underN l d := by
    unfold underN
    rw [List.filter_filter]
    exact filter_le_imp (fun x hx => by simp at hx; exact hx.1) l
  omega
end Go.Proofs.YtdjkblnocooldaaGreat
