/- A copy of deeds (slices.Clone as hist.Over calls it), and rows of deeds of one's own. Conditions: the deeds lie in memory as told; at most a million deeds. -/
import Derived.Test.YthlipcejeeoacabOver1
import Derived.Lib.SliceRun
namespace Go.Proofs.Ythlipcejeeoacab
open Go.RowKit Go.SepYthlipcejeeoacab Go.Maps
set_option linter.unusedSimpArgs false
set_option linter.unusedVariables false
set_option maxRecDepth 100000
set_option maxHeartbeats 4000000
theorem deedInfo : ∃ q z, Try.prog.info? 35 = some q ∧ q.zero = some z ∧ q.size = 11 ∧ q.bytes = 88 ∧ z.cells.size = 11 := ⟨_, _, rfl, rfl, rfl, rfl, rfl⟩
theorem dd_len : ∀ l : List DeedM, (l.flatMap DeedM.v).length = l.length * 11
  | [] => rfl
  | e :: l => by rw [List.flatMap_cons, List.length_append, dd_len l]; simp; omega
theorem dd_at : ∀ (l : List DeedM) (n : Nat) (h : n < l.length) (i : Nat), i < 11 → (l.flatMap DeedM.v)[n * 11 + i]? = (DeedM.v l[n])[i]?
  | [], n, h, _, _ => by simp at h
  | e :: l, 0, _, i, hi => by
    rw [List.flatMap_cons, List.getElem?_append_left (by simp; omega)]
    simp
  | e :: l, n + 1, h, i, hi => by
    rw [List.flatMap_cons, List.getElem?_append_right (by simp; omega)]
    have := dd_at l n (by simpa using h) i hi
    simp only [List.getElem_cons_succ]
    rw [← this]
    congr 1
    simp
    omega
theorem dd_one (l : List DeedM) : ∀ u ∈ l.flatMap DeedM.v, u.oneCell' = true := by
  intro u hu
  obtain ⟨e, _, he⟩ := List.mem_flatMap.1 hu
  simp at he
  rcases he with rfl | rfl | rfl | rfl | rfl | rfl | rfl | rfl | rfl | rfl | rfl <;> rfl
theorem dd_mod (l : List DeedM) (j : Nat) (u : Value) (h : (l.flatMap DeedM.v)[j]? = some u) : ∃ n i, ∃ hn : n < l.length, j = n * 11 + i ∧ i < 11 ∧ (DeedM.v l[n])[i]? = some u := by
  have hj : j < (l.flatMap DeedM.v).length := by
    rcases Nat.lt_or_ge j (l.flatMap DeedM.v).length with h' | h'
    · exact h'
    · simp [List.getElem?_eq_none h'] at h
  rw [dd_len] at hj
  have hn : j / 11 < l.length := by omega
  refine ⟨j / 11, j % 11, hn, by omega, by omega, ?_⟩
  rw [← dd_at l (j / 11) hn (j % 11) (by omega), show j / 11 * 11 + j % 11 = j by omega]
  exact h
theorem dd_some {E w : World} {L : List SA} {p : Option Addr} {n c e size m : Nat} {xs : List Value} (h : sat E w (rowA (.slice p n c) e size m xs :: L)) (hm : 0 < m) : ∃ g, p = some ⟨g, 0, none⟩ ∧ n = m := by
  obtain ⟨rfl, ⟨_, h0⟩ | ⟨g, rfl⟩⟩ := row_len h
  · omega
  · exact ⟨g, rfl, rfl⟩
theorem oldD_row {E w : World} {L : List SA} {p : Option Addr} {n c t : Nat} {l : List DeedM} (h : sat E w (rowA (.slice p n c) t 11 l.length (l.flatMap DeedM.v) :: L)) : OldD w p l := fun j hj => by
  obtain ⟨g, rfl, rfl⟩ := dd_some h (by omega)
  obtain ⟨_, ⟨h0, _⟩ | ⟨g', cap, cur, h0, _, _, _, _, h5⟩⟩ := h.row_open
  · simp at h0
  · simp at h0
    obtain ⟨rfl, rfl⟩ := h0
    refine ⟨g, 0, rfl, h5.lt, fun i u hi => ?_⟩
    have h6 : i < 11 := by
      rcases Nat.lt_or_ge i 11 with h' | h'
      · exact h'
      · simp [List.getElem?_eq_none (show (DeedM.v l[j]).length ≤ i by simpa using h')] at hi
    rw [Nat.zero_add]
    exact h.row_rd 0 rfl (j * 11 + i) u (by rw [dd_at l j hj i h6]; exact hi)
theorem oldD_new {w : World} {p : Option Addr} {l : List DeedM} (h : OldD w p l) (h0 : 0 < l.length) : ∃ b o, p = some ⟨b, o, none⟩ ∧ ∀ j u, (l.flatMap DeedM.v)[j]? = some u → w.cell? ⟨b, o + j, none⟩ = some u := by
  obtain ⟨b, o, rfl, _, _⟩ := h 0 h0
  refine ⟨b, o, rfl, fun j u hu => ?_⟩
  obtain ⟨n, i, hn, rfl, hi, hv⟩ := dd_mod l j u hu
  obtain ⟨b', o', e, _, hx⟩ := h n hn
  injection e with e
  injection e with e1 e2 _
  subst e1 e2
  rw [← Nat.add_assoc]
  exact hx i u hv
theorem dd_put : ∀ (m : List DeedM) (i : Nat) (d : DeedM), i < m.length → putL (m.flatMap DeedM.v) (i * 11) d.v = (m.set i d).flatMap DeedM.v
  | [], _, _, h => by simp at h
  | e :: m, 0, d, _ => by
    have hp : ∀ xs : List Value, putL xs 0 [] = xs := fun xs => by cases xs <;> rfl
    simp [putL, hp]
  | e :: m, i + 1, d, h => by
    rw [List.set_cons_succ, List.flatMap_cons, List.flatMap_cons, ← dd_put m i d (by simpa using h), show (i + 1) * 11 = i * 11 + 1 + 1 + 1 + 1 + 1 + 1 + 1 + 1 + 1 + 1 + 1 by omega]
    rfl
/-- A row, cut. -/
theorem row_cut {E w : World} {L : List SA} {g n c e size m : Nat} {xs : List Value} (h : sat E w (rowA (.slice (some ⟨g, 0, none⟩) n c) e size n xs :: L)) (hm : m ≤ n) : sat E w (rowA (.slice (some ⟨g, 0, none⟩) m c) e size m (xs.take (m * size)) :: L) := by
  obtain ⟨hl, ⟨h0, _⟩ | ⟨g', cap', cur, h0, q1, q2, q3, q4, q5⟩⟩ := h.row_open
  · simp at h0
  · simp at h0
    obtain ⟨rfl, rfl⟩ := h0
    have hms : m * size ≤ n * size := Nat.mul_le_mul_right _ hm
    refine sat.row_shut ?_ (Nat.le_trans hm q1) q2 q3 ?_ q5
    · rw [List.length_take]; omega
    · rw [← q4, List.take_take, Nat.min_eq_left hms]
/-- Cells of a row, set one behind another. -/
def setL : List Value → Nat → List Value → List Value
  | xs, _, [] => xs
  | xs, o, v :: vs => setL (xs.set o v) (o + 1) vs
theorem setL_take : ∀ (vs xs : List Value) (o k : Nat), k ≤ o → (setL xs o vs).take k = xs.take k
  | [], _, _, _, _ => rfl
  | v :: vs, xs, o, k, h => by
    rw [setL, setL_take vs _ (o + 1) k (by omega), List.take_set_of_le h]
theorem row_setL {E : World} {L : List SA} {g n c e size : Nat} : ∀ (vs : List Value) {w : World} {xs : List Value} (o : Nat), sat E w (rowA (.slice (some ⟨g, 0, none⟩) n c) e size n xs :: L) → sat E (w.setCells g o vs) (rowA (.slice (some ⟨g, 0, none⟩) n c) e size n (setL xs o vs) :: L)
  | [], _, _, _, h => h
  | v :: vs, _, _, o, h => row_setL vs (o + 1) (h.row_set o v)
theorem eqlN (w : World) (a : Option Addr) (n c : Nat) : (binOp .eql 22 (.slice a n c) (.slice none 0 0)).run Try.prog w = .ok (.bool a.isNone) w := Lib.run_eql_slice_nil w 22 35 a n c 0 0 Try.underlying22
attribute [local go_sem] eqlN
theorem clone_calls (p : Option Addr) (l : List DeedM) (cap : Nat) (w : World) (hl : l.length ≤ 1000000) (h : OldD w p l) :
    Calls Try.prog 12 #[.slice p l.length cap] w fun e w' => ∃ p1 n1 c1, e = .returned (.slice p1 n1 c1) ∧ sat w w' [rowA (.slice p1 n1 c1) 35 11 l.length (l.flatMap DeedM.v)] := by
  have K := Lib.hid (sat.start w)
  have H := Lib.hid h
  clear h
  have HN := Lib.hid (show ∀ w', Below w.heap.size w w' → 0 < l.length → ∃ b o, p = some ⟨b, o, none⟩ ∧ ∀ j u, (l.flatMap DeedM.v)[j]? = some u → w'.cell? ⟨b, o + j, none⟩ = some u from fun w' hb h0 => oldD_new (H.out.grown hb) h0)
  cases p with
  | none =>
    have hl0 : l = [] := by
      rcases Nat.eq_zero_or_pos l.length with h | h
      · exact List.eq_nil_of_length_eq_zero h
      · obtain ⟨b, off, e, _⟩ := H.out 0 h
        simp at e
    subst hl0
    go_enter Try.func12, Try.ntmps12
    go_wp2
    go_ret
    exact ⟨_, _, _, rfl, sat.row_nil _ _ K.out⟩
  | some a =>
    go_enter Try.func12, Try.ntmps12
    go_wp2_with (have KE := sat.row_empty (e := 35) (size := 11) K.out; (with_reducible refine at_append ?_); refine st_append_part 0 35 11 88 Try.underlying22 deedInfo KE rfl rfl (news := l.flatMap DeedM.v) rfl (dd_len l) (HN.out _ KE.below) (dd_one l) ?_ ?_ ?_; (· simp only [maxLen]; omega); (· omega); intro pa na ca w1 K1; simp only [List.set, Nat.zero_add, List.nil_append] at K1; clear KE)
    go_ret
    exact ⟨_, _, _, rfl, K1⟩
end Go.Proofs.Ythlipcejeeoacab
