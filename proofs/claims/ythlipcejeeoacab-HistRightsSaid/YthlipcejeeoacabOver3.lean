/- The calls that are over (slices.DeleteFunc as hist.Over calls it, hist.Over). Conditions: the deeds lie in memory as told; at most a million deeds. -/
import Derived.Test.YthlipcejeeoacabOver2
namespace Go.Proofs.Ythlipcejeeoacab
open Go.RowKit Go.SepYthlipcejeeoacab Go.Maps
set_option linter.unusedSimpArgs false
set_option linter.unusedVariables false
set_option maxRecDepth 100000
set_option maxHeartbeats 4000000
def overD (d : DeedM) : Bool := decide (0 ≤ d.stop)
theorem zeroO (w : World) : (zeroValue 35).run Try.prog w = .ok (deedV (dz 0 0)) w := by kernel_rfl
/-- clear of a part of a row of one's own. -/
theorem clear_dd {E w : World} {L : List SA} {g n c : Nat} {xs : List Value} (h : sat E w (rowA (.slice (some ⟨g, 0, none⟩) n c) 35 11 n xs :: L)) (i : Nat) (hi : i < n) :
    ∃ vs, ∀ (ty : TypeId) (k : Nat), (Builtin.clear_ #[22] ty #[.slice (some ⟨g, i * 11, none⟩) (n - i) k]).run Try.prog w = .ok (.tuple #[]) (w.setCells g (i * 11) vs) := by
  have hlen := h.row_open.1
  have hz : (Builtin.zeroCells (deedV (dz 0 0)).cells (n - i)).toList.length = (n - i) * 11 := by simp [Builtin.zeroCells, Value.cells]
  have h1 : ∀ v ∈ (Builtin.zeroCells (deedV (dz 0 0)).cells (n - i)).toList, v.oneCell' = true := by
    intro v hv
    simp only [Builtin.zeroCells, Array.toList_map, List.mem_map] at hv
    obtain ⟨j, _, rfl⟩ := hv
    have hj : j % 11 < 11 := Nat.mod_lt _ (by omega)
    show ((deedV (dz 0 0)).cells[j % 11]!).oneCell' = true
    generalize j % 11 = t at hj
    match t, hj with
    | 0, _ | 1, _ | 2, _ | 3, _ | 4, _ | 5, _ | 6, _ | 7, _ | 8, _ | 9, _ | 10, _ => rfl
  have hc : ∀ j, j < (n - i) * 11 → ∃ u, xs[i * 11 + j]? = some u := fun j hj => ⟨xs[i * 11 + j]'(by omega), List.getElem?_eq_getElem _⟩
  have hst := run_storeCells_cells (P := Try.prog) g (i * 11) (Builtin.zeroCells (deedV (dz 0 0)).cells (n - i)).toList 0 w
    (fun j hj => by rw [hz] at hj; obtain ⟨u, hu⟩ := hc j hj; rw [Nat.add_zero, (h.row_cell _ hu).2.1]; rfl)
    (fun j hj => by rw [hz] at hj; obtain ⟨u, hu⟩ := hc j hj; rw [Nat.add_zero]; exact (h.row_cell _ hu).2.2.1) h1
  rw [Nat.add_zero] at hst
  obtain ⟨m, hm⟩ : ∃ m, n - i = m + 1 := ⟨n - i - 1, by omega⟩
  refine ⟨(Builtin.zeroCells (deedV (dz 0 0)).cells (n - i)).toList, fun ty k => ?_⟩
  rw [hm] at hst ⊢
  obtain ⟨Z, hZ⟩ : ∃ Z, Z = deedV (dz 0 0) := ⟨_, rfl⟩
  have hv : ∀ w, (zeroValue 35).run Try.prog w = .ok Z w := by subst hZ; exact zeroO
  rw [← hZ] at hst ⊢
  simp only [Builtin.clear_]
  simp [run_underlying Try.underlying22, hv, hst]
theorem dd_take : ∀ (m : List DeedM) (i : Nat), (m.flatMap DeedM.v).take (i * 11) = (m.take i).flatMap DeedM.v
  | [], i => by simp
  | e :: m, 0 => by simp
  | e :: m, i + 1 => by
    rw [List.take_succ_cons, List.flatMap_cons, List.flatMap_cons, ← dd_take m i, show (i + 1) * 11 = i * 11 + 1 + 1 + 1 + 1 + 1 + 1 + 1 + 1 + 1 + 1 + 1 by omega]
    rfl
theorem over_set (m l : List DeedM) (i j : Nat) (hm : m.length = l.length) (hij : i < j) (hj : j < l.length) (h1 : m.take i = (l.take j).filter overD) (h2 : m.drop j = l.drop j) (ho : overD l[j] = true) :
    (m.set i l[j]).take (i + 1) = (l.take (j + 1)).filter overD ∧ (m.set i l[j]).drop (j + 1) = l.drop (j + 1) := by
  constructor
  · rw [List.take_succ_eq_append_getElem (by simp; omega), List.take_set_of_le (Nat.le_refl _), h1, List.getElem_set_self, List.take_succ_eq_append_getElem hj, List.filter_append]
    simp [ho]
  · rw [List.drop_set_of_lt (by omega), ← List.drop_drop, h2, List.drop_drop]
theorem over_skip (m l : List DeedM) (i j : Nat) (hj : j < l.length) (h1 : m.take i = (l.take j).filter overD) (h2 : m.drop j = l.drop j) (ho : overD l[j] = false) :
    m.take i = (l.take (j + 1)).filter overD ∧ m.drop (j + 1) = l.drop (j + 1) := by
  constructor
  · rw [h1, List.take_succ_eq_append_getElem hj, List.filter_append]
    simp [ho]
  · rw [← List.drop_drop, h2, List.drop_drop]
theorem over_at (m l : List DeedM) (j : Nat) (hm : m.length = l.length) (hj : j < l.length) (h2 : m.drop j = l.drop j) : m[j]'(by omega) = l[j] := by
  have a := List.drop_eq_getElem_cons (show j < m.length by omega)
  have b := List.drop_eq_getElem_cons hj
  rw [h2, b] at a
  injection a with a _
  exact a.symm
theorem over_none (l : List DeedM) (h : ∀ d ∈ l, 0 ≤ d.stop) : l.filter overD = l := List.filter_eq_self.2 fun d hd => by simpa [overD] using h d hd
theorem over_first (l : List DeedM) (k : Nat) (hk : k < l.length) (hs : l[k].stop < 0) (h : ∀ d ∈ l.take k, 0 ≤ d.stop) : l.take k = (l.take (k + 1)).filter overD := by
  rw [List.take_succ_eq_append_getElem hk, List.filter_append, over_none _ h]
  have : overD l[k] = false := by simp [overD]; omega
  simp [this]
end Go.Proofs.Ythlipcejeeoacab
