/- A row of one's own, of elements of k cells, behind the library's sort: what it holds. No program; no condition. -/
import Derived.Test.YtdhcomklmckhoaaSep
import Derived.Sort.OwnSortedInts
import Derived.Shelf.GgSortFunc.InsertionK
namespace Go.SepYtdhcomklmckhoaa
open Go.RowKit Go.Sort Go.Proofs
set_option linter.unusedSectionVars false
set_option linter.unusedVariables false
section
variable {E w : World} {L : List SA} {α : Type} [Inhabited α] {enc : α → List Value} {k : Nat}
theorem flatMap_get (hk : ∀ x, (enc x).length = k) (h0 : 0 < k) : ∀ (l : List α) (t : Nat), (l.flatMap enc)[t]? = (l[t / k]?).bind (fun x => (enc x)[t % k]?)
  | [], t => by simp
  | a :: l, t => by
    rw [List.flatMap_cons, List.getElem?_append]
    by_cases h : t < k
    · rw [if_pos (by rw [hk]; exact h), Nat.div_eq_of_lt h, Nat.mod_eq_of_lt h]; rfl
    · rw [if_neg (by rw [hk]; exact h), hk, flatMap_get hk h0 l]
      obtain ⟨u, rfl⟩ : ∃ u, t = u + k := ⟨t - k, by omega⟩
      rw [Nat.add_sub_cancel, Nat.add_div_right u h0, Nat.add_mod_right]
      simp
theorem flatMap_len (hk : ∀ x, (enc x).length = k) (l : List α) : (l.flatMap enc).length = l.length * k := by
  induction l with
  | nil => simp
  | cons a l ih => rw [List.flatMap_cons, List.length_append, ih, hk, List.length_cons, Nat.add_mul]; omega
theorem flatK_list (hk : ∀ x, (enc x).length = k) (h0 : 0 < k) (d : Array α) : (flatK enc k d).toList = d.toList.flatMap enc := by
  apply List.ext_getElem?
  intro t
  rw [flatMap_get hk h0]
  by_cases ht : t < d.size * k
  · have hq : t / k < d.size := Nat.div_lt_of_lt_mul (by rwa [Nat.mul_comm] at ht)
    have hm : t % k < k := Nat.mod_lt _ h0
    rw [Array.getElem?_toList, Array.getElem?_eq_getElem (by simpa using ht)]
    have := get_flatK enc k d t ht
    rw [getElem!_pos _ t (by simpa using ht)] at this
    rw [this]
    have h1 : d.toList[t / k]? = some d[t / k]! := by rw [Array.getElem?_toList, Array.getElem?_eq_getElem hq, getElem!_pos d _ hq]
    rw [h1]
    show _ = (enc d[t / k]!)[t % k]?
    rw [List.getElem?_eq_getElem (by rw [hk]; exact hm), getElem!_pos (enc d[t / k]!) (t % k) (by rw [hk]; exact hm)]
  · have hq : ¬ t / k < d.size := fun h => ht ((Nat.div_lt_iff_lt_mul h0).1 h)
    rw [List.getElem?_eq_none (by simpa using ht)]
    rw [List.getElem?_eq_none (by simpa using hq)]
    rfl
theorem sat.holdsK {e n g cap : Nat} (hk : ∀ x, (enc x).length = k) (h0 : 0 < k) (d : Array α) (hn : d.size = n) (h : sat E w (rowA (.slice (some ⟨g, 0, none⟩) n cap) e k n (d.toList.flatMap enc) :: L)) : HoldsK enc k w g 0 d := by
  intro j hj
  have hj' : j < (d.toList.flatMap enc).length := by rw [flatMap_len hk]; simpa using hj
  have e1 : (d.toList.flatMap enc)[j]? = some (flatK enc k d)[j]! := by
    rw [← flatK_list hk h0, Array.getElem?_toList, Array.getElem?_eq_getElem hj, getElem!_pos _ j hj]
  obtain ⟨_, h1, h2, _⟩ := h.row_cell j e1
  rw [Nat.zero_add]
  exact ⟨h1, h2⟩
theorem heap_sortedV {g n : Nat} {os : Array Obj} {cur : Array Value} {e : TypeId} {fr : Nat × Nat} (F : Array Value) (hb : w.heap[g]? = some (.cells cur e fr)) :
    (grow (putRow id (Sort.ahead w n) g 0 F) os).heap[g]? = some (.cells (putCells id 0 F cur) e fr) := by
  have hg : g < w.heap.size := (Array.getElem?_eq_some_iff.1 hb).1
  rw [heap_grow_old _ _ (by simpa using hg)]
  simp [putRow, mapBlock, Sort.ahead, Array.getElem?_modify, hb, onCells]
theorem grownBy_sortedV {g n : Nat} {os : Array Obj} (F : Array Value) : w.grownBy (grow (putRow id (Sort.ahead w n) g 0 F) os) (some g) := by
  refine ⟨rfl, rfl, rfl, by simp, fun k hk hne => ?_⟩
  rw [heap_grow_old _ _ (by simpa using hk)]
  have : g ≠ k := fun e => hne (by rw [e])
  simp [putRow, mapBlock, Sort.ahead, Array.getElem?_modify, this]
theorem take_putCellsV (cur F : Array Value) (h : F.size ≤ cur.size) : (putCells id 0 F cur).toList.take F.size = F.toList := by
  apply List.ext_getElem?
  intro j
  by_cases hj : j < F.size
  · rw [List.getElem?_take_of_lt hj, Array.getElem?_toList, Array.getElem?_toList, Array.getElem?_eq_getElem hj]
    simp [putCells, hj, show j < cur.size by omega]
  · rw [List.getElem?_take_eq_none (by omega), List.getElem?_eq_none (by simp; omega)]
/-- The row behind the sort. -/
theorem sat.sortedK {e n g cap m : Nat} {os : Array Obj} {xs : List Value} (hk : ∀ x, (enc x).length = k) (h0 : 0 < k) (d : Array α) (hn : d.size = n) (h : sat E w (rowA (.slice (some ⟨g, 0, none⟩) n cap) e k n xs :: L)) :
    sat E (sortWorldK enc k w g 0 m d os) (rowA (.slice (some ⟨g, 0, none⟩) n cap) e k n (d.toList.flatMap enc) :: L) := by
  obtain ⟨hl, ⟨q, _⟩ | ⟨g', cap', cur, q, h1, h2, h3, h4, h5⟩⟩ := h.row_open
  · simp at q
  · simp at q
    obtain ⟨rfl, rfl⟩ := q
    have hz : (flatK enc k d).size = n * k := by simp [hn]
    refine sat.row_shut (cur := putCells id 0 (flatK enc k d) cur) ?_ h1 h2 ?_ ?_ (h5.turn (grownBy_sortedV _) (heap_sortedV _ h5.at))
    · rw [flatMap_len hk]; simp [hn]
    · simp [putCells, h3]
    · rw [← hz, take_putCellsV _ _ (by rw [hz, h3]; exact Nat.mul_le_mul_right k h1), flatK_list hk h0]
end
end Go.SepYtdhcomklmckhoaa
