/- Rows of words of one's own, and copies of words. Plain lemmas; no condition. -/
import Derived.Test.YtjnckolidgbckaaPickLaws
import Derived.Test.YtjnckolidgbckaaAppendV
namespace Go.Proofs.Ytjnckolidgbckaa
open Go.RowKit Go.SepYtjnckolidgbckaa
set_option linter.unusedSimpArgs false
set_option linter.unusedVariables false
theorem u64Info : ∃ q z, Try.prog.info? 29 = some q ∧ q.zero = some z ∧ q.size = 1 ∧ q.bytes = 8 ∧ z.cells.size = 1 := ⟨_, _, rfl, rfl, rfl, rfl, rfl⟩
theorem u64_one (l : List Int) : ∀ u ∈ l.map (Value.int .u64), u.oneCell' = true := by
  intro u hu
  obtain ⟨x, _, rfl⟩ := List.mem_map.1 hu
  rfl
theorem OldU.news {w : World} {p : Option Addr} {words : List Int} (h : OldU w p words) (h0 : 0 < words.length) : ∃ b o, p = some ⟨b, o, none⟩ ∧ ∀ j u, (words.map (Value.int .u64))[j]? = some u → w.cell? ⟨b, o + j, none⟩ = some u := by
  obtain ⟨b, o, rfl, _, _⟩ := h 0 h0
  refine ⟨b, o, rfl, fun j u hj => ?_⟩
  rw [List.getElem?_map, Option.map_eq_some_iff] at hj
  obtain ⟨x, hx, rfl⟩ := hj
  obtain ⟨hj, rfl⟩ := List.getElem?_eq_some_iff.1 hx
  obtain ⟨b', o', e, _, hc⟩ := h j hj
  simp only [Option.some.injEq, Addr.mk.injEq, and_true] at e
  obtain ⟨rfl, rfl⟩ := e
  exact hc
theorem oldU_row {E w : World} {L : List SA} {p : Option Addr} {n c m : Nat} {l : List Int} {xs : List Value} (h : sat E w (rowA (.slice p n c) 29 1 m xs :: L)) (hl : xs = l.map (Value.int .u64)) : OldU w p l := by
  subst hl
  intro j hj
  obtain ⟨h0, ⟨h1, h2, _⟩ | ⟨g, cap, cur, h1, _, _, _, _, h5⟩⟩ := h.row_open
  · simp at h0; omega
  · simp at h1
    obtain ⟨rfl, rfl, rfl⟩ := h1
    refine ⟨g, 0, rfl, h5.lt, ?_⟩
    rw [Nat.zero_add]
    exact h.row_rd 0 rfl j _ (by rw [List.getElem?_map, List.getElem?_eq_getElem hj]; rfl)
theorem box1_at' (w : World) (l : List Value) (t : TypeId) (j : Nat) (u : Value) (h : l[j]? = some u) : (w.alloc (.cells l.toArray t)).cell? ⟨w.heap.size, 0 + j, none⟩ = some u := by
  rw [Nat.zero_add]; exact box_at2 w l t j u h
end Go.Proofs.Ytjnckolidgbckaa
