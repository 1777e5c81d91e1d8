/- Rows of one's own and words that are not, as the laws of pick read them. Plain lemmas; no condition. -/
import Derived.Test.YtdhcomklmckhoaaCmp
import Derived.Test.YtdhcomklmckhoaaOrderM
import Derived.Test.YtdhcomklmckhoaaPickM
import Derived.Test.YtdhcomklmckhoaaJoin
import Derived.Test.YtdhcomklmckhoaaAppend
namespace Go.Proofs.Ytdhcomklmckhoaa
open Go.RowKit Go.SepYtdhcomklmckhoaa
set_option linter.unusedSimpArgs false
set_option linter.unusedVariables false
set_option maxRecDepth 100000
theorem box2_at (w : World) (o1 : Obj) (l : List Value) (t : TypeId) (j : Nat) (u : Value) (h : l[j]? = some u) : ((w.alloc o1).alloc (.cells l.toArray t)).cell? ⟨w.heap.size + 1, 0 + j, none⟩ = some u := by
  rw [Nat.zero_add, World.cell?_alloc_at _ _ _ _ (by simp)]
  simpa using h
theorem thingInfo : ∃ q z, Try.prog.info? 134 = some q ∧ q.zero = some z ∧ q.size = 6 ∧ q.bytes = 48 ∧ z.cells.size = 6 := ⟨_, _, rfl, rfl, rfl, rfl, rfl⟩
theorem intInfo : ∃ q z, Try.prog.info? 3 = some q ∧ q.zero = some z ∧ q.size = 1 ∧ q.bytes = 8 ∧ z.cells.size = 1 := ⟨_, _, rfl, rfl, rfl, rfl, rfl⟩
theorem flat_get : ∀ (l : List Thing) (n : Nat) (h : n < l.length) (j : Nat), j < 6 → (l.flatMap thingC)[n * 6 + j]? = (thingC l[n])[j]?
  | a :: l, 0, _, j, hj => by simp only [List.flatMap_cons, Nat.zero_mul, Nat.zero_add]; rw [List.getElem?_append_left (by show j < 6; omega)]; rfl
  | a :: l, n + 1, h, j, hj => by
    have e : (thingC a).length = 6 := rfl
    simp only [List.flatMap_cons]
    rw [List.getElem?_append_right (by omega), show (n + 1) * 6 + j - (thingC a).length = n * 6 + j by omega, flat_get l n (by simpa using h) j hj]
    rfl
theorem thing_at {E w : World} {L : List SA} {g c : Nat} {T : List Thing} (h : sat E w (rowA (.slice (some ⟨g, 0, none⟩) T.length c) 134 6 T.length (T.flatMap thingC) :: L)) (n : Nat) (hn : n < T.length) :
    w.cell? ⟨g, n * 6, none⟩ = some (.int .i64 T[n].1) ∧ w.cell? ⟨g, n * 6 + 1, none⟩ = some (.int .i64 T[n].2.state) ∧ w.cell? ⟨g, n * 6 + 2, none⟩ = some (.int .i64 T[n].2.fin) ∧
    w.cell? ⟨g, n * 6 + 3, none⟩ = some (.int .i64 T[n].2.gen) ∧ w.cell? ⟨g, n * 6 + 4, none⟩ = some (.int .i64 T[n].2.stamp.lo) ∧ w.cell? ⟨g, n * 6 + 5, none⟩ = some (.int .i64 T[n].2.stamp.hi) :=
  ⟨h.row_rd 0 rfl _ _ (flat_get T n hn 0 (by omega)), h.row_rd 0 rfl _ _ (flat_get T n hn 1 (by omega)), h.row_rd 0 rfl _ _ (flat_get T n hn 2 (by omega)), h.row_rd 0 rfl _ _ (flat_get T n hn 3 (by omega)), h.row_rd 0 rfl _ _ (flat_get T n hn 4 (by omega)), h.row_rd 0 rfl _ _ (flat_get T n hn 5 (by omega))⟩
/-- The cells of a slice of words that is not one's own. -/
def OldU (w : World) (p : Option Addr) (words : List Int) : Prop := ∀ j, (hj : j < words.length) → ∃ b off, p = some ⟨b, off, none⟩ ∧ b < w.heap.size ∧ w.cell? ⟨b, off + j, none⟩ = some (.int .u64 words[j])
theorem OldU.grown {w w' : World} {p : Option Addr} {words : List Int} (h : OldU w p words) (b : Below w.heap.size w w') : OldU w' p words := fun j hj => by
  obtain ⟨c, off, h1, h2, h3⟩ := h j hj
  exact ⟨c, off, h1, Nat.lt_of_lt_of_le h2 b.size, (b.cell (p := ⟨c, off + j, none⟩) h2).trans h3⟩
theorem thing_one (l : List Thing) : ∀ u ∈ l.flatMap thingC, u.oneCell' = true := by
  intro u hu
  obtain ⟨t, _, ht⟩ := List.mem_flatMap.1 hu
  simp [thingC] at ht
  rcases ht with rfl | rfl | rfl | rfl | rfl | rfl <;> rfl
theorem thing_flat (l : List Thing) : (l.flatMap thingC).length = l.length * 6 := by
  induction l with
  | nil => rfl
  | cons a l ih => simp only [List.flatMap_cons, List.length_append, ih, List.length_cons]; show 6 + _ = _; omega
theorem row_len {E w : World} {L : List SA} {p : Option Addr} {m c e size n : Nat} {xs : List Value} (h : sat E w (rowA (.slice p m c) e size n xs :: L)) : m = n ∧ ((p = none ∧ n = 0) ∨ ∃ g, p = some ⟨g, 0, none⟩) := by
  obtain ⟨_, ⟨h0, h1, _⟩ | ⟨g, cap, cur, h0, _⟩⟩ := h.row_open
  · simp at h0; exact ⟨by omega, .inl ⟨h0.1, h1⟩⟩
  · simp at h0; exact ⟨h0.2.1, .inr ⟨g, h0.1⟩⟩
theorem row_any {E w : World} {L : List SA} {v : Value} {e size n : Nat} {xs : List Value} (h : sat E w (rowA v e size n xs :: L)) : ∃ p c, v = .slice p n c := by
  obtain ⟨p, m, c, rfl⟩ := h.row_slice
  obtain ⟨rfl, _⟩ := row_len h
  exact ⟨p, c, rfl⟩
theorem row_pos {E w : World} {L : List SA} {v : Value} {e size n : Nat} {xs : List Value} (h : sat E w (rowA v e size n xs :: L)) (hn : 0 < n) : ∃ g c, v = .slice (some ⟨g, 0, none⟩) n c := by
  obtain ⟨p, m, c, rfl⟩ := h.row_slice
  obtain ⟨rfl, ⟨_, h0⟩ | ⟨g, rfl⟩⟩ := row_len h
  · omega
  · exact ⟨g, c, rfl⟩
end Go.Proofs.Ytdhcomklmckhoaa
