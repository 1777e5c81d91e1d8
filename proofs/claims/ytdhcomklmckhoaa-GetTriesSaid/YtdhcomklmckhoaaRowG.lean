/- Rows of structs of one's own, whatever the struct, and copies of such. Plain lemmas; no condition. -/
import Derived.Test.YtdhcomklmckhoaaConf
import Derived.Test.YtdhcomklmckhoaaReg
import Derived.Test.YtdhcomklmckhoaaAppendV
namespace Go.Proofs.Ytdhcomklmckhoaa
open Go.RowKit Go.SepYtdhcomklmckhoaa
set_option linter.unusedSimpArgs false
set_option linter.unusedVariables false
section
variable {α : Type} {V : α → List Value} {k : Nat}
theorem fm_len (hk : ∀ x, (V x).length = k) : ∀ l : List α, (l.flatMap V).length = l.length * k
  | [] => by simp
  | e :: l => by rw [List.flatMap_cons, List.length_append, fm_len hk l, hk, List.length_cons, Nat.add_mul, Nat.one_mul, Nat.add_comm]
theorem fm_at (hk : ∀ x, (V x).length = k) : ∀ (l : List α) (n : Nat) (h : n < l.length) (i : Nat), i < k → (l.flatMap V)[n * k + i]? = (V l[n])[i]?
  | [], n, h, _, _ => by simp at h
  | e :: l, 0, _, i, hi => by
    rw [List.flatMap_cons, Nat.zero_mul, Nat.zero_add, List.getElem?_append_left (by rw [hk]; exact hi)]
    rfl
  | e :: l, n + 1, h, i, hi => by
    rw [List.flatMap_cons, List.getElem?_append_right (by rw [hk, Nat.add_mul]; omega), hk]
    have := fm_at hk l n (by simpa using h) i hi
    simp only [List.getElem_cons_succ]
    rw [← this]
    congr 1
    rw [Nat.add_mul]
    omega
theorem fm_one (h1 : ∀ x, ∀ u ∈ V x, u.oneCell' = true) (l : List α) : ∀ u ∈ l.flatMap V, u.oneCell' = true := by
  intro u hu
  obtain ⟨e, _, he⟩ := List.mem_flatMap.1 hu
  exact h1 e u he
theorem fm_mod (hk : ∀ x, (V x).length = k) (h0 : 0 < k) (l : List α) (j : Nat) (u : Value) (h : (l.flatMap V)[j]? = some u) : ∃ n i, ∃ hn : n < l.length, j = n * k + i ∧ i < k ∧ (V l[n])[i]? = some u := by
  have hj : j < (l.flatMap V).length := by
    rcases Nat.lt_or_ge j (l.flatMap V).length with h' | h'
    · exact h'
    · simp [List.getElem?_eq_none h'] at h
  rw [fm_len hk] at hj
  have hn : j / k < l.length := Nat.div_lt_of_lt_mul (by rwa [Nat.mul_comm])
  have hm : j % k < k := Nat.mod_lt _ h0
  have hd : j / k * k + j % k = j := by rw [Nat.mul_comm]; exact Nat.div_add_mod j k
  refine ⟨j / k, j % k, hn, hd.symm, hm, ?_⟩
  rw [← fm_at hk l (j / k) hn (j % k) hm, hd]
  exact h
theorem oldS_row (hk : ∀ x, (V x).length = k) {E w : World} {L : List SA} {p : Option Addr} {n c t : Nat} {l : List α} (h : sat E w (rowA (.slice p n c) t k l.length (l.flatMap V) :: L)) : OldS V k w p l := fun j hj => by
  obtain ⟨_, ⟨h0, h1, _⟩ | ⟨g, cap, cur, h0, _, _, _, _, h5⟩⟩ := h.row_open
  · simp at h0; omega
  · simp at h0
    obtain ⟨rfl, rfl, rfl⟩ := h0
    refine ⟨g, 0, rfl, h5.lt, fun i u hi => ?_⟩
    have h6 : i < k := by
      rcases Nat.lt_or_ge i k with h' | h'
      · exact h'
      · simp [List.getElem?_eq_none (show (V l[j]).length ≤ i by rw [hk]; exact h')] at hi
    rw [Nat.zero_add]
    exact h.row_rd 0 rfl (j * k + i) u (by rw [fm_at hk l j hj i h6]; exact hi)
theorem oldS_new (hk : ∀ x, (V x).length = k) (h0 : 0 < k) {w : World} {p : Option Addr} {l : List α} (h : OldS V k w p l) (hl : 0 < l.length) (hne : ∀ x, ∃ u, (V x)[0]? = some u) : ∃ b o, p = some ⟨b, o, none⟩ ∧ ∀ j u, (l.flatMap V)[j]? = some u → w.cell? ⟨b, o + j, none⟩ = some u := by
  obtain ⟨b, o, rfl, _, _⟩ := h 0 hl
  refine ⟨b, o, rfl, fun j u hu => ?_⟩
  obtain ⟨n, i, hn, rfl, hi, hv⟩ := fm_mod hk h0 l j u hu
  obtain ⟨b', o', e, _, hx⟩ := h n hn
  injection e with e
  injection e with e1 e2 _
  subst e1 e2
  rw [← Nat.add_assoc]
  exact hx i u hv
theorem OldS.take {size : Nat} {w : World} {p : Option Addr} {l : List α} (h : OldS V size w p l) (n : Nat) : OldS V size w p (l.take n) := fun j hj => by
  have hj' : j < l.length := by simp at hj; omega
  obtain ⟨c, off, h1, h2, h3⟩ := h j hj'
  refine ⟨c, off, h1, h2, fun i u hi => h3 i u ?_⟩
  rwa [List.getElem_take] at hi
theorem putL_app : ∀ (a b vs : List Value) (i : Nat), putL (a ++ b) (a.length + i) vs = a ++ putL b i vs
  | [], b, vs, i => by simp
  | x :: a, b, vs, i => by
    rw [List.length_cons, show a.length + 1 + i = (a.length + i) + 1 by omega]
    show x :: putL (a ++ b) (a.length + i) vs = _
    rw [putL_app a b vs i]; rfl
theorem putL_all : ∀ (a b vs : List Value), vs.length = a.length → putL (a ++ b) 0 vs = vs ++ b
  | [], b, [], _ => by rw [List.nil_append, putL_nil]
  | x :: a, b, v :: vs, h => by
    show v :: putL (a ++ b) 0 vs = _
    rw [putL_all a b vs (by simpa using h)]; rfl
theorem fm_put (hk : ∀ x, (V x).length = k) : ∀ (m : List α) (i : Nat) (d : α), i < m.length → putL (m.flatMap V) (i * k) (V d) = (m.set i d).flatMap V
  | [], _, _, h => by simp at h
  | e :: m, 0, d, _ => by
    rw [List.flatMap_cons, Nat.zero_mul, putL_all _ _ _ (by rw [hk, hk])]
    rfl
  | e :: m, i + 1, d, h => by
    rw [List.set_cons_succ, List.flatMap_cons, List.flatMap_cons, ← fm_put hk m i d (by simpa using h), show (i + 1) * k = (V e).length + i * k by rw [hk, Nat.add_mul]; omega, putL_app]
end
section
variable {E w : World} {L : List SA}
theorem row_cut {g n c e size m : Nat} {xs : List Value} (h : sat E w (rowA (.slice (some ⟨g, 0, none⟩) n c) e size n xs :: L)) (hm : m ≤ n) : sat E w (rowA (.slice (some ⟨g, 0, none⟩) m c) e size m (xs.take (m * size)) :: L) := by
  obtain ⟨hl, ⟨h0, _⟩ | ⟨g', cap', cur, h0, q1, q2, q3, q4, q5⟩⟩ := h.row_open
  · simp at h0
  · simp at h0
    obtain ⟨rfl, rfl⟩ := h0
    have hms : m * size ≤ n * size := Nat.mul_le_mul_right _ hm
    refine sat.row_shut ?_ (Nat.le_trans hm q1) q2 q3 ?_ q5
    · rw [List.length_take]; omega
    · rw [← q4, List.take_take, Nat.min_eq_left hms]
end
end Go.Proofs.Ytdhcomklmckhoaa
