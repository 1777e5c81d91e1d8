/- 'append' of no element, and of one row of one's own to another. Plain lemmas; no condition. -/
import Derived.Test.YtdhcomklmckhoaaStep
namespace Go.SepYtdhcomklmckhoaa
open Go.RowKit
section
variable {E w : World} {L : List SA} {P : Program}
theorem run_append_zero {t ty e : Nat} {i : TypeInfo} (ht : P.underlying t = some (.slice e)) (hi : P.info? e = some i) {p px : Option Addr} {n cap cx : Nat} (hn : n ≤ cap) :
    (Builtin.append_ #[t, t] ty #[.slice p n cap, .slice px 0 cx]).run P w = .ok (.slice p n cap) w := by
  cases p <;> cases px <;> simp [Builtin.append_, underlying, ht, sizeOf, typeInfo, hi, Builtin.lenOf, hn, Builtin.firstCells, loadCells, loadCellsFrom, storeCells]
theorem set_self {α : Type _} : ∀ (i : Nat) (L : List α) {A : α}, L[i]? = some A → L.set i A = L
  | 0, [], _, h => rfl
  | 0, a :: l, _, h => by simp at h; simp [h]
  | i + 1, [], _, h => rfl
  | i + 1, a :: l, _, h => by simp at h; simp [set_self i l h]
/-- An append of a row of one's own (empty or not) to another row of one's own. -/
theorem st_append_row (i j : Nat) {ops : Array Oper} {rest : List Oper} {a : Act} {Q : Exit → Act → World → Prop} {dst : Option Tmp} {s x : Operand} {t : TypeId} {oty : TypeId} {pos : String} {af : Array Edge}
    (e size bytes : Nat) (ht : P.underlying t = some (.slice e)) (hi : ∃ q z, P.info? e = some q ∧ q.zero = some z ∧ q.size = size ∧ q.bytes = bytes ∧ z.cells.size = size)
    (h : sat E w L) {v : Value} {n : Nat} {xs : List Value} (hs : look a s = some v) (hL : L[i]? = some (rowA v e size n xs))
    {u : Value} {m : Nat} {ys : List Value} (hx : look a x = some u) (hM : L[j]? = some (rowA u e size m ys)) (h1 : ∀ u ∈ ys, u.oneCell' = true)
    (h63 : n + m ≤ maxLen) (hbytes : (n + m) * bytes ≤ 140737488355328)
    (k : ∀ p1 n1 c1 w', sat E w' (L.set i (rowA (.slice p1 n1 c1) e size (n + m) (xs ++ ys))) → wpList P ops Q rest (a.put dst (.slice p1 n1 c1)) w') :
    wpList P ops Q (⟨dst, .call { callee := .builtin .append, args := #[s, x], argTypes := #[t, t] }, oty, pos, af, none⟩ :: rest) a w := by
  obtain ⟨hl, hu⟩ := (h.pick j hM).row_open
  obtain ⟨hxs, hv⟩ := (h.pick i hL).row_open
  rcases Nat.eq_zero_or_pos m with rfl | hm
  · obtain rfl : ys = [] := List.eq_nil_of_length_eq_zero (by simpa using hl)
    have hv' : ∃ p cap, v = .slice p n cap ∧ n ≤ cap := by
      rcases hv with ⟨rfl, rfl, _⟩ | ⟨g, cap, _, rfl, h1, _⟩
      · exact ⟨_, _, rfl, Nat.le_refl _⟩
      · exact ⟨_, _, rfl, h1⟩
    have hu' : ∃ p c, u = .slice p 0 c := by
      rcases hu with ⟨rfl, _⟩ | ⟨g, cap, _, rfl, _⟩
      · exact ⟨_, _, rfl⟩
      · exact ⟨_, _, rfl⟩
    obtain ⟨p, cap, rfl, hnc⟩ := hv'
    obtain ⟨px, c, rfl⟩ := hu'
    obtain ⟨q, z, g1, _⟩ := hi
    have hr := run_append_zero (P := P) (ty := oty) (w := w) ht g1 (p := p) (px := px) (cx := c) hnc
    have kk := k p n cap w (by rw [List.append_nil, Nat.add_zero, set_self i L hL]; exact h)
    refine wpList_plain rfl fun K hK => ?_
    unfold Oper.wp execOp
    simp only [resolve, invoke, builtin, Sem.run_bind, Sem.run_pure, Result.andThen_ok, List.map_toArray, List.map_cons, List.map_nil, look_eval hs, look_eval hx, hr]
    exact hK _ _ kk
  · rcases hu with ⟨_, h0, _⟩ | ⟨g, c, cur, rfl, _⟩
    · omega
    · exact st_append i e size bytes ht hi h hs hL hx hl (fun j' u hj => by rw [Nat.zero_add]; exact h.row_rd j hM j' u hj) h1 hm h63 hbytes k
end
end Go.SepYtdhcomklmckhoaa
