/- 'append' of a part of a slice, empty or not, to a row of one's own. Plain lemmas; no condition. -/
import Derived.Test.YtdhcomklmckhoaaAppend
namespace Go.SepYtdhcomklmckhoaa
open Go.RowKit
section
variable {E w : World} {L : List SA} {P : Program}
theorem st_append_part (i : Nat) {ops : Array Oper} {rest : List Oper} {a : Act} {Q : Exit → Act → World → Prop} {dst : Option Tmp} {s x : Operand} {t : TypeId} {oty : TypeId} {pos : String} {af : Array Edge}
    (e size bytes : Nat) (ht : P.underlying t = some (.slice e)) (hi : ∃ q z, P.info? e = some q ∧ q.zero = some z ∧ q.size = size ∧ q.bytes = bytes ∧ z.cells.size = size)
    (h : sat E w L) {v : Value} {n : Nat} {xs : List Value} (hs : look a s = some v) (hL : L[i]? = some (rowA v e size n xs))
    {px : Option Addr} {m c : Nat} {news : List Value} (hx : look a x = some (.slice px m c)) (hl : news.length = m * size)
    (hnews : 0 < m → ∃ b o, px = some ⟨b, o, none⟩ ∧ ∀ j u, news[j]? = some u → w.cell? ⟨b, o + j, none⟩ = some u) (h1 : ∀ u ∈ news, u.oneCell' = true)
    (h63 : n + m ≤ maxLen) (hbytes : (n + m) * bytes ≤ 140737488355328)
    (k : ∀ p1 n1 c1 w', sat E w' (L.set i (rowA (.slice p1 n1 c1) e size (n + m) (xs ++ news))) → wpList P ops Q rest (a.put dst (.slice p1 n1 c1)) w') :
    wpList P ops Q (⟨dst, .call { callee := .builtin .append, args := #[s, x], argTypes := #[t, t] }, oty, pos, af, none⟩ :: rest) a w := by
  obtain ⟨hxs, hv⟩ := (h.pick i hL).row_open
  rcases Nat.eq_zero_or_pos m with rfl | hm
  · obtain rfl : news = [] := List.eq_nil_of_length_eq_zero (by simpa using hl)
    have hv' : ∃ p cap, v = .slice p n cap ∧ n ≤ cap := by
      rcases hv with ⟨rfl, rfl, _⟩ | ⟨g, cap, _, rfl, h1, _⟩
      · exact ⟨_, _, rfl, Nat.le_refl _⟩
      · exact ⟨_, _, rfl, h1⟩
    obtain ⟨p, cap, rfl, hnc⟩ := hv'
    obtain ⟨q, z, g1, _⟩ := hi
    have hr := run_append_zero (P := P) (ty := oty) (w := w) ht g1 (p := p) (px := px) (cx := c) hnc
    have kk := k p n cap w (by rw [List.append_nil, Nat.add_zero, set_self i L hL]; exact h)
    refine wpList_plain rfl fun K hK => ?_
    unfold Oper.wp execOp
    simp only [resolve, invoke, builtin, Sem.run_bind, Sem.run_pure, Result.andThen_ok, List.map_toArray, List.map_cons, List.map_nil, look_eval hs, look_eval hx, hr]
    exact hK _ _ kk
  · obtain ⟨b, o, rfl, hb⟩ := hnews hm
    exact st_append i e size bytes ht hi h hs hL hx hl hb h1 hm h63 hbytes k
/-- An empty row, just made. -/
theorem sat.row_empty {e size : Nat} (h : sat E w L) : sat E (w.alloc (.cells #[] e)) (rowA (.slice (some ⟨w.heap.size, 0, none⟩) 0 0) e size 0 [] :: L) :=
  sat.row_shut (by simp) (Nat.le_refl _) (by simp [maxLen]) (by simp) (by simp) (h.alloc _)
end
end Go.SepYtdhcomklmckhoaa
