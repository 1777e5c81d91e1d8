/- 'append' within a region whose operations have no order of their own. Plain lemmas; no condition. -/
import Derived.Test.YtlnfbfnccefcnaaGreatAppendV
import Derived.Deep.RegionHeld3
namespace Go.SepYtlnfbfnccefcnaaGreat
open Go.RowKit
section
variable {E w : World} {L : List SA} {P : Program}
theorem sat.setp (i : Nat) (h : sat E w L) {b t j : Nat} {l : List Value} {v : Value} (e : L[i]? = some (pt b (.cells l.toArray t (0, 0)))) : sat E (w.setCell ⟨b, j, none⟩ v) (L.set i (pt b (.cells (l.set j v).toArray t (0, 0)))) :=
  h.at_part i e (fun _ s => s.set0)
theorem rg_append (i : Nat) {ops : Array Oper} {a : Act} {o : Oper} {Kc : Act → World → Prop} {Q : Exit → Act → World → Prop} {s x : Operand} {t : TypeId}
    (hw : Region.wanted o (yielded ops a.tmps) = true) (ho : o.op = .call { callee := .builtin .append, args := #[s, x], argTypes := #[t, t] })
    (e size bytes : Nat) (ht : P.underlying t = some (.slice e)) (hi : ∃ q z, P.info? e = some q ∧ q.zero = some z ∧ q.size = size ∧ q.bytes = bytes ∧ z.cells.size = size)
    (h : sat E w L) {v : Value} {n : Nat} {xs : List Value} (hs : a.eval s = v) (hL : L[i]? = some (rowA v e size n xs))
    {b off m c : Nat} {news : List Value} (hx : a.eval x = .slice (some ⟨b, off, none⟩) m c) (hl : news.length = m * size) (hnews : ∀ j u, news[j]? = some u → w.cell? ⟨b, off + j, none⟩ = some u) (h1 : ∀ u ∈ news, u.oneCell' = true) (hm : 0 < m)
    (h63 : n + m ≤ maxLen) (hbytes : (n + m) * bytes ≤ 140737488355328)
    (k : ∀ p1 n1 c1 w', sat E w' (L.set i (rowA (.slice p1 n1 c1) e size (n + m) (xs ++ news))) → Kc (a.put o.dst (.slice p1 n1 c1)) w') :
    if Region.wanted o (yielded ops a.tmps) = true then Oper.wp P o a w Kc Q else Kc (a.put o.dst undef) w := by
  rw [if_pos hw]
  obtain ⟨q, z, g1, g2, g3, g4, g5⟩ := hi
  obtain ⟨v', w', hr, h2, h3⟩ := run_append_sat (P := P) (ty := o.type) ht g1 g2 g3 g4 g5 (h.pick i hL) (ad := ⟨b, off, none⟩) hl (fun j u hj => (Addr.add_lit b off j).symm ▸ hnews j u hj) h1 hm (c := c) h63 hbytes
  unfold Oper.wp execOp
  simp only [ho, resolve, invoke, builtin, Sem.run_bind, Sem.run_pure, Result.andThen_ok, List.map_toArray, List.map_cons, List.map_nil, hs, hx, hr]
  obtain ⟨p1, n1, c1, rfl⟩ := h2.row_slice
  exact k p1 n1 c1 w' (h2.perm (set_perm i L hL).symm)
theorem rg_append_part (i : Nat) {ops : Array Oper} {a : Act} {o : Oper} {Kc : Act → World → Prop} {Q : Exit → Act → World → Prop} {s x : Operand} {t : TypeId}
    (hw : Region.wanted o (yielded ops a.tmps) = true) (ho : o.op = .call { callee := .builtin .append, args := #[s, x], argTypes := #[t, t] })
    (e size bytes : Nat) (ht : P.underlying t = some (.slice e)) (hi : ∃ q z, P.info? e = some q ∧ q.zero = some z ∧ q.size = size ∧ q.bytes = bytes ∧ z.cells.size = size)
    (h : sat E w L) {v : Value} {n : Nat} {xs : List Value} (hs : a.eval s = v) (hL : L[i]? = some (rowA v e size n xs))
    {px : Option Addr} {m c : Nat} {news : List Value} (hx : a.eval x = .slice px m c) (hl : news.length = m * size)
    (hnews : 0 < m → ∃ b o, px = some ⟨b, o, none⟩ ∧ ∀ j u, news[j]? = some u → w.cell? ⟨b, o + j, none⟩ = some u) (h1 : ∀ u ∈ news, u.oneCell' = true)
    (h63 : n + m ≤ maxLen) (hbytes : (n + m) * bytes ≤ 140737488355328)
    (k : ∀ p1 n1 c1 w', sat E w' (L.set i (rowA (.slice p1 n1 c1) e size (n + m) (xs ++ news))) → Kc (a.put o.dst (.slice p1 n1 c1)) w') :
    if Region.wanted o (yielded ops a.tmps) = true then Oper.wp P o a w Kc Q else Kc (a.put o.dst undef) w := by
  rcases Nat.eq_zero_or_pos m with rfl | hm
  · obtain rfl : news = [] := List.eq_nil_of_length_eq_zero (by simpa using hl)
    obtain ⟨hxs, hv⟩ := (h.pick i hL).row_open
    have hv' : ∃ p cap, v = .slice p n cap ∧ n ≤ cap := by
      rcases hv with ⟨rfl, rfl, _⟩ | ⟨g, cap, _, rfl, h1, _⟩
      · exact ⟨_, _, rfl, Nat.le_refl _⟩
      · exact ⟨_, _, rfl, h1⟩
    obtain ⟨p, cap, rfl, hnc⟩ := hv'
    obtain ⟨q, z, g1, _⟩ := hi
    have hr := run_append_zero (P := P) (ty := o.type) (w := w) ht g1 (p := p) (px := px) (cx := c) hnc
    have kk := k p n cap w (by rw [List.append_nil, Nat.add_zero, set_self i L hL]; exact h)
    rw [if_pos hw]
    unfold Oper.wp execOp
    simp only [ho, resolve, invoke, builtin, Sem.run_bind, Sem.run_pure, Result.andThen_ok, List.map_toArray, List.map_cons, List.map_nil, hs, hx, hr]
    exact kk
  · obtain ⟨b, o', rfl, hb⟩ := hnews hm
    exact rg_append i hw ho e size bytes ht hi h hs hL hx hl hb h1 hm h63 hbytes k
end
end Go.SepYtlnfbfnccefcnaaGreat
