/- What a called function leaves of its own, as parts of what its caller holds; and rows of one's own as rows that are read. Plain lemmas; no condition. -/
import Derived.Test.YtiladkalijonbaaStep
import Derived.Test.YtiladkalijonbaaFlat
import Derived.Test.YtiladkalijonbaaAppend
import Derived.Test.YtiladkalijonbaaWord
import Derived.Test.YtiladkalijonbaaPCodeCutsx0
import Derived.DataReads
namespace Go.Proofs.Ytiladkalijonbaa
open Go.RowKit Go.SepYtiladkalijonbaa Go.Proofs.YtiladkalijonbaaW.PrintWords Go.Proofs.YtiladkalijonbaaW.PrintLast Go.Proofs.YtiladkalijonbaaW.PrintMore
open Go.Proofs.Ytiladkalijonbaa.PCodeCuts (S38 S40 S33 k38 k40 k33)
set_option linter.unusedSimpArgs false
set_option linter.unusedVariables false
theorem reps_flat {α : Type} {R : α → List Value → Prop} {enc : α → List Value} {size : Nat} (hl : ∀ p, (enc p).length = size) (hR : ∀ p c, R p c → c = enc p) : ∀ (ps : List α) (cs : List Value), Reps R size ps cs → cs = ps.flatMap enc
  | [], cs, h => List.eq_nil_of_length_eq_zero (by simpa using h.1)
  | p :: ps, cs, h => by
    have h0 : cs.take size = enc p := by
      have := hR _ _ (h.2 0 p rfl)
      simpa using this
    have hlen := h.1
    rw [List.length_cons, Nat.add_mul, Nat.one_mul] at hlen
    have hr : Reps R size ps (cs.drop size) := ⟨by rw [List.length_drop, hlen]; omega, fun j q hq => by
      have := h.2 (j + 1) q (by simpa using hq)
      rw [List.drop_drop]
      rwa [show (j + 1) * size = size + j * size by rw [Nat.add_mul, Nat.one_mul, Nat.add_comm]] at this⟩
    rw [List.flatMap_cons, ← reps_flat hl hR ps _ hr, ← h0, List.take_append_drop]
theorem take_own {E w w' : World} {L : List SA} {v : Value} {e size n : Nat} {xs : List Value} (h : sat E w L) (hb : Below w.heap.size w w') (o : w'.ownsRow w.heap.size e size v n xs) : sat E w' (rowA v e size n xs :: L) := by
  obtain ⟨hl, ⟨rfl, rfl⟩ | ⟨g, cap, cur, rfl, hg, hh, h1, h2, h3, h4⟩⟩ := o
  · obtain rfl : xs = [] := List.eq_nil_of_length_eq_zero (by simpa using hl)
    exact (h.grown hb).row_nil e size
  · exact sat.row_shut hl h1 h2 h3 h4 (h.take hb hg hh)
def byteC (x : Int) : List Value := [.int .u8 x]
def moveC (m : S40) : List Value := [.int .i64 m.f0, .int .i64 m.f1, .int .i64 m.f2.f0, .int .i64 m.f2.f1, .int .u64 m.f2.f2, .int .i64 m.f2.f3, .int .i64 m.f3]
theorem take_bytes {E w w' : World} {L : List SA} {v : Value} {xs : List Int} (h : sat E w L) (hb : Below w.heap.size w w') (o : Kd.R (Kd.int .u8) 5 w' w.heap.size (fun _ => True) v xs) : sat E w' (rowA v 5 1 xs.length (xs.flatMap byteC) :: L) := by
  obtain ⟨_, inner, ho, hr⟩ := o
  have := reps_flat (enc := byteC) (size := 1) (fun _ => rfl) (fun _ _ h => h) xs inner hr
  subst this
  exact take_own h hb ho
theorem take_moves {E w w' : World} {L : List SA} {v : Value} {xs : List S40} (h : sat E w L) (hb : Below w.heap.size w w') (o : Kd.R k40 40 w' w.heap.size (fun _ => True) v xs) : sat E w' (rowA v 40 7 xs.length (xs.flatMap moveC) :: L) := by
  obtain ⟨_, inner, ho, hr⟩ := o
  have := reps_flat (enc := moveC) (size := 7) (fun _ => rfl) (fun _ _ h => PCodeCuts.k40_openM h) xs inner hr
  subst this
  exact take_own h hb ho
theorem flat_at {α : Type} {enc : α → List Value} {size : Nat} (hl : ∀ p, (enc p).length = size) : ∀ (l : List α) (n : Nat) (h : n < l.length) (j : Nat), j < size → (l.flatMap enc)[n * size + j]? = (enc l[n])[j]?
  | a :: l, 0, _, j, hj => by simp only [List.flatMap_cons, Nat.zero_mul, Nat.zero_add]; rw [List.getElem?_append_left (by rw [hl]; exact hj)]; rfl
  | a :: l, n + 1, h, j, hj => by
    have e : (enc a).length = size := hl a
    simp only [List.flatMap_cons]
    rw [List.getElem?_append_right (by rw [e, Nat.add_mul]; omega), show (n + 1) * size + j - (enc a).length = n * size + j by rw [e, Nat.add_mul]; omega, flat_at hl l n (by simpa using h) j hj]
    rfl
/-- A row of one's own, as a row that is read. -/
theorem row_reads {E w : World} {L : List SA} {α : Type} {d : Kd α} {enc : α → List Value} {e n c : Nat} {p : Option Addr} {l : List α} (hl : ∀ p, (enc p).length = d.sz) (hk : ∀ w x, d.K w x (enc x)) (h : sat E w (rowA (.slice p n c) e d.sz l.length (l.flatMap enc) :: L)) (i63 : l.length ≤ 9223372036854775807) :
    n = l.length ∧ l.length ≤ c ∧ Kd.C d w p l.length l := by
  obtain ⟨_, ⟨h0, h1, _⟩ | ⟨g, cap, cur, h0, h1, _⟩⟩ := h.row_open
  · simp at h0
    obtain ⟨rfl, rfl, rfl⟩ := h0
    exact ⟨h1.symm, by omega, rfl, i63, fun hp => by omega⟩
  · simp at h0
    obtain ⟨rfl, rfl, rfl⟩ := h0
    refine ⟨rfl, h1, rfl, i63, fun hp => ⟨_, rfl, fun j x hj => ⟨enc x, hl x, hk w x, fun i u hi => ?_⟩⟩⟩
    obtain ⟨hj', rfl⟩ := List.getElem?_eq_some_iff.1 hj
    have hi' : i < d.sz := by have := (List.getElem?_eq_some_iff.1 hi).1; rwa [hl] at this
    rw [Addr.add_lit, Nat.zero_add]
    exact h.row_rd 0 rfl _ _ (by rw [flat_at hl l j hj' i hi']; exact hi)
theorem bytes_reads {E w : World} {L : List SA} {n c : Nat} {p : Option Addr} {l : List Int} (h : sat E w (rowA (.slice p n c) 5 1 l.length (l.flatMap byteC) :: L)) (i63 : l.length ≤ 9223372036854775807) : n = l.length ∧ l.length ≤ c ∧ Kd.C (Kd.int .u8) w p l.length l :=
  row_reads (d := Kd.int .u8) (enc := byteC) (fun _ => rfl) (fun _ _ => rfl) h i63
theorem moves_reads {E w : World} {L : List SA} {n c : Nat} {p : Option Addr} {l : List S40} (h : sat E w (rowA (.slice p n c) 40 7 l.length (l.flatMap moveC) :: L)) (i63 : l.length ≤ 9223372036854775807) : n = l.length ∧ l.length ≤ c ∧ Kd.C k40 w p l.length l :=
  row_reads (d := k40) (enc := moveC) (fun _ => rfl) (fun w x => PCodeCuts.k40_mk w x) h i63
end Go.Proofs.Ytiladkalijonbaa
