/- What the value of a row of one's own looks like. Plain lemmas; no condition. -/
import Derived.Test.YtdhcomklmckhoaaAppendV
namespace Go.SepYtdhcomklmckhoaa
open Go.RowKit
section
variable {E w : World} {L : List SA}
theorem row_len {p : Option Addr} {m c e size n : Nat} {xs : List Value} (h : sat E w (rowA (.slice p m c) e size n xs :: L)) : m = n ∧ ((p = none ∧ n = 0) ∨ ∃ g, p = some ⟨g, 0, none⟩) := by
  obtain ⟨_, ⟨h0, h1, _⟩ | ⟨g, cap, cur, h0, _⟩⟩ := h.row_open
  · simp at h0; exact ⟨by omega, .inl ⟨h0.1, h1⟩⟩
  · simp at h0; exact ⟨h0.2.1, .inr ⟨g, h0.1⟩⟩
theorem row_any {v : Value} {e size n : Nat} {xs : List Value} (h : sat E w (rowA v e size n xs :: L)) : ∃ p c, v = .slice p n c := by
  obtain ⟨p, m, c, rfl⟩ := h.row_slice
  obtain ⟨rfl, _⟩ := row_len h
  exact ⟨p, c, rfl⟩
theorem row_pos {v : Value} {e size n : Nat} {xs : List Value} (h : sat E w (rowA v e size n xs :: L)) (hn : 0 < n) : ∃ g c, v = .slice (some ⟨g, 0, none⟩) n c := by
  obtain ⟨p, m, c, rfl⟩ := h.row_slice
  obtain ⟨rfl, ⟨_, h0⟩ | ⟨g, rfl⟩⟩ := row_len h
  · omega
  · exact ⟨g, c, rfl⟩
theorem row_some {p : Option Addr} {n c e size m : Nat} {xs : List Value} (h : sat E w (rowA (.slice p n c) e size m xs :: L)) (hm : 0 < m) : ∃ g, p = some ⟨g, 0, none⟩ ∧ n = m := by
  obtain ⟨rfl, ⟨_, h0⟩ | ⟨g, rfl⟩⟩ := row_len h
  · omega
  · exact ⟨g, rfl, rfl⟩
theorem row_cap {p : Option Addr} {m c e size n : Nat} {xs : List Value} (h : sat E w (rowA (.slice p m c) e size n xs :: L)) : n ≤ c ∧ c ≤ maxLen := by
  obtain ⟨_, ⟨h0, h1, _⟩ | ⟨g, cap, cur, h0, h1, h2, _⟩⟩ := h.row_open
  · simp at h0; obtain ⟨_, _, rfl⟩ := h0; exact ⟨by omega, Nat.zero_le _⟩
  · simp at h0; obtain ⟨_, _, rfl⟩ := h0; exact ⟨h1, h2⟩
end
end Go.SepYtdhcomklmckhoaa
