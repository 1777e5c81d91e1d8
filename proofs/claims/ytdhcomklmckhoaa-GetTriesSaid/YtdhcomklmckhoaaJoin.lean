/- What a call leaves of its own, beside what its caller holds. Plain lemmas; no condition. -/
import Derived.Test.YtdhcomklmckhoaaSep
namespace Go.SepYtdhcomklmckhoaa
open Go.RowKit
/-- A call's own parts, joined to the caller's. -/
theorem sat.join {E w w' : World} {L M : List SA} (h : sat E w L) (k : sat w w' M) : sat E w' (M ++ L) := by
  have hs := h.size
  obtain ⟨bl, g, x, y⟩ := h
  obtain ⟨bl', g', x', y'⟩ := k
  have none_at : ∀ c, w.heap.size ≤ c → g c = none := fun c hc => by
    cases e : g c with
    | none => rfl
    | some q =>
      have := (y c q e).1
      simp [Array.getElem?_eq_none hc] at this
  refine ⟨bl.trans (bl'.mono bl.size), Hp.both g' g, bag_append.2 ⟨g', g, fun c => ?_, rfl, x', x⟩, fun c q e => ?_⟩
  · cases e : g' c with
    | none => exact .inl rfl
    | some q => exact .inr (none_at c (y' c q e).2)
  · cases e' : g' c with
    | some q' =>
      have : Hp.both g' g c = some q' := both_left e'
      rw [this] at e
      obtain rfl := Option.some.inj e
      exact ⟨(y' c q' e').1, Nat.le_trans hs (y' c q' e').2⟩
    | none =>
      have e2 : g c = some q := by simpa [Hp.both, e'] using e
      have := y c q e2
      refine ⟨?_, this.2⟩
      rw [bl'.block c]
      · exact this.1
      · rcases Nat.lt_or_ge c w.heap.size with h | h
        · exact h
        · simp [Array.getElem?_eq_none h] at this
end Go.SepYtdhcomklmckhoaa
