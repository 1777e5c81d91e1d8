/- BoundGaps' calls, out of its pure law. -/
import Derived.Test.YthlipcejeeoacaaPureBoundGaps
import Derived.Test.YthlipcejeeoacaaFlat
namespace Go.Proofs.Ythlipcejeeoacaa
open Go.RowKit Go.SepYthlipcejeeoacaa Go.Proofs.Ythlipcejeeoacaa.PBoundGaps Go.Proofs.YthlipcejeeoacaaW.PrintWords Go.Proofs.YthlipcejeeoacaaW.PrintLast Go.Proofs.YthlipcejeeoacaaW.PrintMore
theorem ints_read : ∀ (rows : List (List Value)), (∀ r ∈ rows, okAll [FK.int .i64] r) → ∃ ps : List Int, ps.length = rows.length ∧ (∀ x ∈ ps, (Lit.int .i64 x).wf = true) ∧ ∀ (w : World) (j : Nat) (p : Int), ps[j]? = some p → ∃ r, rows[j]? = some r ∧ (Kd.int .i64).K w p r
  | [], _ => ⟨[], rfl, by simp, fun _ j p h => by simp at h⟩
  | r :: rows, h => by
    obtain ⟨ps, h1, h0, h2⟩ := ints_read rows (fun q hq => h q (by simp [hq]))
    obtain ⟨a0, v0, rfl, hw, h3⟩ := okAll_int (h r (by simp))
    obtain rfl := okAll_nil h3
    refine ⟨a0 :: ps, by simp [h1], ?_, fun w j p hj => ?_⟩
    · intro x hx
      rcases List.mem_cons.1 hx with rfl | hx
      · exact hw
      · exact h0 x hx
    · cases j with
      | zero => simp at hj; subst hj; exact ⟨_, rfl, rfl⟩
      | succ j => simp at hj; simpa using h2 w j p hj
theorem kd_ints {w : World} {a : Option Addr} {len cap : Nat} {rows : List (List Value)} (h : RowsAt w [FK.int .i64] a len cap rows) : ∃ ps : List Int, ps.length = len ∧ (∀ x ∈ ps, (Lit.int .i64 x).wf = true) ∧ Kd.C (Kd.int .i64) w a len ps := by
  obtain ⟨ps, h1, h0, h2⟩ := ints_read rows h.ok
  refine ⟨ps, by rw [h1, h.length], h0, by rw [h1, h.length], ?_, fun hn => ?_⟩
  · have := h.le; have := h.max; simp [maxLen] at *; omega
  · cases ha : a with
    | none => have := h.nil ha; omega
    | some x =>
      refine ⟨x, rfl, fun j p hj => ?_⟩
      obtain ⟨r, hr, hk⟩ := h2 w j p hj
      exact ⟨r, (Kd.int .i64).K_len hk, hk, fun i u hu => h.cell x ha j i u r hr hu⟩
theorem boundGaps_calls (W : World) (a : Option Addr) (len cap : Nat) (rows : List (List Value)) (h : RowsAt W [FK.int .i64] a len cap rows) (rest : Int) (_hr : (Lit.int .i64 rest).wf = true) :
    Calls Try.prog 5 #[.slice a len cap, .int .i64 rest] W fun e W' => e = .returned (.bool true) ∧ Below W.heap.size W W' := by
  obtain ⟨ps, rfl, hw, hk⟩ := kd_ints h
  refine stackyardlaw16_BoundGaps.calls 200 a cap ps rest true W hk h.le ?_
  unfold stackyardlaw16_BoundGaps.f
  rw [Pure.head_true]
  simp only [Option.bind_some, if_true]
  by_cases h : (ps.length : Int) > 60
  · rw [if_pos h]
  · rw [if_neg h, Pure.i64_and16]
    have := Pure.law_run (rest % 65536) (by omega) ps [] 200 (by simp; omega) (by omega)
    simpa [Pure.big, Pure.tot, Pure.scan] using this
end Go.Proofs.Ythlipcejeeoacaa
