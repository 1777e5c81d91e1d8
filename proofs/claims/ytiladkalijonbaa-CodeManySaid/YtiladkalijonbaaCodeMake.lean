/- A move as the statements of code make it (Make). No condition. -/
import Derived.Test.YtiladkalijonbaaCodeKit
namespace Go.Proofs.Ytiladkalijonbaa
open Go.RowKit Go.SepYtiladkalijonbaa
open Go.Proofs.Ytiladkalijonbaa.PCodeCuts (S38 S40 S33)
set_option linter.unusedSimpArgs false
set_option linter.unusedVariables false
set_option maxRecDepth 100000
set_option maxHeartbeats 8000000
def makeK (v : S33) : Int := wrap64 ((IntKind.u64.wrap v.f0).tmod 3)
def make0 (v : S33) : S40 :=
  if (makeK v == 0) = true then
    (if v.f4 = true then ⟨makeK v, bits .and .i64 v.f1 63, ⟨1, if v.f5 = true then 1 else 0, 0, bits .and .i64 v.f3 255⟩, 0⟩
     else ⟨makeK v, bits .and .i64 v.f1 63, ⟨0, if v.f5 = true then 1 else 0, v.f6, 0⟩, 0⟩)
  else if (makeK v == 2) = true then ⟨makeK v, 0, ⟨0, 0, 0, 0⟩, wrap64 (1 + bits .and .i64 v.f2 32767)⟩
  else ⟨makeK v, bits .and .i64 v.f1 63, ⟨0, 0, 0, 0⟩, 0⟩
def makeM (v : S33) : S40 :=
  if (bits .and .i64 v.f7 31 == 1) = true then { make0 v with f0 := v.f0 }
  else if (bits .and .i64 v.f7 31 == 2) = true then { make0 v with f1 := v.f1 }
  else if (bits .and .i64 v.f7 31 == 3) = true then { make0 v with f3 := v.f2 }
  else if (bits .and .i64 v.f7 31 == 4) = true then { make0 v with f2 := { (make0 v).f2 with f3 := v.f3 } }
  else if (bits .and .i64 v.f7 31 == 5) = true then { make0 v with f2 := { (make0 v).f2 with f2 := v.f6 } }
  else if (bits .and .i64 v.f7 31 == 6) = true then { make0 v with f2 := { (make0 v).f2 with f0 := v.f2 } }
  else if (bits .and .i64 v.f7 31 == 7) = true then { make0 v with f2 := { (make0 v).f2 with f1 := v.f2 } }
  else make0 v
theorem make_calls (v : S33) (w : World) : Tells 12 #[.agg #[.int .i64 v.f0, .int .i64 v.f1, .int .i64 v.f2, .int .i64 v.f3, .bool v.f4, .bool v.f5, .int .u64 v.f6, .int .i64 v.f7]] w (.agg (moveC (makeM v)).toArray) := by
  obtain ⟨kind, who, n, start, take, right, value, odd⟩ := v
  dsimp only
  go_enter Try.func12, Try.ntmps12
  go_wp2
  all_goals
    refine bodyPost_ret (v := .agg (moveC (makeM ⟨kind, who, n, start, take, right, value, odd⟩)).toArray) (by simp [results, Try.results12, go_sem, makeM, make0, makeK, moveC, *]) rfl ⟨rfl, (((Below.refl _ _).alloc (Nat.le_refl _) _).alloc (by simp) _).alloc (by simp; omega) _⟩
theorem make_value (v : S33) (h : 0 ≤ v.f6 ∧ v.f6 < 18446744073709551616) : 0 ≤ (makeM v).f2.f2 ∧ (makeM v).f2.f2 < 18446744073709551616 := by
  have h0 : 0 ≤ (make0 v).f2.f2 ∧ (make0 v).f2.f2 < 18446744073709551616 := by
    unfold make0
    repeat' split
    all_goals first | exact h | (constructor <;> dsimp only <;> omega)
  unfold makeM
  repeat' split
  all_goals first | exact h | exact h0
end Go.Proofs.Ytiladkalijonbaa
