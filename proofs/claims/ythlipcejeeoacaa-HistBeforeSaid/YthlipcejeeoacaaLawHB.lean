/- HistBefore's and HistMost's calls: whatever deeds there are, both answer true. -/
import Derived.Test.YthlipcejeeoacaaPHistBeforex2
import Derived.Test.YthlipcejeeoacaaFlat
namespace Go.Proofs.Ythlipcejeeoacaa
open Go.RowKit Go.SepYthlipcejeeoacaa Go.Proofs.Ythlipcejeeoacaa.PHistBefore Go.Proofs.YthlipcejeeoacaaW.PrintWords Go.Proofs.YthlipcejeeoacaaW.PrintLast Go.Proofs.YthlipcejeeoacaaW.PrintMore

abbrev DeedK : List FK := [FK.int .i64, FK.int .i64, FK.int .i64, FK.int .u64, FK.int .i64, FK.int .i64, FK.int .i64, FK.bool, FK.int .u64, FK.int .i64, FK.int .i64]
/-- A deed's cells, as numbers. -/
theorem deed_open {cs : List Value} (h : okAll DeedK cs) : ∃ a0 a1 a2 a3 a4 a5 a6 a8 a9 a10 : Int, ∃ a7 : Bool,
    cs = [.int .i64 a0, .int .i64 a1, .int .i64 a2, .int .u64 a3, .int .i64 a4, .int .i64 a5, .int .i64 a6, .bool a7, .int .u64 a8, .int .i64 a9, .int .i64 a10] := by
  obtain ⟨a0, v0, rfl, _, h0⟩ := okAll_int h
  obtain ⟨a1, v1, rfl, _, h1⟩ := okAll_int h0
  obtain ⟨a2, v2, rfl, _, h2⟩ := okAll_int h1
  obtain ⟨a3, v3, rfl, _, h3⟩ := okAll_int h2
  obtain ⟨a4, v4, rfl, _, h4⟩ := okAll_int h3
  obtain ⟨a5, v5, rfl, _, h5⟩ := okAll_int h4
  obtain ⟨a6, v6, rfl, _, h6⟩ := okAll_int h5
  obtain ⟨a7, v7, rfl, h7⟩ := okAll_bool h6
  obtain ⟨a8, v8, rfl, _, h8⟩ := okAll_int h7
  obtain ⟨a9, v9, rfl, _, h9⟩ := okAll_int h8
  obtain ⟨a10, v10, rfl, _, h10⟩ := okAll_int h9
  obtain rfl := okAll_nil h10
  exact ⟨a0, a1, a2, a3, a4, a5, a6, a8, a9, a10, a7, rfl⟩

theorem head_true : stackyardlaw14_head.f 9 = some true := by decide +kernel

theorem histBefore_calls (W : World) (x : List Value) (hx : okAll DeedK x) (y : List Value) (hy : okAll DeedK y) :
    Calls Try.prog 3 #[.agg x.toArray, .agg y.toArray] W fun e W' => e = .returned (.bool true) ∧ Below W.heap.size W W' := by
  obtain ⟨a0, a1, a2, a3, a4, a5, a6, a8, a9, a10, a7, rfl⟩ := deed_open hx
  obtain ⟨b0, b1, b2, b3, b4, b5, b6, b8, b9, b10, b7, rfl⟩ := deed_open hy
  refine stackyardlaw14_HistBefore.calls 9 a0 a1 a2 a3 a4 a5 a6 a7 a8 a9 a10 b0 b1 b2 b3 b4 b5 b6 b7 b8 b9 b10 true W ?_
  unfold stackyardlaw14_HistBefore.f hist_Before.f stackyardlaw14_before.f
  rw [head_true]
  simp only [Option.bind_some, if_true]
  by_cases h : a6 ≥ 0
  · rw [if_pos h]
    by_cases g : a6 < b5 <;> simp [g]
  · rw [if_neg h]; simp
end Go.Proofs.Ythlipcejeeoacaa
