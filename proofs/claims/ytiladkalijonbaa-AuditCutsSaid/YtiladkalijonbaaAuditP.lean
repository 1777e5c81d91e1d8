/- The maps of the auditor: their keys and elements. No condition. -/
import Derived.Test.YtiladkalijonbaaAuditK
import Derived.Maps.OwnSet
namespace Go.Proofs.Ytiladkalijonbaa
open Go.RowKit Go.SepYtiladkalijonbaa Go.Maps
set_option linter.unusedSimpArgs false
set_option linter.unusedVariables false
set_option maxRecDepth 100000
theorem laidP : laidOutB Try.prog = true := by kernel_rfl
theorem keyedI : Keyed Try.prog 3 := int_keyed Try.underlying3
theorem keyedP : Keyed Try.prog 91 := Keyed.of_law (deep_law_laid laidP (m := 5) (by omega) (of_decide_eq_true (by kernel_rfl)) (by kernel_rfl) (by kernel_rfl))
def pairKey (i j : Int) : Lit := .string (keyBytes [.int .i64 i, .int .i64 j])
def w64P (i : Int) : Prop := -9223372036854775808 ≤ i ∧ i < 9223372036854775808
theorem wf64 {i : Int} (h : w64P i) : (Lit.int .i64 i).wf = true := by
  have e1 : IntKind.i64.min = -9223372036854775808 := by decide
  have e2 : IntKind.i64.max = 9223372036854775807 := by decide
  unfold w64P at h
  simp only [Lit.wf, Bool.and_eq_true, decide_eq_true_eq]
  omega
theorem wfU {i : Int} (h : 0 ≤ i ∧ i < 18446744073709551616) : (Lit.int .u64 i).wf = true := by
  have e1 : IntKind.u64.min = 0 := by decide
  have e2 : IntKind.u64.max = 18446744073709551615 := by decide
  simp only [Lit.wf, Bool.and_eq_true, decide_eq_true_eq]
  omega
theorem keyOf_pair {i j : Int} (hi : w64P i) (hj : w64P j) : keyOf Try.prog 91 (.agg #[.int .i64 i, .int .i64 j]) = some (pairKey i j) := by
  have hu : Try.prog.underlying 91 = some (.array 2 3) := by kernel_rfl
  have hk : Try.prog.keyType 91 = true := by kernel_rfl
  have hc : Try.prog.cellsOf 91 = 2 := by kernel_rfl
  have hc1 : Try.prog.cellsOf 3 = 1 := by kernel_rfl
  have hz : ∃ m, Try.prog.types.size + 1 = m + 2 := ⟨Try.prog.types.size - 1, by kernel_rfl⟩
  obtain ⟨m, hm⟩ := hz
  have hui := Try.underlying3
  simp only [keyOf, hu, hk, hm, Value.formed, hc]
  rw [if_pos (by rfl)]
  have e : Try.prog.keyLits (m + 2) 91 [.int .i64 i, .int .i64 j] = some [.int .i64 i, .int .i64 j] := by
    simp [Program.keyLits, hu, hui, hc, hc1, wf64 hi, wf64 hj, List.range, List.range.loop]
  have e2 : (Value.agg #[.int .i64 i, .int .i64 j]).cells.toList = [.int .i64 i, .int .i64 j] := rfl
  rw [e2, e]
  rfl
theorem pairKey_inj {i j a b : Int} (hi : w64P i) (hj : w64P j) (ha : w64P a) (hb : w64P b) (h : pairKey i j = pairKey a b) : i = a ∧ j = b := by
  have h1 := keyOf_pair hi hj
  rw [h] at h1
  have := keyedP.inj h1 (keyOf_pair ha hb)
  simpa using this
theorem zeroV : ∀ w : World, (zeroValue 31).run Try.prog w = .ok (.int .u64 0) w := fun w => by kernel_rfl
theorem zeroG : ∀ w : World, (zeroValue 3).run Try.prog w = .ok (.int .i64 0) w := fun w => by kernel_rfl
abbrev cellsA (b n : Nat) (f : Lit → Option Int) : SA := mapI Try.prog 3 31 .u64 b n f
abbrev seenA (b n : Nat) (f : Lit → Option Int) : SA := mapI Try.prog 91 3 .i64 b n f
section
variable {E w : World} {L : List SA}
theorem look_cells {b n : Nat} {f : Lit → Option Int} (h : sat E w (cellsA b n f :: L)) {i : Int} (hi : w64P i) :
    (Instr.lookup 73 (.map (some b)) (.int .i64 i) false).run Try.prog w = .ok (.int .u64 ((f (.int .i64 i)).getD 0)) w :=
  (sat.mapI_look h keyedI Try.underlying73 Try.underlying31 zeroV (keyOf_int_mk Try.underlying3 (wf64 hi))).1
theorem look_seen {b n : Nat} {f : Lit → Option Int} (h : sat E w (seenA b n f :: L)) {i j : Int} (hi : w64P i) (hj : w64P j) :
    (Instr.lookup 74 (.map (some b)) (.agg #[.int .i64 i, .int .i64 j]) true).run Try.prog w = .ok (.tuple #[.int .i64 ((f (pairKey i j)).getD 0), .bool (f (pairKey i j)).isSome]) w :=
  (sat.mapI_look h keyedP Try.underlying74 Try.underlying3 zeroG (keyOf_pair hi hj)).2
theorem put_cells {b n : Nat} {f : Lit → Option Int} (h : sat E w (cellsA b n f :: L)) (hn : n ≤ 1000000) {i x : Int} (hi : w64P i) (hx : 0 ≤ x ∧ x < 18446744073709551616) :
    ∃ w', (Instr.mapUpdate 73 (.map (some b)) (.int .i64 i) (.int .u64 x)).run Try.prog w = .ok () w' ∧ sat E w' (cellsA b (n + 1) (updI f (.int .i64 i) x) :: L) :=
  sat.mapI_put h keyedI Try.underlying73 Try.underlying31 (by unfold maxLen; omega) (keyOf_int_mk Try.underlying3 (wf64 hi)) (wfU hx)
theorem put_seen {b n : Nat} {f : Lit → Option Int} (h : sat E w (seenA b n f :: L)) (hn : n ≤ 1000000) {i j x : Int} (hi : w64P i) (hj : w64P j) (hx : w64P x) :
    ∃ w', (Instr.mapUpdate 74 (.map (some b)) (.agg #[.int .i64 i, .int .i64 j]) (.int .i64 x)).run Try.prog w = .ok () w' ∧ sat E w' (seenA b (n + 1) (updI f (pairKey i j) x) :: L) :=
  sat.mapI_put h keyedP Try.underlying74 Try.underlying3 (by unfold maxLen; omega) (keyOf_pair hi hj) (wf64 hx)
end
end Go.Proofs.Ytiladkalijonbaa
