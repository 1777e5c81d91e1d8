/- Many moves, all of them steps: cells, bytes, and what Encode and Decode answer to them. Plain Lean; no program. -/
import Derived.Test.YtiladkalijonbaaCodeCutM
import Derived.Test.YtiladkalijonbaaCodeKit
import Derived.Test.YtiladkalijonbaaCodeRight
import Derived.Laws.MakeOwn
namespace Go.Proofs.Ytiladkalijonbaa
open Go.RowKit Go.Proofs.YtiladkalijonbaaW.PrintWords Go.Proofs.YtiladkalijonbaaW.PrintLast Go.Proofs.YtiladkalijonbaaW.PrintMore
open Go.Proofs.Ytiladkalijonbaa.PCodeCuts
set_option linter.unusedSimpArgs false
set_option linter.unusedVariables false
set_option maxRecDepth 100000
def stepM : S40 := ⟨1, 0, ⟨0, 0, 0, 0⟩, 0⟩
def zeroM : S40 := ⟨0, 0, ⟨0, 0, 0, 0⟩, 0⟩
/-- The first n of N moves are steps, the others nothing. -/
def msA (N n : Nat) : List S40 := (List.range N).map (fun j => if j < n then stepM else zeroM)
theorem msA_len (N n : Nat) : (msA N n).length = N := by simp [msA]
theorem msA_at (N n j : Nat) (h : j < N) : (msA N n)[j]'(by rw [msA_len]; exact h) = if j < n then stepM else zeroM := by simp [msA]
theorem msA_all (N : Nat) : msA N N = List.replicate N stepM := by
  refine List.ext_getElem (by simp [msA_len]) fun j h1 h2 => ?_
  rw [msA_len] at h1
  rw [msA_at N N j h1, if_pos h1, List.getElem_replicate]
def zeroA : Array Value := #[.int .i64 0, .int .i64 0, .int .i64 0, .int .i64 0, .int .u64 0, .int .i64 0, .int .i64 0]
theorem flat_len (ms : List S40) : (ms.flatMap moveC).length = ms.length * 7 := by
  induction ms with
  | nil => rfl
  | cons m ms ih => rw [List.flatMap_cons, List.length_append, ih, List.length_cons, show (moveC m).length = 7 from rfl]; omega
theorem cell_at (N n i : Nat) (h : i < N * 7) : ((msA N n).flatMap moveC)[i]? = (moveC (if i / 7 < n then stepM else zeroM))[i % 7]? := by
  have h1 : i / 7 < N := by omega
  have e : i = (i / 7) * 7 + i % 7 := by omega
  have := flat_at (enc := moveC) (size := 7) (fun _ => rfl) (msA N n) (i / 7) (by rw [msA_len]; exact h1) (i % 7) (by omega)
  rw [← e, msA_at N n _ h1] at this
  exact this
theorem made_msA (N : Nat) : ((madeCells zeroA (N * 7)).toList.take (N * 7)) = (msA N 0).flatMap moveC := by
  rw [List.take_of_length_le (by rw [Array.length_toList, size_madeCells]; exact Nat.le_refl _)]
  refine List.ext_getElem? fun i => ?_
  by_cases h : i < N * 7
  · rw [cell_at N 0 i h, if_neg (by omega)]
    unfold madeCells
    have h7 : i % 7 = 0 ∨ i % 7 = 1 ∨ i % 7 = 2 ∨ i % 7 = 3 ∨ i % 7 = 4 ∨ i % 7 = 5 ∨ i % 7 = 6 := by omega
    have hz : zeroA.size = 7 := rfl
    rw [Array.toList_map, Array.toList_range, List.getElem?_map, List.getElem?_range h, Option.map_some, hz]
    rcases h7 with e | e | e | e | e | e | e <;> rw [e] <;> rfl
  · rw [List.getElem?_eq_none (by rw [Array.length_toList, size_madeCells]; omega), List.getElem?_eq_none (by rw [flat_len, msA_len]; omega)]
theorem msA_set (N n : Nat) (h : n < N) : ((msA N n).flatMap moveC).set (n * 7) (.int .i64 1) = (msA N (n + 1)).flatMap moveC := by
  refine List.ext_getElem? fun i => ?_
  by_cases hi : i < N * 7
  · rw [cell_at N (n + 1) i hi, List.getElem?_set]
    by_cases e : n * 7 = i
    · rw [if_pos e, if_pos (by rw [flat_len, msA_len]; omega), if_pos (by omega), show i % 7 = 0 by omega]
      rfl
    · rw [if_neg e, cell_at N n i hi]
      by_cases h1 : i / 7 < n
      · rw [if_pos h1, if_pos (by omega)]
      · rw [if_neg h1]
        by_cases h2 : i / 7 = n
        · rw [if_pos (by omega)]
          have h7 : i % 7 = 1 ∨ i % 7 = 2 ∨ i % 7 = 3 ∨ i % 7 = 4 ∨ i % 7 = 5 ∨ i % 7 = 6 := by omega
          rcases h7 with e | e | e | e | e | e <;> rw [e] <;> rfl
        · rw [if_neg (by omega)]
  · rw [List.getElem?_eq_none (by rw [List.length_set, flat_len, msA_len]; omega), List.getElem?_eq_none (by rw [flat_len, msA_len]; omega)]
def manyB (n : Nat) : List Int := [1, 1, 0, 0] ++ movesB (List.replicate n stepM)
theorem movesB_rep : ∀ n, (movesB (List.replicate n stepM)).length = 2 * n
  | 0 => rfl
  | n + 1 => by rw [List.replicate_succ, movesB_cons, List.length_append, movesB_rep n, show (bytesM stepM).length = 2 from rfl]; omega
theorem manyB_len (n : Nat) : (manyB n).length = 4 + 2 * n := by
  unfold manyB
  rw [List.length_append, movesB_rep]
  rfl
theorem movesB_app (a b : List S40) : movesB (a ++ b) = movesB a ++ movesB b := by unfold movesB; rw [List.flatMap_append]
theorem manyB_succ (n : Nat) : manyB (n + 1) = manyB n ++ [1, 0] := by
  unfold manyB
  rw [List.replicate_succ', movesB_app, ← List.append_assoc]
  rfl
theorem step_right : rightM stepM = true := (rightM_iff stepM).2 (.inr (.inl ⟨rfl, by decide, by decide, rfl, rfl, rfl, rfl, rfl⟩))
theorem step_okV : okV stepM := ⟨by decide, by decide⟩
theorem step_all (n : Nat) : ∀ m ∈ List.replicate n stepM, rightM m = true ∧ okV m := fun m hm => by
  rw [(List.mem_replicate.1 hm).2]
  exact ⟨step_right, step_okV⟩
theorem conf11 : confR 1 1 0 0 = true := by decide
theorem enc_many (N : Nat) (h : N ≤ 65540) : code_Encode.f 70000 1 1 0 0 (List.replicate N stepM) = some (if N > 65536 then ([], 7) else (manyB N, 0)) := by
  rw [enc_f _ _ _ _ _ (by rw [List.length_replicate]; omega) (by rw [List.length_replicate]; omega)]
  have ha : allR (List.replicate N stepM) = true := by
    unfold allR
    rw [List.all_eq_true]
    exact fun m hm => (step_all N m hm).1
  unfold encM
  rw [if_pos conf11, List.length_replicate, if_pos ha]
  rfl
theorem many_isB (n : Nat) : isB (movesB (List.replicate n stepM)) := movesB_isB _ (fun m hm => (step_all n m hm).1)
theorem dec_many (N : Nat) (h : N ≤ 65536) : code_Decode.f 70000 (manyB N) = some (1, 1, 0, 0, List.replicate N stepM, ((manyB N).length : Int), 0) :=
  dec_complete_f 1 1 0 0 (by omega) (by omega) (by omega) (by omega) conf11 (List.replicate N stepM) (step_all N) (many_isB N) (by rw [List.length_replicate]; exact h) (by rw [List.length_replicate]; omega)
theorem dec_more (M d : Nat) (hM : M = 65536) (hd : d ≤ 10) : code_Decode.f 70000 (manyB (M + (d + 1))) = some (0, 0, 0, 0, [], 131076, 7) := by
  have e : movesB (List.replicate (M + (d + 1)) stepM) = movesB (List.replicate M stepM) ++ movesB (List.replicate (d + 1) stepM) := by rw [← List.replicate_append_replicate, movesB_app]
  have hb : isB ([1, 1, 0, 0] ++ movesB (List.replicate M stepM) ++ movesB (List.replicate (d + 1) stepM)) := fun x hx => by
    rcases List.mem_append.1 hx with hx | hx
    · rcases List.mem_append.1 hx with h | h
      · simp at h; omega
      · exact many_isB M x h
    · exact many_isB (d + 1) x hx
  have l1 := movesB_rep M
  have l2 := movesB_rep (d + 1)
  unfold manyB
  rw [e, f_l0 1 1 0 0 (by omega) (by omega) (by omega) (by omega) conf11, ← List.append_assoc]
  have hk : 70000 = (List.replicate M stepM).length + (70000 - M) := by rw [List.length_replicate]; omega
  rw [hk, dec_skip 1 1 0 0 (movesB (List.replicate (d + 1) stepM)) (List.replicate M stepM) [1, 1, 0, 0] [] (70000 - M) (step_all M) hb (by rw [List.length_replicate, List.length_nil]; omega) (by rw [l1, l2]; simp only [List.length_cons, List.length_nil]; omega) (by omega)]
  have hlen : ([1, 1, 0, 0] ++ movesB (List.replicate M stepM)).length = 131076 := by rw [List.length_append, l1, hM]; rfl
  have hdr : ([1, 1, 0, 0] ++ movesB (List.replicate M stepM) ++ movesB (List.replicate (d + 1) stepM)).drop ([1, 1, 0, 0] ++ movesB (List.replicate M stepM)).length = movesB (List.replicate (d + 1) stepM) := List.drop_left
  rw [l0_many 1 1 0 0 _ _ _ _ (by omega) hb (by simp only [List.length_append, l1, l2]; omega) (by rw [List.length_append, hlen, l2]; omega) stepM 2 (by decide) (by
    rw [hdr, List.replicate_succ, movesB_cons, one_complete stepM step_right step_okV]
    rfl) (by rw [List.nil_append, List.length_replicate]; exact hM), hlen]
  rfl
end Go.Proofs.Ytiladkalijonbaa
