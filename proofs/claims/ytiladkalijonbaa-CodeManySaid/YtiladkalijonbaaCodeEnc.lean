/- A script's bytes (Encode), in plain Lean over the functions as they were printed. No program; numbers as they stand. -/
import Derived.Test.YtiladkalijonbaaPCodeCutsx3
namespace Go.Proofs.Ytiladkalijonbaa
open Go.RowKit Go.Proofs.YtiladkalijonbaaW.PrintWords Go.Proofs.YtiladkalijonbaaW.PrintLast Go.Proofs.YtiladkalijonbaaW.PrintMore
open Go.Proofs.Ytiladkalijonbaa.PCodeCuts
set_option linter.unusedSimpArgs false
set_option linter.unusedVariables false
theorem leO_iter {α : Type} {f : Nat → Option α} (h : ∀ k, LeO (f k) (f (k + 1))) {j k : Nat} (hjk : j ≤ k) {r : α} (e : f j = some r) : f k = some r := by
  obtain ⟨d, rfl⟩ := Nat.exists_eq_add_of_le hjk
  clear hjk
  induction d with
  | zero => exact e
  | succ d ih => exact h _ _ ih
/-- Can a move be written? -/
def rightM (m : S40) : Bool := (code_Move_Right.f 5 m.f0 m.f1 m.f2.f0 m.f2.f1 m.f2.f2 m.f2.f3 m.f3).getD false
theorem right_some (m : S40) : ∃ b, code_Move_Right.f 5 m.f0 m.f1 m.f2.f0 m.f2.f1 m.f2.f2 m.f2.f3 m.f3 = some b := by
  simp only [code_Move_Right.f, code_Move_Right.j0, task_Call_Right.f]
  repeat' (first | exact ⟨_, rfl⟩ | split | simp only [Option.bind_some])
theorem right_f (m : S40) {k : Nat} (hk : 5 ≤ k) : code_Move_Right.f k m.f0 m.f1 m.f2.f0 m.f2.f1 m.f2.f2 m.f2.f3 m.f3 = some (rightM m) := by
  obtain ⟨b, hb⟩ := right_some m
  refine leO_iter (fun k => code_Move_Right.mono _ _ _ _ _ _ _ k) hk ?_
  unfold rightM
  rw [hb]
  rfl
/-- The last d bytes of the eight bytes of a value. -/
def valB (v : Int) : Nat → List Int
  | 0 => []
  | d + 1 => (shr .u64 v (8 * (7 - (d : Int)))) % 256 :: valB v d
theorem valB_len (v : Int) : ∀ d, (valB v d).length = d
  | 0 => rfl
  | d + 1 => by simp [valB, valB_len v d]
theorem w64e {x : Int} (h : -9223372036854775808 ≤ x) (h' : x < 9223372036854775808) : wrap64 x = x := by unfold wrap64; omega
theorem bytes_loop (v : Int) (a b c d0 e f : Int) : ∀ (d k : Nat) (y : List Int), d ≤ 8 → y.length + d ≤ 100 → code_Move_bytes.l0 (d + 1 + k) y (8 - (d : Int)) a b c d0 v e f = some (y ++ valB v d)
  | 0, k, y, _, _ => by
    rw [show 0 + 1 + k = k + 1 by omega]
    simp [code_Move_bytes.l0, valB]
  | d + 1, k, y, hd, hy => by
    rw [show d + 1 + 1 + k = (d + 1 + k) + 1 by omega]
    unfold code_Move_bytes.l0
    rw [if_pos (by omega), w64e (x := 8 * (8 - ((d + 1 : Nat) : Int))) (by omega) (by omega), if_pos (by omega), if_pos (by omega), w64e (x := 8 - ((d + 1 : Nat) : Int) + 1) (by omega) (by omega)]
    rw [show (8 : Int) - ((d + 1 : Nat) : Int) + 1 = 8 - (d : Int) by omega]
    rw [bytes_loop v a b c d0 e f d k _ (by omega) (by simp; omega)]
    simp only [valB, List.append_assoc, List.cons_append, List.nil_append]
    rw [show (8 : Int) * (8 - ((d + 1 : Nat) : Int)) = 8 * (7 - (d : Int)) by omega]
/-- A move's bytes. -/
def flagsM (m : S40) : Int := Go.bits .or .u8 (m.f2.f0 % 256) (((m.f2.f1 % 256) * 2) % 256)
def bytesM (m : S40) : List Int :=
  if m.f0 = 1 then [1, m.f1 % 256] else if m.f0 = 2 then [2, m.f3 % 256, (m.f3 / 256) % 256]
  else if m.f2.f0 = 0 then [0, m.f1 % 256, flagsM m] ++ valB m.f2.f2 8 else [0, m.f1 % 256, flagsM m, m.f2.f3 % 256]
theorem bytesM_len (m : S40) : (bytesM m).length ≤ 11 := by
  unfold bytesM
  repeat' split
  all_goals simp [valB_len]
theorem bytesM_pos (m : S40) : 2 ≤ (bytesM m).length := by
  unfold bytesM
  repeat' split
  all_goals simp [valB_len]
theorem bytes_f (m : S40) {k : Nat} (hk : 9 ≤ k) : code_Move_bytes.f k m.f0 m.f1 m.f2.f0 m.f2.f1 m.f2.f2 m.f2.f3 m.f3 = some (bytesM m) := by
  unfold code_Move_bytes.f bytesM flagsM
  split
  · rfl
  · split
    · rfl
    · simp only [Option.bind_some]
      split
      · obtain ⟨j, rfl⟩ := Nat.exists_eq_add_of_le hk
        have := bytes_loop m.f2.f2 m.f0 m.f1 m.f2.f0 m.f2.f1 m.f2.f3 m.f3 8 j [0, m.f1 % 256, Go.bits .or .u8 (m.f2.f0 % 256) (((m.f2.f1 % 256) * 2) % 256)] (by omega) (by simp)
        simpa using this
      · simp
/-- The bytes of moves that can all be written. -/
def movesB (ms : List S40) : List Int := ms.flatMap bytesM
def allR (ms : List S40) : Bool := ms.all rightM
theorem rd_drop (ms : List S40) (i : Nat) (h : i < ms.length) : rd_T40 ms (i : Int) = ms[i] := by
  unfold rd_T40
  rw [Int.toNat_natCast, List.getD_eq_getElem?_getD, List.getElem?_eq_getElem h]
  rfl
theorem enc_loop (ms : List S40) : ∀ (d k : Nat) (acc : List Int), d ≤ ms.length → acc.length + 11 * d ≤ 100000000 → ms.length ≤ 1000000 →
    code_Encode.l0 (d + 20 + k) acc ms (ms.length : Int) ((ms.length - d : Nat) : Int) = if allR (ms.drop (ms.length - d)) then some (acc ++ movesB (ms.drop (ms.length - d)), 0) else some ([], 1)
  | 0, k, acc, _, _, _ => by
    rw [show 0 + 20 + k = (19 + k) + 1 by omega]
    unfold code_Encode.l0
    rw [if_neg (by omega)]
    simp [allR, movesB]
  | d + 1, k, acc, hd, hy, hm => by
    rw [show d + 1 + 20 + k = (d + 20 + k) + 1 by omega]
    have hi : ms.length - (d + 1) < ms.length := by omega
    unfold code_Encode.l0
    rw [if_pos (by omega), if_pos (by omega), if_pos (by omega), rd_drop ms _ hi, right_f _ (by omega), Option.bind_some]
    have hdrop : ms.drop (ms.length - (d + 1)) = ms[ms.length - (d + 1)] :: ms.drop (ms.length - d) := by
      rw [List.drop_eq_getElem_cons hi]
      congr 2
      omega
    rw [hdrop]
    cases hr : rightM ms[ms.length - (d + 1)] with
    | false => simp [allR, hr]
    | true =>
      have hb := bytesM_len ms[ms.length - (d + 1)]
      rw [if_pos rfl, bytes_f _ (by omega), Option.bind_some, if_pos (by omega), w64e (by omega) (by omega)]
      rw [show ((ms.length - (d + 1) : Nat) : Int) + 1 = ((ms.length - d : Nat) : Int) by omega]
      rw [enc_loop ms d k _ (by omega) (by simp; omega) hm]
      simp [allR, movesB, hr, List.flatMap_cons]
def confR (a b c d : Int) : Bool := (lay_Conf_Right.f a b c d).getD false
theorem conf_f (a b c d : Int) : lay_Conf_Right.f a b c d = some (confR a b c d) := by
  have : ∃ r, lay_Conf_Right.f a b c d = some r := by
    unfold lay_Conf_Right.f
    repeat' (first | exact ⟨_, rfl⟩ | split)
  obtain ⟨r, hr⟩ := this
  unfold confR
  rw [hr]
  rfl
def encM (a b c d : Int) (ms : List S40) : List Int × Int :=
  if confR a b c d then (if ms.length > 65536 then ([], 7) else if allR ms then ([a % 256, b % 256, c % 256, d % 256] ++ movesB ms, 0) else ([], 1)) else ([], 1)
theorem enc_f (a b c d : Int) (ms : List S40) (hm : ms.length ≤ 1000000) {k : Nat} (hk : ms.length + 20 ≤ k) : code_Encode.f k a b c d ms = some (encM a b c d ms) := by
  unfold code_Encode.f encM
  rw [conf_f, Option.bind_some]
  cases confR a b c d with
  | false => rfl
  | true =>
    simp only [if_true]
    by_cases h : ms.length > 65536
    · rw [if_pos (by omega), if_pos h]
    · rw [if_neg (by omega), if_neg h]
      obtain ⟨j, rfl⟩ := Nat.exists_eq_add_of_le hk
      have := enc_loop ms ms.length j [a % 256, b % 256, c % 256, d % 256] (Nat.le_refl _) (by simp; omega) hm
      simp only [Nat.sub_self, List.drop_zero] at this
      rw [show ((0 : Nat) : Int) = 0 from rfl] at this
      rw [this]
      cases allR ms <;> rfl
theorem movesB_len (ms : List S40) : (movesB ms).length ≤ 11 * ms.length := by
  induction ms with
  | nil => simp [movesB]
  | cons m ms ih =>
    have := bytesM_len m
    simp only [movesB, List.flatMap_cons, List.length_append, List.length_cons] at *
    omega
theorem encM_len (a b c d : Int) (ms : List S40) : (encM a b c d ms).1.length ≤ 4 + 11 * ms.length := by
  have := movesB_len ms
  unfold encM
  repeat' split
  all_goals simp
  omega
end Go.Proofs.Ytiladkalijonbaa
