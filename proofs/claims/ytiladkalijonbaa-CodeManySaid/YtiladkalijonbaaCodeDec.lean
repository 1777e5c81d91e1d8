/- A move out of bytes (one, number), in plain Lean over the functions as they were printed. No program; bytes within their kind. -/
import Derived.Test.YtiladkalijonbaaCodeEnc
import Derived.Test.YtiladkalijonbaaWord
import Derived.Test.YtiladkalijonbaaPCodeCutsx8
namespace Go.Proofs.Ytiladkalijonbaa
open Go.RowKit Go.Proofs.YtiladkalijonbaaW.PrintWords Go.Proofs.YtiladkalijonbaaW.PrintLast Go.Proofs.YtiladkalijonbaaW.PrintMore
open Go.Proofs.Ytiladkalijonbaa.PCodeCuts
set_option linter.unusedSimpArgs false
set_option linter.unusedVariables false
set_option maxRecDepth 100000
def numM (b0 b1 b2 b3 b4 b5 b6 b7 : Int) : Int := b0 + b1 * 256 + b2 * 65536 + b3 * 16777216 + b4 * 4294967296 + b5 * 1099511627776 + b6 * 281474976710656 + b7 * 72057594037927936
theorem wrapU {x : Int} (h : 0 ≤ x) (h' : x < 18446744073709551616) : IntKind.u64.wrap x = x := by rw [IntKind.wrap_u64]; omega
theorem number_f (b0 b1 b2 b3 b4 b5 b6 b7 : Int) (h0 : 0 ≤ b0 ∧ b0 < 256) (h1 : 0 ≤ b1 ∧ b1 < 256) (h2 : 0 ≤ b2 ∧ b2 < 256) (h3 : 0 ≤ b3 ∧ b3 < 256) (h4 : 0 ≤ b4 ∧ b4 < 256) (h5 : 0 ≤ b5 ∧ b5 < 256) (h6 : 0 ≤ b6 ∧ b6 < 256) (h7 : 0 ≤ b7 ∧ b7 < 256) :
    code_number.f 9 [b0, b1, b2, b3, b4, b5, b6, b7] = some (numM b0 b1 b2 b3 b4 b5 b6 b7) := by
  have s0 : shl .u64 (IntKind.u64.wrap b0) 0 = b0 := by unfold shl; rw [wrapU (x := b0) (by omega) (by omega), show (2 : Int) ^ min (0 : Int).toNat IntKind.u64.bits = 1 by decide, wrapU (by omega) (by omega)]; omega
  have s1 : shl .u64 (IntKind.u64.wrap b1) 8 = b1 * 256 := by unfold shl; rw [wrapU (x := b1) (by omega) (by omega), show (2 : Int) ^ min (8 : Int).toNat IntKind.u64.bits = 256 by decide, wrapU (by omega) (by omega)]
  have s2 : shl .u64 (IntKind.u64.wrap b2) 16 = b2 * 65536 := by unfold shl; rw [wrapU (x := b2) (by omega) (by omega), show (2 : Int) ^ min (16 : Int).toNat IntKind.u64.bits = 65536 by decide, wrapU (by omega) (by omega)]
  have s3 : shl .u64 (IntKind.u64.wrap b3) 24 = b3 * 16777216 := by unfold shl; rw [wrapU (x := b3) (by omega) (by omega), show (2 : Int) ^ min (24 : Int).toNat IntKind.u64.bits = 16777216 by decide, wrapU (by omega) (by omega)]
  have s4 : shl .u64 (IntKind.u64.wrap b4) 32 = b4 * 4294967296 := by unfold shl; rw [wrapU (x := b4) (by omega) (by omega), show (2 : Int) ^ min (32 : Int).toNat IntKind.u64.bits = 4294967296 by decide, wrapU (by omega) (by omega)]
  have s5 : shl .u64 (IntKind.u64.wrap b5) 40 = b5 * 1099511627776 := by unfold shl; rw [wrapU (x := b5) (by omega) (by omega), show (2 : Int) ^ min (40 : Int).toNat IntKind.u64.bits = 1099511627776 by decide, wrapU (by omega) (by omega)]
  have s6 : shl .u64 (IntKind.u64.wrap b6) 48 = b6 * 281474976710656 := by unfold shl; rw [wrapU (x := b6) (by omega) (by omega), show (2 : Int) ^ min (48 : Int).toNat IntKind.u64.bits = 281474976710656 by decide, wrapU (by omega) (by omega)]
  have s7 : shl .u64 (IntKind.u64.wrap b7) 56 = b7 * 72057594037927936 := by unfold shl; rw [wrapU (x := b7) (by omega) (by omega), show (2 : Int) ^ min (56 : Int).toNat IntKind.u64.bits = 72057594037927936 by decide, wrapU (by omega) (by omega)]
  have o0 : Go.bits .or .u64 0 b0 = b0 := by have := or_add 0 (by omega) 0 b0 (by decide) (by omega) (by omega) (by omega); omega
  have o1 := or_add 8 (by omega) b0 (b1 * 256) (by omega) (by omega) (by omega) (by omega)
  have o2 := or_add 16 (by omega) (b0 + b1 * 256) (b2 * 65536) (by omega) (by omega) (by omega) (by omega)
  have o3 := or_add 24 (by omega) (b0 + b1 * 256 + b2 * 65536) (b3 * 16777216) (by omega) (by omega) (by omega) (by omega)
  have o4 := or_add 32 (by omega) (b0 + b1 * 256 + b2 * 65536 + b3 * 16777216) (b4 * 4294967296) (by omega) (by omega) (by omega) (by omega)
  have o5 := or_add 40 (by omega) (b0 + b1 * 256 + b2 * 65536 + b3 * 16777216 + b4 * 4294967296) (b5 * 1099511627776) (by omega) (by omega) (by omega) (by omega)
  have o6 := or_add 48 (by omega) (b0 + b1 * 256 + b2 * 65536 + b3 * 16777216 + b4 * 4294967296 + b5 * 1099511627776) (b6 * 281474976710656) (by omega) (by omega) (by omega) (by omega)
  have o7 := or_add 56 (by omega) (b0 + b1 * 256 + b2 * 65536 + b3 * 16777216 + b4 * 4294967296 + b5 * 1099511627776 + b6 * 281474976710656) (b7 * 72057594037927936) (by omega) (by omega) (by omega) (by omega)
  unfold code_number.f
  simp only [code_number.l0, List.length_cons, List.length_nil]
  simp [wrap64, rd, s0, s1, s2, s3, s4, s5, s6, s7, o0, o1, o2, o3, o4, o5, o6, o7, numM]
theorem valB_eq (v : Int) : valB v 8 = [v % 256, v / 256 % 256, v / 65536 % 256, v / 16777216 % 256, v / 4294967296 % 256, v / 1099511627776 % 256, v / 281474976710656 % 256, v / 72057594037927936 % 256] := by
  simp only [valB, shr]
  rw [show (2 : Int) ^ min (8 * (7 - ((7 : Nat) : Int))).toNat IntKind.u64.bits = 1 by decide, show (2 : Int) ^ min (8 * (7 - ((6 : Nat) : Int))).toNat IntKind.u64.bits = 256 by decide, show (2 : Int) ^ min (8 * (7 - ((5 : Nat) : Int))).toNat IntKind.u64.bits = 65536 by decide, show (2 : Int) ^ min (8 * (7 - ((4 : Nat) : Int))).toNat IntKind.u64.bits = 16777216 by decide,
    show (2 : Int) ^ min (8 * (7 - ((3 : Nat) : Int))).toNat IntKind.u64.bits = 4294967296 by decide, show (2 : Int) ^ min (8 * (7 - ((2 : Nat) : Int))).toNat IntKind.u64.bits = 1099511627776 by decide, show (2 : Int) ^ min (8 * (7 - ((1 : Nat) : Int))).toNat IntKind.u64.bits = 281474976710656 by decide, show (2 : Int) ^ min (8 * (7 - ((0 : Nat) : Int))).toNat IntKind.u64.bits = 72057594037927936 by decide]
  simp
theorem num_val (v : Int) (h : 0 ≤ v ∧ v < 18446744073709551616) : numM (v % 256) (v / 256 % 256) (v / 65536 % 256) (v / 16777216 % 256) (v / 4294967296 % 256) (v / 1099511627776 % 256) (v / 281474976710656 % 256) (v / 72057594037927936 % 256) = v := by
  unfold numM
  omega
theorem val_num (b0 b1 b2 b3 b4 b5 b6 b7 : Int) (h0 : 0 ≤ b0 ∧ b0 < 256) (h1 : 0 ≤ b1 ∧ b1 < 256) (h2 : 0 ≤ b2 ∧ b2 < 256) (h3 : 0 ≤ b3 ∧ b3 < 256) (h4 : 0 ≤ b4 ∧ b4 < 256) (h5 : 0 ≤ b5 ∧ b5 < 256) (h6 : 0 ≤ b6 ∧ b6 < 256) (h7 : 0 ≤ b7 ∧ b7 < 256) :
    valB (numM b0 b1 b2 b3 b4 b5 b6 b7) 8 = [b0, b1, b2, b3, b4, b5, b6, b7] := by
  rw [valB_eq]
  unfold numM
  simp only [List.cons.injEq, and_true]
  refine ⟨?_, ?_, ?_, ?_, ?_, ?_, ?_, ?_⟩ <;> omega
theorem and1 (x : Int) (h : 0 ≤ x ∧ x < 256) : Go.bits .and .u8 x 1 = x % 2 := by
  have := bits_mask .u8 8 (by decide) (fun n h h' => by rw [IntKind.wrap_u8]; omega) 1 (by omega) x h.1 (by omega)
  simpa using this
theorem or16 (x y : Int) (hx : 0 ≤ x ∧ x < 256) (hy : 0 ≤ y ∧ y < 256) : Go.bits .or .i64 x (y * 256) = x + y * 256 := by
  have hc : Go.bits .or .i64 x (y * 256) = Go.bits .or .i64 (y * 256) x := by simp only [Go.bits, BitVec.or_comm]
  rw [hc, bits_join .i64 63 (by decide) (fun n h h' => by rw [IntKind.wrap_i64]; omega) 8 (y * 256) x (by omega) (by omega) (by omega) (by omega) (by omega) (by omega)]
  omega
/-- What a move is that can be written. -/
theorem right_facts (m : S40) (h : rightM m = true) :
    (m.f0 = 0 ∧ 0 ≤ m.f1 ∧ m.f1 < 64 ∧ m.f3 = 0 ∧ (m.f2.f1 = 0 ∨ m.f2.f1 = 1) ∧ ((m.f2.f0 = 0 ∧ m.f2.f3 = 0) ∨ (m.f2.f0 = 1 ∧ m.f2.f2 = 0 ∧ 0 ≤ m.f2.f3 ∧ m.f2.f3 < 256))) ∨
    (m.f0 = 1 ∧ 0 ≤ m.f1 ∧ m.f1 < 64 ∧ m.f3 = 0 ∧ m.f2 = ⟨0, 0, 0, 0⟩) ∨ (m.f0 = 2 ∧ m.f1 = 0 ∧ m.f2 = ⟨0, 0, 0, 0⟩ ∧ 1 ≤ m.f3 ∧ m.f3 < 65536) := by
  have h5 := right_f m (Nat.le_refl 5)
  rw [h] at h5
  obtain ⟨k, who, ⟨ck, ce, cv, cs⟩, n⟩ := m
  simp only [code_Move_Right.f, code_Move_Right.j0, task_Call_Right.f] at h5
  simp only [S38.mk.injEq]
  (repeat' (first | (split at h5) | (simp only [Option.bind_some] at h5)))
  all_goals (simp only [Option.some.injEq, decide_eq_true_eq, Bool.and_eq_true, beq_iff_eq, Bool.false_eq_true, reduceCtorEq] at *; try omega)
/-- What a move, and how many bytes of it, bytes begin with; 0: none. -/
def oneT (m : S40) (n : Int) : Int × Int × Int × Int × Int × Int × Int × Int := (m.f0, m.f1, m.f2.f0, m.f2.f1, m.f2.f2, m.f2.f3, m.f3, n)
def none8 : Int × Int × Int × Int × Int × Int × Int × Int := (0, 0, 0, 0, 0, 0, 0, 0)
def fin1 (l : List Int) (m : S40) (n : Int) : Int × Int × Int × Int × Int × Int × Int × Int :=
  if n > 3 then (if rd l 2 > 3 then none8 else if rightM { m with f2 := { m.f2 with f1 := rd l 2 / 2 } } then oneT { m with f2 := { m.f2 with f1 := rd l 2 / 2 } } n else none8)
  else if rightM m then oneT m n else none8
theorem rd_bd (l : List Int) (hb : ∀ x ∈ l, 0 ≤ x ∧ x < 256) (i : Int) : 0 ≤ rd l i ∧ rd l i < 256 := by
  unfold rd
  rw [List.getD_eq_getElem?_getD]
  cases h : l[i.toNat]? with
  | none => simp
  | some x => exact hb x (List.mem_of_getElem? h)
theorem j3_f (l : List Int) (hb : ∀ x ∈ l, 0 ≤ x ∧ x < 256) (m : S40) (n : Int) (hn : 0 < n) (hl : n ≤ (l.length : Int)) {k : Nat} (hk : 6 ≤ k) : code_one.j3 k l n m.f0 m.f1 m.f2.f0 m.f2.f1 m.f2.f2 m.f2.f3 m.f3 = some (fin1 l m n) := by
  obtain ⟨j, rfl⟩ := Nat.exists_eq_add_of_le hk
  rw [show 6 + j = (5 + j) + 1 by omega]
  rw [code_one.j3]
  unfold fin1
  have b2 := rd_bd l hb 2
  by_cases h3 : n > 3
  · rw [if_pos h3, if_pos h3, if_pos (by omega)]
    by_cases hr : rd l 2 > 3
    · rw [if_pos hr, if_pos hr]; rfl
    · rw [if_neg hr, if_neg hr, if_neg (by omega), w64e (by omega) (by omega)]
      have := right_f { m with f2 := { m.f2 with f1 := rd l 2 / 2 } } (k := 5 + j) (by omega)
      dsimp only at this
      rw [this, Option.bind_some]
      cases rightM { m with f2 := { m.f2 with f1 := rd l 2 / 2 } } <;> rfl
  · rw [if_neg h3, if_neg h3, if_neg (by omega), right_f m (by omega), Option.bind_some]
    cases rightM m <;> rfl
theorem j3_0 (l : List Int) (a b c d e f g : Int) {k : Nat} (hk : 1 ≤ k) : code_one.j3 k l 0 a b c d e f g = some none8 := by
  obtain ⟨j, rfl⟩ := Nat.exists_eq_add_of_le hk
  rw [Nat.add_comm]
  rw [code_one.j3]
  rw [if_neg (by omega), if_pos rfl]
  rfl
def num8 (l : List Int) : Int := numM (rd l 3) (rd l 4) (rd l 5) (rd l 6) (rd l 7) (rd l 8) (rd l 9) (rd l 10)
def oneM (l : List Int) : Int × Int × Int × Int × Int × Int × Int × Int :=
  if 2 ≤ l.length ∧ rd l 0 = 1 then fin1 l ⟨1, rd l 1, ⟨0, 0, 0, 0⟩, 0⟩ 2
  else if 3 ≤ l.length ∧ rd l 0 = 2 then fin1 l ⟨2, 0, ⟨0, 0, 0, 0⟩, rd l 1 + rd l 2 * 256⟩ 3
  else if 4 ≤ l.length ∧ rd l 0 = 0 ∧ rd l 2 % 2 = 1 then fin1 l ⟨0, rd l 1, ⟨1, 0, 0, rd l 3⟩, 0⟩ 4
  else if 11 ≤ l.length ∧ rd l 0 = 0 then fin1 l ⟨0, rd l 1, ⟨0, 0, num8 l, 0⟩, 0⟩ 11
  else none8
theorem list8 (l : List Int) (h : 11 ≤ l.length) : (l.take 11).drop 3 = [rd l 3, rd l 4, rd l 5, rd l 6, rd l 7, rd l 8, rd l 9, rd l 10] := by
  match l, h with
  | a :: b :: c :: d0 :: d1 :: d2 :: d3 :: d4 :: d5 :: d6 :: d7 :: t, _ => simp [rd]
theorem one_f (l : List Int) (hb : ∀ x ∈ l, 0 ≤ x ∧ x < 256) {k : Nat} (hk : 20 ≤ k) : code_one.f k l = some (oneM l) := by
  obtain ⟨j, rfl⟩ := Nat.exists_eq_add_of_le hk
  have b0 := rd_bd l hb 0
  have b1 := rd_bd l hb 1
  have b2 := rd_bd l hb 2
  have b3 := rd_bd l hb 3
  have J2f : code_one.j2 (17 + j) l 0 false 0 0 0 0 0 0 0 = some (if 11 ≤ l.length ∧ rd l 0 = 0 then fin1 l ⟨0, rd l 1, ⟨0, 0, num8 l, 0⟩, 0⟩ 11 else none8) := by
    rw [show 17 + j = (16 + j) + 1 by omega]
    rw [code_one.j2]
    rw [if_neg (by simp)]
    by_cases h11 : 11 ≤ l.length
    · rw [if_pos (by omega), if_pos (by omega)]
      by_cases hz : rd l 0 = 0
      · rw [if_pos hz, if_pos (by omega), if_pos (by omega), if_pos (by omega), if_pos ⟨h11, hz⟩, list8 l h11]
        rw [leO_iter (fun k => code_number.mono _ k) (show 9 ≤ 16 + j by omega) (number_f _ _ _ _ _ _ _ _ (rd_bd l hb 3) (rd_bd l hb 4) (rd_bd l hb 5) (rd_bd l hb 6) (rd_bd l hb 7) (rd_bd l hb 8) (rd_bd l hb 9) (rd_bd l hb 10)), Option.bind_some, w64e (by omega) (by omega)]
        exact j3_f l hb ⟨0, rd l 1, ⟨0, 0, num8 l, 0⟩, 0⟩ 11 (by omega) (by omega) (by omega)
      · rw [if_neg hz, if_neg (fun h => hz h.2)]
        exact j3_0 l _ _ _ _ _ _ _ (by omega)
    · rw [if_neg (by omega), if_neg (fun h => h11 h.1)]
      exact j3_0 l _ _ _ _ _ _ _ (by omega)
  have J2t : 4 ≤ l.length → code_one.j2 (17 + j) l 0 true 0 0 0 0 0 0 0 = some (fin1 l ⟨0, rd l 1, ⟨1, 0, 0, rd l 3⟩, 0⟩ 4) := fun h4 => by
    rw [show 17 + j = (16 + j) + 1 by omega]
    rw [code_one.j2]
    rw [if_pos rfl, if_pos (by omega), if_pos (by omega), w64e (by omega) (by omega), w64e (by omega) (by omega)]
    exact j3_f l hb ⟨0, rd l 1, ⟨1, 0, 0, rd l 3⟩, 0⟩ 4 (by omega) (by omega) (by omega)
  have J1f : code_one.j1 (18 + j) l 0 false 0 0 0 0 0 0 0 = some (if 4 ≤ l.length ∧ rd l 0 = 0 ∧ rd l 2 % 2 = 1 then fin1 l ⟨0, rd l 1, ⟨1, 0, 0, rd l 3⟩, 0⟩ 4 else if 11 ≤ l.length ∧ rd l 0 = 0 then fin1 l ⟨0, rd l 1, ⟨0, 0, num8 l, 0⟩, 0⟩ 11 else none8) := by
    rw [show 18 + j = (17 + j) + 1 by omega]
    rw [code_one.j1]
    rw [if_neg (by simp)]
    by_cases h4 : 4 ≤ l.length
    · rw [if_pos (by omega), if_pos (by omega)]
      by_cases hz : rd l 0 = 0
      · rw [if_pos hz, if_pos (by omega), and1 _ b2]
        by_cases ho : rd l 2 % 2 = 1
        · rw [show (rd l 2 % 2 == 1) = true by simpa using ho, J2t h4, if_pos ⟨h4, hz, ho⟩]
        · rw [show (rd l 2 % 2 == 1) = false by simpa using ho, J2f, if_neg (c := 4 ≤ l.length ∧ _) (fun h => ho h.2.2)]
      · rw [if_neg hz, J2f, if_neg (c := 4 ≤ l.length ∧ _) (fun h => hz h.2.1)]
    · rw [if_neg (by omega), J2f, if_neg (c := 4 ≤ l.length ∧ _) (fun h => h4 h.1)]
  have J1t : 3 ≤ l.length → code_one.j1 (18 + j) l 0 true 0 0 0 0 0 0 0 = some (fin1 l ⟨2, 0, ⟨0, 0, 0, 0⟩, rd l 1 + rd l 2 * 256⟩ 3) := fun h3 => by
    rw [show 18 + j = (17 + j) + 1 by omega]
    rw [code_one.j1]
    rw [if_pos rfl, if_pos (by omega), if_pos (by omega), w64e (x := rd l 1) (by omega) (by omega), w64e (x := rd l 2) (by omega) (by omega), w64e (by omega) (by omega), or16 _ _ b1 b2]
    exact j3_f l hb ⟨2, 0, ⟨0, 0, 0, 0⟩, rd l 1 + rd l 2 * 256⟩ 3 (by omega) (by omega) (by omega)
  have J0f : rd l 0 ≠ 1 ∨ l.length < 2 → code_one.j0 (19 + j) l 0 false 0 0 0 0 0 0 0 = some (oneM l) := fun h1 => by
    rw [show 19 + j = (18 + j) + 1 by omega]
    rw [code_one.j0]
    unfold oneM
    rw [if_neg (by simp), if_neg (c := 2 ≤ l.length ∧ _) (fun h => by omega)]
    by_cases h3 : 3 ≤ l.length
    · rw [if_pos (by omega), if_pos (by omega)]
      by_cases hz : rd l 0 = 2
      · rw [show (rd l 0 == 2) = true by simpa using hz, J1t h3, if_pos ⟨h3, hz⟩]
      · rw [show (rd l 0 == 2) = false by simpa using hz, J1f, if_neg (c := 3 ≤ l.length ∧ _) (fun h => hz h.2)]
    · rw [if_neg (by omega), J1f, if_neg (c := 3 ≤ l.length ∧ _) (fun h => h3 h.1)]
  rw [show 20 + j = (19 + j) + 1 by omega]
  unfold code_one.f
  have up : ∀ x, code_one.j0 (19 + j) l 0 x 0 0 0 0 0 0 0 = some (oneM l) → code_one.j0 ((19 + j) + 1) l 0 x 0 0 0 0 0 0 0 = some (oneM l) := fun x hx => (code_one.mono_l (19 + j)).2.1 _ _ _ _ _ _ _ _ _ _ _ hx
  by_cases h2 : 2 ≤ l.length
  · rw [if_pos (by omega), if_pos (by omega)]
    by_cases hz : rd l 0 = 1
    · rw [show (rd l 0 == 1) = true by simpa using hz]
      refine up true ?_
      rw [show 19 + j = (18 + j) + 1 by omega]
      rw [code_one.j0]
      unfold oneM
      rw [if_pos rfl, if_pos (by omega), if_pos ⟨h2, hz⟩, w64e (by omega) (by omega)]
      exact j3_f l hb ⟨1, rd l 1, ⟨0, 0, 0, 0⟩, 0⟩ 2 (by omega) (by omega) (by omega)
    · rw [show (rd l 0 == 1) = false by simpa using hz]
      exact up false (J0f (.inl hz))
  · rw [if_neg (by omega)]
    exact up false (J0f (.inr (by omega)))
end Go.Proofs.Ytiladkalijonbaa
