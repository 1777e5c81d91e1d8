/- As many moves as may be, and more (CodeMany answers true at every input). No condition beyond the row's own. -/
import Derived.Test.YtiladkalijonbaaCodeManyM
import Derived.Test.YtiladkalijonbaaCodeOld
import Derived.Test.YtiladkalijonbaaMake
import Derived.Laws.Bits128
namespace Go.Proofs.Ytiladkalijonbaa
open Go.RowKit Go.SepYtiladkalijonbaa Go.Proofs.YtiladkalijonbaaW.PrintWords Go.Proofs.YtiladkalijonbaaW.PrintLast Go.Proofs.YtiladkalijonbaaW.PrintMore
open Go.Proofs.Ytiladkalijonbaa.PCodeCuts (S38 S40 S33 k38 k40 k33)
set_option linter.unusedSimpArgs false
set_option linter.unusedVariables false
set_option maxRecDepth 100000
set_option maxHeartbeats 8000000
theorem and7 (n : Int) : bits .and .i64 n 7 = n % 8 := by
  have h : (BitVec.ofInt 64 7).toNat = 2 ^ 3 - 1 := by decide
  have key : (BitVec.ofInt 64 n &&& BitVec.ofInt 64 7).toNat = (n % ((2 ^ 64 : Nat) : Int)).toNat % 2 ^ 3 := by
    rw [BitVec.toNat_and, BitVec.toNat_ofInt, h, Nat.and_two_pow_sub_one_eq_mod]
  show IntKind.i64.wrap ((BitVec.ofInt 64 n &&& BitVec.ofInt 64 7).toNat : Nat) = n % 8
  rw [key, IntKind.wrap_i64]
  omega
theorem moveZ : ∃ q z, Try.prog.info? 40 = some q ∧ q.zero = some z ∧ q.size = 7 ∧ q.bytes = 56 ∧ z.cells = zeroA := ⟨_, _, rfl, rfl, rfl, rfl, rfl⟩
theorem byteZ : ∃ q z, Try.prog.info? 5 = some q ∧ q.zero = some z ∧ q.size = 1 ∧ q.bytes = 1 ∧ z.cells = #[.int .u8 0] := ⟨_, _, rfl, rfl, rfl, rfl, rfl⟩
theorem made_four (c : Nat) (h : 4 ≤ c) : ((madeCells #[.int .u8 0] (c * 1)).toList.take (4 * 1)) = [.int .u8 0, .int .u8 0, .int .u8 0, .int .u8 0] := by
  rw [toList_madeCells_one, List.take_replicate, Nat.min_eq_left (by omega)]
  rfl
theorem run_moves (N : Nat) (h : N ≤ 100000) (w : World) : (Instr.makeSlice 28 (.int .i64 (N : Int)) (.int .i64 (N : Int))).run Try.prog w = .ok (.slice (some ⟨w.heap.size, 0, none⟩) N N) (w.alloc (.cells (madeCells zeroA (N * 7)) 40)) := by
  obtain ⟨q, z, g1, g2, g3, g4, g5⟩ := moveZ
  have hr := run_makeSlice (P := Try.prog) w _ _ q z Try.underlying28 g1 g2 .i64 .i64 (N : Int) (N : Int) (by omega) (by omega) (by rw [g3]; simp; omega) (by rw [g4]; omega) (by omega)
  rw [g3, g5] at hr
  simpa using hr
theorem run_bytes (c : Nat) (h4 : 4 ≤ c) (h : c ≤ 1000000) (w : World) : (Instr.makeSlice 42 (.int .i64 4) (.int .i64 (c : Int))).run Try.prog w = .ok (.slice (some ⟨w.heap.size, 0, none⟩) 4 c) (w.alloc (.cells (madeCells #[.int .u8 0] (c * 1)) 5)) := by
  obtain ⟨q, z, g1, g2, g3, g4, g5⟩ := byteZ
  have hr := run_makeSlice (P := Try.prog) w _ _ q z Try.underlying42 g1 g2 .i64 .i64 4 (c : Int) (by omega) (by omega) (by rw [g3]; simp; omega) (by rw [g4]; omega) (by omega)
  rw [g3, g5] at hr
  simpa using hr
theorem make_moves {E w : World} {L : List SA} (N : Nat) (hN : N ≤ 100000) (h : sat E w L) : sat E (w.alloc (.cells (madeCells zeroA (N * 7)) 40)) (rowA (.slice (some ⟨w.heap.size, 0, none⟩) N N) 40 7 N ((msA N 0).flatMap moveC) :: L) :=
  sat.row_shut (by rw [flat_len, msA_len]) (Nat.le_refl _) (by simp only [maxLen]; omega) (size_madeCells _ _) (made_msA N) (h.alloc _)
theorem make_bytes {E w : World} {L : List SA} (c : Nat) (h4 : 4 ≤ c) (hc : c ≤ 1000000) (h : sat E w L) : sat E (w.alloc (.cells (madeCells #[.int .u8 0] c) 5)) (rowA (.slice (some ⟨w.heap.size, 0, none⟩) 4 c) 5 1 4 [.int .u8 0, .int .u8 0, .int .u8 0, .int .u8 0] :: L) :=
  sat.row_shut rfl h4 (by simp only [maxLen]; omega) (by rw [size_madeCells, Nat.mul_one]) (by simpa using made_four c h4) (h.alloc _)
def manyRel (w0 : World) (N gs : Nat) (gk : Nat) (i b : Value) (w' : World) : Prop :=
  ∃ n : Nat, n + gk = N ∧ i = .int .i64 n ∧ ∃ gm pb nb kb, b = .slice pb nb kb ∧
    sat w0 w' [rowA (.slice pb nb kb) 5 1 (manyB n).length ((manyB n).flatMap byteC), rowA (.slice (some ⟨gm, 0, none⟩) N N) 40 7 N ((msA N n).flatMap moveC), pt gs (.cells [.int .i64 1, .int .i64 1, .int .i64 0, .int .i64 0, .slice (some ⟨gm, 0, none⟩) N N].toArray 30 (0, 0))]
theorem many_calls (W : World) (n : Int) (_hn : (Lit.int .i64 n).wf = true) :
    Tells 9 #[.int .i64 n] W (.bool true) := by
  have HD : ∀ w, Tells 10 #[] w (.bool true) := fun w => PCodeCuts.stackyardlaw18_head.calls 40 true w (by kernel_rfl)
  have T1 := fun w => Lib.hid (HD w)
  have K := Lib.hid (sat.start W)
  obtain ⟨N, hN, N0, N1⟩ : ∃ N : Nat, wrap64 (65533 + bits .and .i64 n 7) = (N : Int) ∧ 65533 ≤ N ∧ N ≤ 65540 := by
    have h := and7 n
    rw [h, w64e (by omega) (by omega)]
    exact ⟨(65533 + n % 8).toNat, by omega, by omega, by omega⟩
  have e2 : wrap64 (2 * (N : Int)) = ((2 * N : Nat) : Int) := by rw [w64e (by omega) (by omega)]; omega
  have e3 : wrap64 (((2 * N : Nat) : Int) + 4) = ((2 * N + 4 : Nat) : Int) := by rw [w64e (by omega) (by omega)]; omega
  have R1 := run_moves N (by omega)
  have R2 : ∀ w : World, (Instr.makeSlice 42 (.int .i64 4) (.int .i64 (2 * (N : Int) + 4))).run Try.prog w = .ok (.slice (some ⟨w.heap.size, 0, none⟩) 4 (2 * N + 4)) (w.alloc (.cells (madeCells #[.int .u8 0] (2 * N + 4)) 5)) := fun w => by
    have := run_bytes (2 * N + 4) (by omega) (by omega) w
    simpa using this
  clear HD _hn
  go_enter Try.func9, Try.ntmps9
  go_wp2_with (first | (go_at_call 10; (with_reducible refine ((T1 _).out).mono ?_); rintro e w1 ⟨rfl, hb⟩; have K1 := sat.grown (by repeat (first | exact K.out | apply sat.alloc_any | apply sat.drew | apply sat.drewN)) hb; clear hb; have K2 := Lib.hid K1; clear K1 K; (try clear a0); (try clear l0); (try clear a1); (try clear l1); (try clear a2); (try clear l2); have K := K2; clear K2) | ((with_reducible refine at_alloc ?_); refine st_alloc (make_moves N (by omega) K.out) (fun _ => rfl) ?_; intro gs w1 K1; simp only [List.cons_append, List.nil_append] at K1; have K2 := Lib.hid K1; clear K1 K; have K := K2; clear K2; have a1 := K.out.rd 1 rfl; have l1 := K.out.ltp 1 rfl) | ((with_reducible refine at_store ?_); refine st_store 1 K.out rfl rfl rfl rfl ?_ ?_ ?_ ?_; (· kernel_rfl); (· simp); (· simp [Value.oneCell']); intro w1 K1; simp only [List.set, putL] at K1; have K2 := Lib.hid K1; clear K1 K; (try clear a0); (try clear l0); (try clear a1); (try clear l1); (try clear a2); (try clear l2); have K := K2; clear K2; have a1 := K.out.rd 1 rfl; have l1 := K.out.ltp 1 rfl) | ((with_reducible refine at_store ?_); refine st_store_row 0 (make_bytes (2 * N + 4) (by omega) (by omega) K.out) rfl rfl rfl rfl ?_ ?_ ?_ ?_; (· kernel_rfl); (· decide); (· simp [Value.oneCell']); intro w1 K1; simp only [List.set, putL] at K1; have K2 := Lib.hid K1; clear K1 K; (try clear a1 l1); (try clear a2 l2); have K := K2; clear K2; have a2 := K.out.rd 2 rfl; have l2 := K.out.ltp 2 rfl) | (have _hp := a2; (with_reducible refine at_store ?_); refine st_store_row 0 K.out rfl rfl rfl rfl ?_ ?_ ?_ ?_; (· kernel_rfl); (· decide); (· simp [Value.oneCell']); intro w1 K1; simp only [List.set, putL] at K1; have K2 := Lib.hid K1; clear K1 K; (try clear a1 l1); (try clear a2 l2); have K := K2; clear K2; have a2 := K.out.rd 2 rfl; have l2 := K.out.ltp 2 rfl))
  go_loopg [31, 4] N (fun gk i b w' => manyRel W N gs gk i b w')
  case atStart => exact ⟨0, by simp, rfl, _, _, _, _, rfl, K.out⟩
  case round =>
    obtain ⟨n, hn, rfl, gm, pb, nb, kb, rfl, hs⟩ := hrel
    clear K a2 l2
    have K := Lib.hid hs
    clear hs
    have a2 := K.out.rd 2 rfl
    have l2 := K.out.ltp 2 rfl
    by_cases hlt : n < N
    · have d0 : decide (n < N) = true := by simpa using hlt
      have hBl := manyB_len n
      obtain ⟨gk', rfl⟩ : ∃ g', gk = g' + 1 := ⟨gk - 1, by omega⟩
      go_wp2_with (first | ((with_reducible refine at_store ?_); refine st_store_row 1 K.out rfl rfl rfl rfl ?_ ?_ ?_ ?_; (· kernel_rfl); (· show n * 7 + 1 ≤ _; rw [flat_len, msA_len]; omega); (· simp [Value.oneCell']); intro w1 K1; simp only [List.set] at K1; rw [putL_one, msA_set N n hlt] at K1; have K2 := Lib.hid K1; clear K1 K a2 l2; have K := K2; clear K2) | ((with_reducible refine at_append ?_); refine st_append_new 0 5 1 1 Try.underlying42 byteInfo K.out rfl rfl rfl rfl ?_ (by decide) ?_ ?_ ?_; (· simp [Value.oneCell']); (· simp only [maxLen]; omega); (· omega); intro p5 n5 k5 w1 K1; simp only [List.set] at K1; have K2 := Lib.hid K1; clear K1 K; have K := K2; clear K2))
      go_roundg gk'
      case measure => omega
      case rel =>
        refine ⟨n + 1, by omega, by simp, gm, p5, n5, k5, rfl, ?_⟩
        rw [manyB_succ, List.length_append, List.flatMap_append]
        exact K.out
    · have hnl : n = N := by omega
      subst hnl
      have d0 : decide (n < n) = false := by simp
      obtain ⟨rfl, hp2⟩ := row_len K.out
      have hBb : (manyB n).length ≤ 200000 := by rw [manyB_len]; omega
      have hml : n = (List.replicate n stepM).length := by rw [List.length_replicate]
      have K1 := K.out
      rw [msA_all] at K1
      have he := enc_many n N1
      by_cases hbig : n > 65536
      · obtain ⟨d, hd⟩ : ∃ d, n = 65536 + (d + 1) := ⟨n - 65537, by omega⟩
        have hde := dec_more 65536 d rfl (by omega)
        rw [← hd] at hde
        rw [if_pos hbig] at he
        have d1 : decide ((n : Int) > 65536) = true := by simp; omega
        clear hd d hlt hn d0
        generalize List.replicate n stepM = ms at *
        generalize manyB n = B at *
        subst hml
        clear K a2 l2
        have K := Lib.hid K1
        clear K1
        have a2 := K.out.rd 2 rfl
        have l2 := K.out.ltp 2 rfl
        have EN := fun w' (A : Option Addr) (cc : Nat) hr hc => Lib.hid (PCodeCuts.code_Encode.calls 70000 1 1 0 0 A cc ms [] 7 w' hr hc he)
        have DC := fun w' (A : Option Addr) (cc : Nat) hr hc => Lib.hid (PCodeCuts.code_Decode.calls 70000 A cc B 0 0 0 0 [] 131076 7 w' hr hc hde)
        have d0 : decide (ms.length < ms.length) = false := by simp
        clear he hde
        go_wp2_with (first | (go_at_call 13; (with_reducible refine (EN _ _ _ (moves_reads (sat.pick 1 K.out rfl) (by omega)).2.2 (moves_reads (sat.pick 1 K.out rfl) (by omega)).2.1).out.mono ?_); rintro e w1 ⟨v1, rfl, hr, hbb⟩; have K1 := take_bytes K.out hbb hr; clear hr hbb; obtain ⟨p5, k5, rfl⟩ := row_any K1; have K2 := Lib.hid K1; clear K1 K; (try clear a2 l2); have K := K2; clear K2) | (go_at_call 22; (with_reducible refine (DC _ _ _ (bytes_reads (sat.pick 1 K.out rfl) (by omega)).2.2 (bytes_reads (sat.pick 1 K.out rfl) (by omega)).2.1).out.mono ?_); rintro e w1 ⟨v1, rfl, hr, hbb⟩; have K1 := take_moves K.out hbb hr; clear hr hbb; obtain ⟨p6, k6, rfl⟩ := row_any K1; have K2 := Lib.hid K1; clear K1 K; have K := K2; clear K2) | ((with_reducible refine at_alloc ?_); refine st_alloc K.out (fun _ => rfl) ?_; intro gt w1 K1; simp only [List.cons_append, List.nil_append] at K1; have K2 := Lib.hid K1; clear K1 K; (try clear a0); (try clear l0); (try clear a1); (try clear l1); (try clear a2); (try clear l2); have K := K2; clear K2) | ((with_reducible refine at_store ?_); refine st_store 5 K.out rfl rfl rfl rfl ?_ ?_ ?_ ?_; (· kernel_rfl); (· simp); (· simp [Value.oneCell']); intro w1 K1; simp only [List.set, putL] at K1; have K2 := Lib.hid K1; clear K1 K; (try clear a0); (try clear l0); (try clear a1); (try clear l1); (try clear a2); (try clear l2); have K := K2; clear K2; have a5 := K.out.rd 5 rfl; have l5 := K.out.ltp 5 rfl))
        go_ret
        exact ⟨rfl, K.out.below⟩
      · have hde := dec_many n (by omega)
        rw [if_neg hbig] at he
        have d1 : decide ((n : Int) > 65536) = false := by simp; omega
        clear hlt hn d0
        generalize List.replicate n stepM = ms at *
        generalize manyB n = B at *
        subst hml
        clear K a2 l2
        have K := Lib.hid K1
        clear K1
        have a2 := K.out.rd 2 rfl
        have l2 := K.out.ltp 2 rfl
        have EN := fun w' (A : Option Addr) (cc : Nat) hr hc => Lib.hid (PCodeCuts.code_Encode.calls 70000 1 1 0 0 A cc ms B 0 w' hr hc he)
        have DC := fun w' (A : Option Addr) (cc : Nat) hr hc => Lib.hid (PCodeCuts.code_Decode.calls 70000 A cc B 1 1 0 0 ms (B.length : Int) 0 w' hr hc hde)
        have SM := fun w' (A A' : Option Addr) (cc cc' : Nat) hr hcc hr' hcc' => Lib.hid (PCodeCuts.stackyardlaw18_same.calls A cc B A' cc' B true w' hr hcc hr' hcc' (by unfold PCodeCuts.stackyardlaw18_same.f; simp))
        have d0 : decide (ms.length < ms.length) = false := by simp
        have q1 : ((B.length : Int) == (B.length : Int)) = true := by simp
        have q2 : ((ms.length : Int) == (ms.length : Int)) = true := by simp
        clear he hde
        go_wp2_with (first | (go_at_call 13; (with_reducible refine (EN _ _ _ (moves_reads (sat.pick 1 K.out rfl) (by omega)).2.2 (moves_reads (sat.pick 1 K.out rfl) (by omega)).2.1).out.mono ?_); rintro e w1 ⟨v1, rfl, hr, hbb⟩; have K1 := take_bytes K.out hbb hr; clear hr hbb; obtain ⟨p5, k5, rfl⟩ := row_any K1; have K2 := Lib.hid K1; clear K1 K; (try clear a2 l2); have K := K2; clear K2) | (go_at_call 22; (with_reducible refine (DC _ _ _ (bytes_reads (sat.pick 1 K.out rfl) (by omega)).2.2 (bytes_reads (sat.pick 1 K.out rfl) (by omega)).2.1).out.mono ?_); rintro e w1 ⟨v1, rfl, hr, hbb⟩; have K1 := take_moves K.out hbb hr; clear hr hbb; obtain ⟨p6, k6, rfl⟩ := row_any K1; have K2 := Lib.hid K1; clear K1 K; have K := K2; clear K2) | ((with_reducible refine at_alloc ?_); refine st_alloc K.out (fun _ => rfl) ?_; intro gt w1 K1; simp only [List.cons_append, List.nil_append] at K1; have K2 := Lib.hid K1; clear K1 K; (try clear a0); (try clear l0); (try clear a1); (try clear l1); (try clear a2); (try clear l2); have K := K2; clear K2) | ((with_reducible refine at_store ?_); refine st_store 5 K.out rfl rfl rfl rfl ?_ ?_ ?_ ?_; (· kernel_rfl); (· simp); (· simp [Value.oneCell']); intro w1 K1; simp only [List.set, putL] at K1; have K2 := Lib.hid K1; clear K1 K; (try clear a0); (try clear l0); (try clear a1); (try clear l1); (try clear a2); (try clear l2); have K := K2; clear K2; have a5 := K.out.rd 5 rfl; have l5 := K.out.ltp 5 rfl) | (go_at_call 14; (with_reducible refine (SM _ _ _ _ _ (bytes_reads (sat.pick 1 K.out rfl) (by omega)).2.2 (bytes_reads (sat.pick 1 K.out rfl) (by omega)).2.1 (bytes_reads (sat.pick 2 K.out rfl) (by omega)).2.2 (bytes_reads (sat.pick 2 K.out rfl) (by omega)).2.1).out.mono ?_); rintro e w1 ⟨rfl, hdr⟩; have K1 := sat.grown K.out hdr.below; clear hdr; have K2 := Lib.hid K1; clear K1 K; (try clear a5 l5); have K := K2; clear K2; have a5 := K.out.rd 5 rfl; have l5 := K.out.ltp 5 rfl))
        go_ret
        exact ⟨rfl, K.out.below⟩
theorem codeMany_calls (W : World) (n : Int) (hn : (Lit.int .i64 n).wf = true) :
    Calls Try.prog 9 #[.int .i64 n] W fun e W' => e = .returned (.bool true) ∧ Below W.heap.size W W' := many_calls W n hn
end Go.Proofs.Ytiladkalijonbaa
