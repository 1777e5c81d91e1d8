/- Of whatever yard all that was done to cells may be (AuditYards answers true at every input). No condition beyond the row's own. -/
import Derived.Test.YtdjkblnocooldaaGreatBs
namespace Go.Proofs.YtdjkblnocooldaaGreat
open Go.RowKit Go.SepYtdjkblnocooldaaGreat Go.Maps
set_option linter.unusedSimpArgs false
set_option linter.unusedVariables false
set_option maxRecDepth 100000
set_option maxHeartbeats 4000000
theorem auditYards_main (t s r : Int) (p : Option Addr) (l : List MoveM) (cap : Nat) (E : World) (hwf : ∀ v ∈ l, v.wf) (ho : OldS MoveM.v 7 E p l) :
    Calls Tryz.prog 11 #[.int .i64 t, .int .i64 s, .int .i64 r, .slice p l.length cap] E fun e w' => e = .returned (.bool true) ∧ Below E.heap.size E w' := by
  have K := Lib.hid (sat.start E)
  have HD := fun w => Lib.hid (head17_calls w)
  by_cases h300 : (l.length : Int) > 300
  · have c0 : decide ((l.length : Int) > 300) = true := by simpa using h300
    go_enter Tryz.func11, Tryz.ntmps11
    go_wp2_with (first | (go_at_call 56; (with_reducible refine ((HD _).out).mono ?_); rintro e w1 ⟨rfl, hb⟩; have K1 := sat.grown (by repeat (with_reducible first | exact K.out | apply sat.alloc_any | apply sat.drew | apply sat.drewN)) hb; clear hb; have K2 := Lib.hid K1; clear K1 K; (try clear a0); (try clear l0); (try clear a1); (try clear l1); (try clear a2); (try clear l2); have K := K2; clear K2))
    go_ret
    exact ⟨rfl, K.out.below⟩
  · have c0 : decide ((l.length : Int) > 300) = false := by simpa using h300
    have hl : l.length ≤ 300 := by omega
    have RN := fun w' (M : List SA) (h : sat E w' M) => Lib.hid (run17_calls t s r p l cap hl hwf ho h)
    have hc := confS_ok t s r 1
    have hO := run_okn hc l hwf l.length (by omega)
    rw [List.take_length] at hO
    have hI := runsM_linv (confS t s r 1).th l (YardM.new_linv hc) hwf
    generalize runsM (confS t s r 1).th (YardM.new (confS t s r 1)) l = Y at *
    have hlg := hO.1.log
    have hcY : Y.conf.ok := hO.1.conf
    have hew : ∀ e ∈ Y.mem.log, Ev.wf e := fun e he => evOk_wf hcY (hI.log e he)
    have LC := fun w' gy (M : List SA) (h : sat E w' (yardA gy Y :: M)) => Lib.hid (ylog_calls gy Y (by omega) h)
    have CC := fun w' gy (M : List SA) (h : sat E w' (yardA gy Y :: M)) => Lib.hid (yconf_calls gy Y h)
    have AF := fun p1 k1 w' (M : List SA) (h : sat E w' (rowA (.slice p1 Y.mem.log.length k1) 55 6 Y.mem.log.length (evCells Y.mem.log) :: M)) => Lib.hid (afirst_calls Y.conf hcY p1 Y.mem.log k1 w' (by omega) hew (oldE_rowY h))
    have LF := fun p1 k1 w' (M : List SA) (hk : Y.mem.log.length ≤ k1) (h : sat E w' (rowA (.slice p1 Y.mem.log.length k1) 55 6 Y.mem.log.length (evCells Y.mem.log) :: M)) => Lib.hid (lfirst_true Y.conf hcY p1 Y.mem.log k1 w' (by omega) hk hew (linv_first hI) (oldE_rowY h))
    rw [linv_first hI] at AF
    clear hwf ho hO hI hc hew hcY
    go_enter Tryz.func11, Tryz.ntmps11
    go_wp2_with (first | (go_at_call 56; (with_reducible refine ((HD _).out).mono ?_); rintro e w1 ⟨rfl, hb⟩; have K1 := sat.grown (by repeat (with_reducible first | exact K.out | apply sat.alloc_any | apply sat.drew | apply sat.drewN)) hb; clear hb; have K2 := Lib.hid K1; clear K1 K; (try clear a0); (try clear l0); (try clear a1); (try clear l1); (try clear a2); (try clear l2); have K := K2; clear K2) | (go_at_call 57; (with_reducible refine ((RN _ _ (show sat E _ _ from by iterate 6 (try (with_reducible first | exact K.out | apply sat.alloc_any | apply sat.drew | apply sat.drewN)))).out).mono ?_); rintro e w1 ⟨gy, rfl, K1⟩; have K2 := Lib.hid K1; clear K1 K; (try clear a0); (try clear l0); (try clear a1); (try clear l1); (try clear a2); (try clear l2); have K := K2; clear K2) | (go_at_call 24; (with_reducible refine ((CC _ _ _ (show sat E _ _ from by iterate 6 (try (with_reducible first | exact K.out | apply sat.alloc_any | apply sat.drew | apply sat.drewN)))).out).mono ?_); rintro e w1 ⟨rfl, K1⟩; have K2 := Lib.hid K1; clear K1 K; (try clear a0); (try clear l0); (try clear a1); (try clear l1); (try clear a2); (try clear l2); have K := K2; clear K2) | ((fail_if_success (have _h := hcp1)); (go_at_call 22; (with_reducible refine ((LC _ _ _ (show sat E _ _ from by iterate 6 (try (with_reducible first | exact K.out | apply sat.alloc_any | apply sat.drew | apply sat.drewN)))).out).mono ?_); rintro e w1 ⟨p1, k1, rfl, K1⟩; have K2 := Lib.hid K1; clear K1 K; (try clear a0); (try clear l0); (try clear a1); (try clear l1); (try clear a2); (try clear l2); have K := K2; clear K2); have hcp1 := row_capE K.out) | ((fail_if_success (have _h := AF1)); (go_at_call 58; (with_reducible refine ((AF p1 k1 _ _ (show sat E _ _ from by iterate 6 (try (with_reducible first | exact K.out | apply sat.alloc_any | apply sat.drew | apply sat.drewN)))).out).mono ?_); rintro e w1 ⟨rfl, hb⟩; have K1 := sat.grown (by repeat (with_reducible first | exact K.out | apply sat.alloc_any | apply sat.drew | apply sat.drewN)) hb; clear hb; have K2 := Lib.hid K1; clear K1 K; (try clear a0); (try clear l0); (try clear a1); (try clear l1); (try clear a2); (try clear l2); have K := K2; clear K2); have K1 := K.out.drop; clear K; have K := Lib.hid K1; clear K1; have AF1 : True := trivial) | (go_at_call 22; (with_reducible refine ((LC _ _ _ (show sat E _ _ from by iterate 6 (try (with_reducible first | exact K.out | apply sat.alloc_any | apply sat.drew | apply sat.drewN)))).out).mono ?_); rintro e w1 ⟨p2, k2, rfl, K1⟩; have K2 := Lib.hid K1; clear K1 K; (try clear a0); (try clear l0); (try clear a1); (try clear l1); (try clear a2); (try clear l2); have K := K2; clear K2) | (go_at_call 59; (with_reducible refine ((LF p2 k2 _ _ (row_capE (show sat E _ _ from by iterate 6 (try (with_reducible first | exact K.out | apply sat.alloc_any | apply sat.drew | apply sat.drewN)))) (show sat E _ _ from by iterate 6 (try (with_reducible first | exact K.out | apply sat.alloc_any | apply sat.drew | apply sat.drewN)))).out).mono ?_); rintro e w1 ⟨rfl, hb⟩; have K1 := sat.grown (by repeat (with_reducible first | exact K.out | apply sat.alloc_any | apply sat.drew | apply sat.drewN)) hb; clear hb; have K2 := Lib.hid K1; clear K1 K; (try clear a0); (try clear l0); (try clear a1); (try clear l1); (try clear a2); (try clear l2); have K := K2; clear K2))
    go_ret
    exact ⟨rfl, K.out.below⟩
theorem auditYards_calls (W : World) (t : Int) (_ : (Lit.int .i64 t).wf = true) (s : Int) (_ : (Lit.int .i64 s).wf = true) (r : Int) (_ : (Lit.int .i64 r).wf = true) (a : Option Addr) (len cap : Nat) (rows : List (List Value)) (h : RowsAt W [.int .i64, .int .i64, .bool, .bool, .int .u64, .int .i64, .int .i64] a len cap rows) :
    Calls Tryz.prog 11 #[.int .i64 t, .int .i64 s, .int .i64 r, .slice a len cap] W fun e W' => e = .returned (.bool true) ∧ Below W.heap.size W W' := by
  obtain ⟨l, rfl, hwf, ho⟩ := oldM_of h
  exact auditYards_main t s r a l cap W hwf ho
end Go.Proofs.YtdjkblnocooldaaGreat
