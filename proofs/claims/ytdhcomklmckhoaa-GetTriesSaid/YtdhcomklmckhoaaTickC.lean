/- How stamps are made by a counter that is counted up if nobody else did, step by step. -/
import Derived.Test.YtdhcomklmckhoaaTick
namespace Go.Proofs.Ytdhcomklmckhoaa
open Go.RowKit Go.SepYtdhcomklmckhoaa
set_option linter.unusedSimpArgs false
set_option linter.unusedVariables false
set_option maxRecDepth 100000
set_option maxHeartbeats 1000000
section
variable {E w : World} {L : List SA}
theorem tread_bd (t : TickM) (m : MemM) (hw : m.wf) (th : Int) : 0 ≤ t.read m th ∧ t.read m th ≤ 16777215 := by
  have := MemM.peek_wf hw (t.conf.number th)
  unfold TickM.read cap Top
  omega
theorem tswap_calls (b bm : Nat) (t : TickM) (m : MemM) (hc : t.conf.ok) (hw0 : 0 ≤ t.who) (hw1 : t.who < t.conf.th) (ha : 0 ≤ t.a ∧ t.a ≤ 16777215) (hroom : m.log.length < 1000000000) (h : sat E w (tickA b t :: memA bm m :: L)) :
    Calls Try.prog 80 #[.pointer (some ⟨b, 0, none⟩), .pointer (some ⟨bm, 0, none⟩)] w fun e w' =>
      e = .returned (.tuple #[]) ∧ sat E w' (tickA b (t.swap m).1 :: memA bm (t.swap m).2 :: L) := by
  have K := Lib.hid h
  have P := Lib.hid (MemM.peek_wf (memA_open h.swap).1 (t.conf.number 0))
  clear h
  have a0 := K.out.rd 0 rfl; have l0 := K.out.ltp 0 rfl
  have LD := fun w (h : sat E w (tickA b t :: memA bm m :: L)) => Lib.hid (tload_calls b bm t m 0 hc (by omega) (by have := hc.th1; omega) hroom h)
  by_cases s0 : t.steps = 0
  · generalize hx : t.read m 0 = x at LD
    by_cases hx1 : 16777215 ≤ x
    · have e : t.swap m = ({ t with a := x, phase := 2 }, t.load m 0) := by unfold TickM.swap; rw [if_pos s0, hx]; simp only [Top, ge_iff_le, hx1, if_true]
      rw [e]
      have b0 : (t.steps == 0) = true := by simpa using s0
      clear e s0 hx
      go_enter Try.func80, Try.ntmps80
      go_wp2_with (first | (go_at_call 86; (with_reducible refine ((LD _ (show sat E _ _ from by iterate 6 (try (with_reducible first | exact K.out | apply sat.alloc_any | apply sat.drew | apply sat.drewN)))).out).mono ?_); rintro e w1 ⟨rfl, K1⟩; have K2 := Lib.hid K1; clear K1 K; (try clear a0); (try clear l0); (try clear a1); (try clear l1); (try clear a2); (try clear l2); have K := K2; clear K2; have a0 := K.out.rd 0 rfl; have l0 := K.out.ltp 0 rfl) | ((with_reducible refine at_store ?_); refine st_store 0 K.out rfl rfl rfl rfl ?_ ?_ ?_ ?_; (· kernel_rfl); (· simp); (· simp [Value.oneCell']); intro w1 K1; simp only [List.set, putL] at K1; have K2 := Lib.hid K1; clear K1 K; (try clear a0); (try clear l0); (try clear a1); (try clear l1); (try clear a2); (try clear l2); have K := K2; clear K2; have a0 := K.out.rd 0 rfl; have l0 := K.out.ltp 0 rfl))
      (first | go_end0 | ((try simp only [Exit.inBlock, Exit.then]); refine bodyPost_ret (results_none rfl _ _ _) rfl ?_))
      exact ⟨rfl, K.out⟩
    · have e : t.swap m = ({ t with a := x }, t.load m 0) := by unfold TickM.swap; rw [if_pos s0, hx]; simp only [Top, ge_iff_le, hx1, if_false]
      rw [e]
      have b0 : (t.steps == 0) = true := by simpa using s0
      clear e s0 hx
      go_enter Try.func80, Try.ntmps80
      go_wp2_with (first | (go_at_call 86; (with_reducible refine ((LD _ (show sat E _ _ from by iterate 6 (try (with_reducible first | exact K.out | apply sat.alloc_any | apply sat.drew | apply sat.drewN)))).out).mono ?_); rintro e w1 ⟨rfl, K1⟩; have K2 := Lib.hid K1; clear K1 K; (try clear a0); (try clear l0); (try clear a1); (try clear l1); (try clear a2); (try clear l2); have K := K2; clear K2; have a0 := K.out.rd 0 rfl; have l0 := K.out.ltp 0 rfl) | ((with_reducible refine at_store ?_); refine st_store 0 K.out rfl rfl rfl rfl ?_ ?_ ?_ ?_; (· kernel_rfl); (· simp); (· simp [Value.oneCell']); intro w1 K1; simp only [List.set, putL] at K1; have K2 := Lib.hid K1; clear K1 K; (try clear a0); (try clear l0); (try clear a1); (try clear l1); (try clear a2); (try clear l2); have K := K2; clear K2; have a0 := K.out.rd 0 rfl; have l0 := K.out.ltp 0 rfl))
      (first | go_end0 | ((try simp only [Exit.inBlock, Exit.then]); refine bodyPost_ret (results_none rfl _ _ _) rfl ?_))
      exact ⟨rfl, K.out⟩
  · have c0 : (t.steps == 0) = false := by simpa using s0
    by_cases s1 : t.steps = 1
    · have c1 : (t.steps == 1) = true := by simpa using s1
      have hxb := tread_bd t m (memA_open K.out.swap).1 0
      generalize hx : t.read m 0 = x at LD hxb
      obtain ⟨x0, x1⟩ := hxb
      by_cases hne : x = t.a
      · have e : t.swap m = ({ t with b := x }, t.load m 0) := by unfold TickM.swap; rw [if_neg s0, if_pos s1, hx]; simp [hne]
        rw [e]
        have c2 : (x == t.a) = true := by simpa using hne
        clear e s0 s1 hx hne
        go_enter Try.func80, Try.ntmps80
        go_wp2_with (first | (go_at_call 86; (with_reducible refine ((LD _ (show sat E _ _ from by iterate 6 (try (with_reducible first | exact K.out | apply sat.alloc_any | apply sat.drew | apply sat.drewN)))).out).mono ?_); rintro e w1 ⟨rfl, K1⟩; have K2 := Lib.hid K1; clear K1 K; (try clear a0); (try clear l0); (try clear a1); (try clear l1); (try clear a2); (try clear l2); have K := K2; clear K2; have a0 := K.out.rd 0 rfl; have l0 := K.out.ltp 0 rfl) | ((with_reducible refine at_store ?_); refine st_store 0 K.out rfl rfl rfl rfl ?_ ?_ ?_ ?_; (· kernel_rfl); (· simp); (· simp [Value.oneCell']); intro w1 K1; simp only [List.set, putL] at K1; have K2 := Lib.hid K1; clear K1 K; (try clear a0); (try clear l0); (try clear a1); (try clear l1); (try clear a2); (try clear l2); have K := K2; clear K2; have a0 := K.out.rd 0 rfl; have l0 := K.out.ltp 0 rfl))
        go_quiet (fail)
        go_wp2_with fail
        (first | go_end0 | ((try simp only [Exit.inBlock, Exit.then]); refine bodyPost_ret (results_none rfl _ _ _) rfl ?_))
        exact ⟨rfl, (by repeat (with_reducible first | exact K.out | apply sat.alloc_any | apply sat.drew | apply sat.drewN))⟩
      · have e : t.swap m = ({ t with b := x }.done ⟨t.a, x - 1⟩, t.load m 0) := by unfold TickM.swap; rw [if_neg s0, if_pos s1, hx]; simp [hne]
        rw [e]
        have c2 : (x == t.a) = false := by simpa using hne
        have D := fun w (h : sat E w (tickA b { t with b := x } :: memA bm (t.load m 0) :: L)) => Lib.hid (tdone_calls b { t with b := x } ⟨t.a, x - 1⟩ h)
        have v1 : IntKind.i64.wrap (x - 1) = x - 1 := wi (by omega) (by omega)
        clear e s0 s1 hx hne
        go_enter Try.func80, Try.ntmps80
        go_wp2_with (first | (go_at_call 86; (with_reducible refine ((LD _ (show sat E _ _ from by iterate 6 (try (with_reducible first | exact K.out | apply sat.alloc_any | apply sat.drew | apply sat.drewN)))).out).mono ?_); rintro e w1 ⟨rfl, K1⟩; have K2 := Lib.hid K1; clear K1 K; (try clear a0); (try clear l0); (try clear a1); (try clear l1); (try clear a2); (try clear l2); have K := K2; clear K2; have a0 := K.out.rd 0 rfl; have l0 := K.out.ltp 0 rfl) | ((with_reducible refine at_store ?_); refine st_store 0 K.out rfl rfl rfl rfl ?_ ?_ ?_ ?_; (· kernel_rfl); (· simp); (· simp [Value.oneCell']); intro w1 K1; simp only [List.set, putL] at K1; have K2 := Lib.hid K1; clear K1 K; (try clear a0); (try clear l0); (try clear a1); (try clear l1); (try clear a2); (try clear l2); have K := K2; clear K2; have a0 := K.out.rd 0 rfl; have l0 := K.out.ltp 0 rfl))
        go_quiet (fail)
        go_wp2_with fail
        go_region_with (first | (go_at_call 75; (with_reducible refine ((D _ (show sat E _ _ from by iterate 6 (try (with_reducible first | exact K.out | apply sat.alloc_any | apply sat.drew | apply sat.drewN)))).out).mono ?_); rintro e w1 ⟨rfl, K1⟩; have K2 := Lib.hid K1; clear K1 K; (try clear a0); (try clear l0); (try clear a1); (try clear l1); (try clear a2); (try clear l2); have K := K2; clear K2; have a0 := K.out.rd 0 rfl; have l0 := K.out.ltp 0 rfl))
        all_goals
          go_wp2
          (first | go_end0 | ((try simp only [Exit.inBlock, Exit.then]); refine bodyPost_ret (results_none rfl _ _ _) rfl ?_))
          exact ⟨rfl, (by repeat (with_reducible first | exact K.out | apply sat.alloc_any | apply sat.drew | apply sat.drewN))⟩
    · have c1 : (t.steps == 1) = false := by simpa using s1
      by_cases s2 : t.steps = 2
      · have c2 : (t.steps == 2) = true := by simpa using s2
        have N := fun w => Lib.hid (number_calls t.conf w hc 0 (by omega) (by have := hc.th1; omega))
        have S := fun w (h : sat E w (memA bm m :: tickA b t :: L)) => Lib.hid (swapc_calls bm m t.who (t.conf.number 0) t.a (t.a + 1) (by omega) hroom h)
        have D := fun w (h : sat E w (tickA b t :: memA bm (m.touch t.who 2 (t.conf.number 0) t.a (t.a + 1)) :: L)) => Lib.hid (tdone_calls b t (point t.a) h)
        obtain ⟨ha0, ha1⟩ := ha
        have v1 : IntKind.i64.wrap (t.a + 1) = t.a + 1 := wi (by omega) (by omega)
        have v2 : IntKind.u64.wrap (t.a + 1) = t.a + 1 := by rw [IntKind.wrap_u64]; omega
        have v3 : IntKind.u64.wrap t.a = t.a := by rw [IntKind.wrap_u64]; omega
        cases hk : m.okOf 2 (t.conf.number 0) t.a with
        | false =>
          have e : t.swap m = (t, m.touch t.who 2 (t.conf.number 0) t.a (t.a + 1)) := by unfold TickM.swap; rw [if_neg s0, if_neg s1, if_pos s2]; simp [hk]
          rw [e]
          rw [hk] at S
          clear e s0 s1 s2 hk D
          go_enter Try.func80, Try.ntmps80
          go_wp2_with fail
          go_region_held3 (fun w' => (∀ j, w'.cell? ⟨b, j, none⟩ = (t.v)[j]?) ∧ b < w'.heap.size) (first | exact sat.s0 (by repeat (with_reducible first | exact K.out | apply sat.alloc_any | apply sat.drew | apply sat.drewN)) | go_keep) (first | (go_at_call 78; (with_reducible refine ((N _).out).mono ?_); rintro e w1 ⟨rfl, hb⟩; have K1 := sat.grown (by repeat (with_reducible first | exact K.out | apply sat.alloc_any | apply sat.drew | apply sat.drewN)) hb; clear hb; have K2 := Lib.hid K1; clear K1 K; (try clear a0); (try clear l0); (try clear a1); (try clear l1); (try clear a2); (try clear l2); have K := K2; clear K2; have a0 := K.out.rd 0 rfl; have l0 := K.out.ltp 0 rfl) | (go_at_call 53; (with_reducible refine ((S _ (show sat E _ _ from by iterate 6 (try (with_reducible first | exact K.out | apply sat.alloc_any | apply sat.drew | apply sat.drewN))).swap).out).mono ?_); rintro e w1 ⟨rfl, K1⟩; replace K1 := K1.swap; have K2 := Lib.hid K1; clear K1 K; (try clear a0); (try clear l0); (try clear a1); (try clear l1); (try clear a2); (try clear l2); have K := K2; clear K2; have a0 := K.out.rd 0 rfl; have l0 := K.out.ltp 0 rfl))
          go_wp2
          (first | go_end0 | ((try simp only [Exit.inBlock, Exit.then]); refine bodyPost_ret (results_none rfl _ _ _) rfl ?_))
          exact ⟨rfl, K.out⟩
        | true =>
          have e : t.swap m = (t.done (point t.a), m.touch t.who 2 (t.conf.number 0) t.a (t.a + 1)) := by unfold TickM.swap; rw [if_neg s0, if_neg s1, if_pos s2]; simp [hk]
          rw [e]
          rw [hk] at S
          clear e s0 s1 s2 hk
          go_enter Try.func80, Try.ntmps80
          go_wp2_with fail
          go_region_held3 (fun w' => (∀ j, w'.cell? ⟨b, j, none⟩ = (t.v)[j]?) ∧ b < w'.heap.size) (first | exact sat.s0 (by repeat (with_reducible first | exact K.out | apply sat.alloc_any | apply sat.drew | apply sat.drewN)) | go_keep) (first | (go_at_call 78; (with_reducible refine ((N _).out).mono ?_); rintro e w1 ⟨rfl, hb⟩; have K1 := sat.grown (by repeat (with_reducible first | exact K.out | apply sat.alloc_any | apply sat.drew | apply sat.drewN)) hb; clear hb; have K2 := Lib.hid K1; clear K1 K; (try clear a0); (try clear l0); (try clear a1); (try clear l1); (try clear a2); (try clear l2); have K := K2; clear K2; have a0 := K.out.rd 0 rfl; have l0 := K.out.ltp 0 rfl) | (go_at_call 53; (with_reducible refine ((S _ (show sat E _ _ from by iterate 6 (try (with_reducible first | exact K.out | apply sat.alloc_any | apply sat.drew | apply sat.drewN))).swap).out).mono ?_); rintro e w1 ⟨rfl, K1⟩; replace K1 := K1.swap; have K2 := Lib.hid K1; clear K1 K; (try clear a0); (try clear l0); (try clear a1); (try clear l1); (try clear a2); (try clear l2); have K := K2; clear K2; have a0 := K.out.rd 0 rfl; have l0 := K.out.ltp 0 rfl))
          go_wp2_with (first | (go_at_call 76; (with_reducible refine (point_calls t.a _).mono ?_); rintro e w1 ⟨rfl, hb⟩; have K1 := sat.grown (by repeat (with_reducible first | exact K.out | apply sat.alloc_any | apply sat.drew | apply sat.drewN)) hb; clear hb; have K2 := Lib.hid K1; clear K1 K; (try clear a0); (try clear l0); (try clear a1); (try clear l1); (try clear a2); (try clear l2); have K := K2; clear K2; have a0 := K.out.rd 0 rfl; have l0 := K.out.ltp 0 rfl) | (go_at_call 75; (with_reducible refine ((D _ (show sat E _ _ from by iterate 6 (try (with_reducible first | exact K.out | apply sat.alloc_any | apply sat.drew | apply sat.drewN)))).out).mono ?_); rintro e w1 ⟨rfl, K1⟩; have K2 := Lib.hid K1; clear K1 K; (try clear a0); (try clear l0); (try clear a1); (try clear l1); (try clear a2); (try clear l2); have K := K2; clear K2; have a0 := K.out.rd 0 rfl; have l0 := K.out.ltp 0 rfl))
          (first | go_end0 | ((try simp only [Exit.inBlock, Exit.then]); refine bodyPost_ret (results_none rfl _ _ _) rfl ?_))
          exact ⟨rfl, K.out⟩
      · have c2 : (t.steps == 2) = false := by simpa using s2
        by_cases s3 : t.steps = 3
        · have c3 : (t.steps == 3) = true := by simpa using s3
          have hxb := tread_bd t m (memA_open K.out.swap).1 0
          generalize hx : t.read m 0 = x at LD hxb
          obtain ⟨x0, x1⟩ := hxb
          have e : t.swap m = ({ t with b := x }.done ⟨t.a, x - 1⟩, t.load m 0) := by unfold TickM.swap; rw [if_neg s0, if_neg s1, if_neg s2, if_pos s3, hx]
          rw [e]
          have D := fun w (h : sat E w (tickA b { t with b := x } :: memA bm (t.load m 0) :: L)) => Lib.hid (tdone_calls b { t with b := x } ⟨t.a, x - 1⟩ h)
          have v1 : IntKind.i64.wrap (x - 1) = x - 1 := wi (by omega) (by omega)
          clear e s0 s1 s2 s3 hx
          go_enter Try.func80, Try.ntmps80
          go_wp2_with (first | (go_at_call 86; (with_reducible refine ((LD _ (show sat E _ _ from by iterate 6 (try (with_reducible first | exact K.out | apply sat.alloc_any | apply sat.drew | apply sat.drewN)))).out).mono ?_); rintro e w1 ⟨rfl, K1⟩; have K2 := Lib.hid K1; clear K1 K; (try clear a0); (try clear l0); (try clear a1); (try clear l1); (try clear a2); (try clear l2); have K := K2; clear K2; have a0 := K.out.rd 0 rfl; have l0 := K.out.ltp 0 rfl) | ((with_reducible refine at_store ?_); refine st_store 0 K.out rfl rfl rfl rfl ?_ ?_ ?_ ?_; (· kernel_rfl); (· simp); (· simp [Value.oneCell']); intro w1 K1; simp only [List.set, putL] at K1; have K2 := Lib.hid K1; clear K1 K; (try clear a0); (try clear l0); (try clear a1); (try clear l1); (try clear a2); (try clear l2); have K := K2; clear K2; have a0 := K.out.rd 0 rfl; have l0 := K.out.ltp 0 rfl))
          go_region_with (first | (go_at_call 75; (with_reducible refine ((D _ (show sat E _ _ from by iterate 6 (try (with_reducible first | exact K.out | apply sat.alloc_any | apply sat.drew | apply sat.drewN)))).out).mono ?_); rintro e w1 ⟨rfl, K1⟩; have K2 := Lib.hid K1; clear K1 K; (try clear a0); (try clear l0); (try clear a1); (try clear l1); (try clear a2); (try clear l2); have K := K2; clear K2; have a0 := K.out.rd 0 rfl; have l0 := K.out.ltp 0 rfl))
          all_goals
            go_wp2
            (first | go_end0 | ((try simp only [Exit.inBlock, Exit.then]); refine bodyPost_ret (results_none rfl _ _ _) rfl ?_))
            exact ⟨rfl, (by repeat (with_reducible first | exact K.out | apply sat.alloc_any | apply sat.drew | apply sat.drewN))⟩
        · have c3 : (t.steps == 3) = false := by simpa using s3
          have e : t.swap m = (t, m) := by unfold TickM.swap; rw [if_neg s0, if_neg s1, if_neg s2, if_neg s3]
          rw [e]
          clear e s0 s1 s2 s3
          go_enter Try.func80, Try.ntmps80
          go_wp2
          (first | go_end0 | ((try simp only [Exit.inBlock, Exit.then]); refine bodyPost_ret (results_none rfl _ _ _) rfl ?_))
          exact ⟨rfl, K.out⟩
end
end Go.Proofs.Ytdhcomklmckhoaa
