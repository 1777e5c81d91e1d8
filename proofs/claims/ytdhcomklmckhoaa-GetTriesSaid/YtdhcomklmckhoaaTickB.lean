/- How stamps are made out of all threads' numbers, step by step. -/
import Derived.Test.YtdhcomklmckhoaaTick
namespace Go.Proofs.Ytdhcomklmckhoaa
open Go.RowKit Go.SepYtdhcomklmckhoaa
set_option linter.unusedSimpArgs false
set_option linter.unusedVariables false
set_option maxRecDepth 100000
set_option maxHeartbeats 1000000
section
variable {E w : World} {L : List SA}
theorem tstutter_calls (b bm : Nat) (t : TickM) (m : MemM) (hc : t.conf.ok) (hw0 : 0 ≤ t.who) (hw1 : t.who < t.conf.th) (hs : 0 ≤ t.steps) (ha : 0 ≤ t.a ∧ t.a ≤ 16777215) (hroom : m.log.length < 1000000000) (h : sat E w (tickA b t :: memA bm m :: L)) :
    Calls Try.prog 79 #[.pointer (some ⟨b, 0, none⟩), .pointer (some ⟨bm, 0, none⟩)] w fun e w' =>
      e = .returned (.tuple #[]) ∧ sat E w' (tickA b (t.stutter m).1 :: memA bm (t.stutter m).2 :: L) := by
  have K := Lib.hid h
  clear h
  have a0 := K.out.rd 0 rfl; have l0 := K.out.ltp 0 rfl
  by_cases hlt : t.steps < t.conf.th
  · have e : t.stutter m = ({ t with a := max t.a (t.read m t.steps) }, t.load m t.steps) := if_pos hlt
    rw [e]
    clear e
    generalize hx : t.read m t.steps = x
    have X := Lib.hid hx
    clear hx
    by_cases hm : t.a < x
    all_goals
      go_enter Try.func79, Try.ntmps79
      go_wp2_with fail
      go_quiet (fail)
      go_wp2_with fail
      go_region_with (first | ((go_at_call 86; (with_reducible refine (tload_calls b bm t m t.steps hc hs hlt hroom (show sat E _ _ from by iterate 6 (try (with_reducible first | exact K.out | apply sat.alloc_any | apply sat.drew | apply sat.drewN)))).mono ?_); rintro e w1 ⟨rfl, K1⟩; have K2 := Lib.hid K1; clear K1 K; (try clear a0); (try clear l0); (try clear a1); (try clear l1); (try clear a2); (try clear l2); have K := K2; clear K2; have a0 := K.out.rd 0 rfl; have l0 := K.out.ltp 0 rfl); rw [X.out]; have f0 := K.out.fr 0 rfl))
      all_goals
        go_wp2
        (first | go_end0 | ((try simp only [Exit.inBlock, Exit.then]); refine bodyPost_ret (results_none rfl _ _ _) rfl ?_))
        rw [show max t.a x = (if t.a < x then x else t.a) by omega]
        first | rw [if_pos hm] | rw [if_neg (by omega)]
        exact ⟨rfl, by first | exact K.out.set0 (i := 6) | exact (K.out.set0 (i := 6)).drew⟩
  · have e : t.stutter m = (t.done (point (t.a + 1)), if (t.done (point (t.a + 1))).phase = 1 then m.touch t.who 1 (t.conf.number t.who) 0 (t.a + 1) else m) := if_neg hlt
    rw [e]
    clear e
    obtain ⟨ha0, ha1⟩ := ha
    obtain ⟨t1, ht1⟩ : ∃ t1, t1 = t.done (point (t.a + 1)) := ⟨_, rfl⟩
    have hq : t1.conf = t.conf ∧ t1.who = t.who ∧ t1.a = t.a := by subst ht1; unfold TickM.done; split <;> exact ⟨rfl, rfl, rfl⟩
    rw [← ht1]
    obtain ⟨q1, q2, q3⟩ := hq
    have D := fun w (h : sat E w (tickA b t :: memA bm m :: L)) => Lib.hid (tdone_calls b t (point (t.a + 1)) h)
    rw [← ht1] at D
    have N := fun w => Lib.hid (number_calls t1.conf w (by rw [q1]; exact hc) t1.who (by rw [q2]; exact hw0) (by rw [q2, q1]; exact hw1))
    have S := fun w (h : sat E w (memA bm m :: tickA b t1 :: L)) => Lib.hid (store_calls bm m t1.who (t1.conf.number t1.who) (t1.a + 1) (by rw [q3]; omega) hroom h)
    rw [← q1, ← q2, ← q3]
    have Q := Lib.hid (And.intro q3 ht1)
    have ha0 : 0 ≤ t1.a := by rw [q3]; exact ha0
    have ha1 : t1.a ≤ 16777215 := by rw [q3]; exact ha1
    clear q1 q2 q3 ht1
    cases hp : decide (t1.phase = 1) with
    | false =>
      have hp1 : ¬ t1.phase = 1 := by simpa using hp
      rw [if_neg hp1]
      have hb : (t1.phase == 1) = false := by simpa using hp1
      clear hp hp1
      go_enter Try.func79, Try.ntmps79
      go_wp2_with fail
      go_quiet (fail)
      go_wp2_with (first | (go_at_call 76; (with_reducible refine (point_calls (t.a + 1) _).mono ?_); rintro e w1 ⟨rfl, hb⟩; have K1 := sat.grown (by repeat (with_reducible first | exact K.out | apply sat.alloc_any | apply sat.drew | apply sat.drewN)) hb; clear hb; have K2 := Lib.hid K1; clear K1 K; (try clear a0); (try clear l0); (try clear a1); (try clear l1); (try clear a2); (try clear l2); have K := K2; clear K2; have a0 := K.out.rd 0 rfl; have l0 := K.out.ltp 0 rfl) | (go_at_call 75; (with_reducible refine ((D _ (show sat E _ _ from by iterate 6 (try (with_reducible first | exact K.out | apply sat.alloc_any | apply sat.drew | apply sat.drewN)))).out).mono ?_); rintro e w1 ⟨rfl, K1⟩; have K2 := Lib.hid K1; clear K1 K; (try clear a0); (try clear l0); (try clear a1); (try clear l1); (try clear a2); (try clear l2); have K := K2; clear K2; have a0 := K.out.rd 0 rfl; have l0 := K.out.ltp 0 rfl))
      (first | go_end0 | ((try simp only [Exit.inBlock, Exit.then]); refine bodyPost_ret (results_none rfl _ _ _) rfl ?_))
      exact ⟨rfl, K.out⟩
    | true =>
      have hp1 : t1.phase = 1 := by simpa using hp
      rw [if_pos hp1]
      have hb : (t1.phase == 1) = true := by simpa using hp1
      clear hp hp1
      go_enter Try.func79, Try.ntmps79
      go_wp2_with fail
      go_quiet (fail)
      go_wp2_with (first | (go_at_call 76; (with_reducible refine (point_calls (t.a + 1) _).mono ?_); rintro e w1 ⟨rfl, hb⟩; have K1 := sat.grown (by repeat (with_reducible first | exact K.out | apply sat.alloc_any | apply sat.drew | apply sat.drewN)) hb; clear hb; have K2 := Lib.hid K1; clear K1 K; (try clear a0); (try clear l0); (try clear a1); (try clear l1); (try clear a2); (try clear l2); have K := K2; clear K2; have a0 := K.out.rd 0 rfl; have l0 := K.out.ltp 0 rfl) | (go_at_call 75; (with_reducible refine ((D _ (show sat E _ _ from by iterate 6 (try (with_reducible first | exact K.out | apply sat.alloc_any | apply sat.drew | apply sat.drewN)))).out).mono ?_); rintro e w1 ⟨rfl, K1⟩; have K2 := Lib.hid K1; clear K1 K; (try clear a0); (try clear l0); (try clear a1); (try clear l1); (try clear a2); (try clear l2); have K := K2; clear K2; have a0 := K.out.rd 0 rfl; have l0 := K.out.ltp 0 rfl))
      have v1 : IntKind.i64.wrap (t1.a + 1) = t1.a + 1 := wi (by omega) (by omega)
      have v2 : IntKind.u64.wrap (t1.a + 1) = t1.a + 1 := by rw [IntKind.wrap_u64]; omega
      go_region_held3 (fun w' => (∀ j, w'.cell? ⟨b, j, none⟩ = (t1.v)[j]?) ∧ b < w'.heap.size) (first | exact sat.s0 (by repeat (with_reducible first | exact K.out | apply sat.alloc_any | apply sat.drew | apply sat.drewN)) | go_keep) (first | (go_at_call 78; (with_reducible refine ((N _).out).mono ?_); rintro e w1 ⟨rfl, hb⟩; have K1 := sat.grown (by repeat (with_reducible first | exact K.out | apply sat.alloc_any | apply sat.drew | apply sat.drewN)) hb; clear hb; have K2 := Lib.hid K1; clear K1 K; (try clear a0); (try clear l0); (try clear a1); (try clear l1); (try clear a2); (try clear l2); have K := K2; clear K2; have a0 := K.out.rd 0 rfl; have l0 := K.out.ltp 0 rfl) | (go_at_call 24; (with_reducible refine ((S _ (show sat E _ _ from by iterate 6 (try (with_reducible first | exact K.out | apply sat.alloc_any | apply sat.drew | apply sat.drewN))).swap).out).mono ?_); rintro e w1 ⟨rfl, K1⟩; replace K1 := K1.swap; have K2 := Lib.hid K1; clear K1 K; (try clear a0); (try clear l0); (try clear a1); (try clear l1); (try clear a2); (try clear l2); have K := K2; clear K2; have a0 := K.out.rd 0 rfl; have l0 := K.out.ltp 0 rfl))
      go_wp2
      (first | go_end0 | ((try simp only [Exit.inBlock, Exit.then]); refine bodyPost_ret (results_none rfl _ _ _) rfl ?_))
      exact ⟨rfl, K.out⟩
end
end Go.Proofs.Ytdhcomklmckhoaa
