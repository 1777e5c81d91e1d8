/- The example that stands ahead of each statement of task (head). No condition. -/
import Derived.Test.YtlnfbfnccefcnaaTaskR
import Derived.Test.YtlnfbfnccefcnaaMemN
namespace Go.Proofs.Ytlnfbfnccefcnaa
open Go.RowKit Go.SepYtlnfbfnccefcnaa
set_option linter.unusedSimpArgs false
set_option linter.unusedVariables false
set_option maxRecDepth 100000
set_option maxHeartbeats 4000000
def TaskM.runT (t : TaskM) (m : MemM) : Nat → TaskM × MemM
  | 0 => (t, m)
  | n + 1 => (TaskM.runT t m n).1.step (TaskM.runT t m n).2 n
structure TaskM.RunT (c : ConfM) (who : Int) (m : MemM) (j : Nat) (r : TaskM × MemM) : Prop where
  okn : r.1.okn c who j
  wf : r.2.wf
  log : r.2.log.length ≤ m.log.length + j
  len : r.2.cells.length = m.cells.length
theorem TaskM.runT_ok {c : ConfM} {who : Int} {t : TaskM} {m : MemM} (h : t.okn c who 0) (hm : m.wf) : ∀ j : Nat, j ≤ 100000 → TaskM.RunT c who m j (TaskM.runT t m j)
  | 0, _ => ⟨h, hm, Nat.le_refl _, rfl⟩
  | j + 1, hj => by
    have a := TaskM.runT_ok h hm j (by omega)
    obtain ⟨s1, s2, s3⟩ := TaskM.step_okn (now := (j : Int)) a.okn (by omega) (by omega) a.wf (by omega)
    have g1 := s3.len
    have g3 := s3.log
    have hl := a.log
    exact ⟨by rw [show (((j + 1 : Nat) : Int)) = (j : Int) + 1 by omega]; exact s1, s3.wf a.wf, by show ((TaskM.runT t m j).1.step (TaskM.runT t m j).2 j).2.log.length ≤ _; omega, g1.trans a.len⟩
section
variable {E w : World} {L : List SA}
theorem runT_step {c : ConfM} {who : Int} {t : TaskM} {m : MemM} (h : t.okn c who 0) (hm : m.wf) (hl : m.log.length ≤ 100000) (b bm j : Nat) (hj : j < 100000) (hs : sat E w (taskA b (TaskM.runT t m j).1 :: memA bm (TaskM.runT t m j).2 :: L)) :
    Calls Try.prog 49 #[.pointer (some ⟨b, 0, none⟩), .pointer (some ⟨bm, 0, none⟩), .int .i64 j] w fun e w' => e = .returned (.bool (TaskM.runT t m (j + 1)).1.over) ∧ sat E w' (taskA b (TaskM.runT t m (j + 1)).1 :: memA bm (TaskM.runT t m (j + 1)).2 :: L) := by
  have a := TaskM.runT_ok h hm j (by omega)
  have hlog := a.log
  exact kstep2_calls b bm _ _ j (a.okn.work.ok (by omega)) (by omega) hs
end
abbrev confT : ConfM := ⟨1, 1, 0, 0⟩
theorem confT_ok : confT.ok := by constructor <;> decide
abbrev taskH : TaskM := TaskM.new confT 0 ⟨0, 0, 7, 0⟩
theorem headT_facts : (∀ j : Nat, j < 4 → (TaskM.runT taskH (MemM.new 4) j).1.over = false) ∧ (TaskM.runT taskH (MemM.new 4) 4).1.over = true ∧ (TaskM.runT taskH (MemM.new 4) 4).1.reply = ⟨true, 0, ⟨0, 0⟩⟩ ∧ (TaskM.runT taskH (MemM.new 4) 4).2.peek 1 = 7 := by decide
theorem taskH_okn : taskH.okn confT 0 0 := TaskM.new_okn confT_ok (by decide) (by decide) (by unfold CallM.wf; decide)
theorem head12_calls (E : World) : Tells 44 #[] E (.bool true) := by
  have K := Lib.hid (sat.start E)
  have HF := Lib.hid headT_facts
  have CN := fun w => Lib.hid (cellsn_calls confT w confT_ok)
  rw [show confT.cells = 4 by decide] at CN
  have MN := fun w' (L : List SA) (h : sat E w' L) => Lib.hid (memnew_calls 4 (by decide) h)
  rw [show ((4 : Nat) : Int) = 4 from rfl] at MN
  have TN := fun w' (L : List SA) (h : sat E w' L) => Lib.hid (tnew_calls confT confT_ok 0 ⟨0, 0, 7, 0⟩ h)
  have V0 := fun w => Lib.hid (value_calls confT w confT_ok 0 (by decide) (by decide))
  rw [show confT.value 0 = 1 by decide] at V0
  go_enter Try.func44, Try.ntmps44
  go_wp2_with fail
  have K1 := K.out.alloc (.cells #[.int .i64 1, .int .i64 1, .int .i64 0, .int .i64 0] 27)
  obtain ⟨gc, hgc⟩ : ∃ g, g = E.heap.size := ⟨_, rfl⟩
  rw [← hgc] at K1 ⊢
  clear K hgc
  have K := Lib.hid K1
  clear K1
  have a0 := K.out.rd 0 rfl; have l0 := K.out.ltp 0 rfl
  go_wp2_with (first | (go_at_call 46; (with_reducible refine ((CN _).out).mono ?_); rintro e w1 ⟨rfl, hb⟩; have K1 := sat.grown (by repeat (with_reducible first | exact K.out | apply sat.alloc_any | apply sat.drew | apply sat.drewN)) hb; clear hb; have K2 := Lib.hid K1; clear K1 K; (try clear a0); (try clear l0); (try clear a1); (try clear l1); (try clear a2); (try clear l2); have K := K2; clear K2; have a0 := K.out.rd 0 rfl; have l0 := K.out.ltp 0 rfl) | (go_at_call 45; (with_reducible refine ((MN _ _ (show sat E _ _ from by iterate 6 (try (with_reducible first | exact K.out | apply sat.alloc_any | apply sat.drew | apply sat.drewN)))).out).mono ?_); rintro e w1 ⟨gm, rfl, K1⟩; have K2 := Lib.hid K1; clear K1 K; (try clear a0); (try clear l0); (try clear a1); (try clear l1); (try clear a2); (try clear l2); have K := K2; clear K2; have a1 := K.out.rd 1 rfl; have l1 := K.out.ltp 1 rfl) | (go_at_call 47; (with_reducible refine ((TN _ _ (show sat E _ _ from by iterate 6 (try (with_reducible first | exact K.out | apply sat.alloc_any | apply sat.drew | apply sat.drewN)))).out).mono ?_); rintro e w1 ⟨gtk, rfl, K1⟩; have K2 := Lib.hid K1; clear K1 K; (try clear a0); (try clear l0); (try clear a1); (try clear l1); (try clear a2); (try clear l2); have K := K2; clear K2; have a2 := K.out.rd 2 rfl; have l2 := K.out.ltp 2 rfl))
  have K1 : sat E _ [taskA gtk (TaskM.runT taskH (MemM.new 4) 0).1, memA gm (TaskM.runT taskH (MemM.new 4) 0).2, pt gc (.cells #[.int .i64 1, .int .i64 1, .int .i64 0, .int .i64 0] 27 (0, 0))] := K.out
  clear K
  have K := Lib.hid K1
  clear K1
  have ST := fun w' b bm j (M : List SA) (hj : j < 100) (h : sat E w' (taskA b (TaskM.runT taskH (MemM.new 4) j).1 :: memA bm (TaskM.runT taskH (MemM.new 4) j).2 :: M)) => Lib.hid (runT_step taskH_okn (MemM.new_wf 4) (by decide) b bm j (by omega) h)
  generalize TaskM.runT taskH (MemM.new 4) = R at *
  go_loopg [4] 4 (fun GG i w' => ∃ j : Nat, j + GG = 4 ∧ i = .int .i64 j ∧ sat E w' [taskA gtk (R j).1, memA gm (R j).2, pt gc (.cells #[.int .i64 1, .int .i64 1, .int .i64 0, .int .i64 0] 27 (0, 0))])
  case atStart => exact ⟨0, by simp, rfl, K.out⟩
  case round =>
    obtain ⟨j, hj, rfl, hs⟩ := hrel
    clear K
    have K := Lib.hid hs
    clear hs
    have a2 := K.out.rd 2 rfl
    have l2 := K.out.ltp 2 rfl
    have OV := fun w' (M : List SA) (h : sat E w' (taskA gtk (R j).1 :: M)) => Lib.hid (kover_calls gtk (R j).1 h)
    have HJ := Lib.hid hj
    rcases Nat.lt_or_ge j 4 with q | q
    · rw [HF.out.1 j q] at OV
      have S1 := fun w' (M : List SA) (h : sat E w' (taskA gtk (R j).1 :: memA gm (R j).2 :: M)) => ST w' gtk gm j M (by omega) h
      have q9 : decide ((j : Int) < 9) = true := by simp; omega
      obtain ⟨gq, rfl⟩ : ∃ g', gk = g' + 1 := ⟨gk - 1, by have := HJ.out; omega⟩
      clear hj
      go_wp2_with (first | (go_at_call 52; (with_reducible refine (OV _ _ K.out).out.mono ?_); rintro e w1 ⟨rfl, rfl⟩) | (go_at_call 49; (with_reducible refine ((S1 _ _ (show sat E _ _ from by iterate 6 (try (with_reducible first | exact K.out | apply sat.alloc_any | apply sat.drew | apply sat.drewN)))).out).mono ?_); rintro e w1 ⟨rfl, K1⟩; have K2 := Lib.hid K1; clear K1 K; (try clear a0); (try clear l0); (try clear a1); (try clear l1); (try clear a2); (try clear l2); have K := K2; clear K2; have a2 := K.out.rd 2 rfl; have l2 := K.out.ltp 2 rfl))
      go_roundg gq
      case measure => omega
      case rel => exact ⟨j + 1, by have := HJ.out; omega, by simp, K.out⟩
    · obtain rfl : j = 4 := by omega
      rw [HF.out.2.1] at OV
      have RP := fun w' (M : List SA) (h : sat E w' (taskA gtk (R 4).1 :: M)) => Lib.hid (kreply_calls gtk (R 4).1 h)
      rw [HF.out.2.2.1] at RP
      have PK := fun w' (M : List SA) (h : sat E w' (memA gm (R 4).2 :: M)) => Lib.hid (peek_calls gm (R 4).2 1 h)
      rw [HF.out.2.2.2] at PK
      clear hj q
      go_wp2_with (first | (go_at_call 52; (with_reducible refine (OV _ _ K.out).out.mono ?_); rintro e w1 ⟨rfl, rfl⟩) | (go_at_call 50; (with_reducible refine ((RP _ _ (show sat E _ _ from by iterate 6 (try (with_reducible first | exact K.out | apply sat.alloc_any | apply sat.drew | apply sat.drewN)))).out).mono ?_); rintro e w1 ⟨rfl, K1⟩; have K2 := Lib.hid K1; clear K1 K; (try clear a0); (try clear l0); (try clear a1); (try clear l1); (try clear a2); (try clear l2); have K := K2; clear K2; have a2 := K.out.rd 2 rfl; have l2 := K.out.ltp 2 rfl) | (go_at_call 25; (with_reducible refine ((V0 _).out).mono ?_); rintro e w1 ⟨rfl, hb⟩; have K1 := sat.grown (by repeat (with_reducible first | exact K.out | apply sat.alloc_any | apply sat.drew | apply sat.drewN)) hb; clear hb; have K2 := Lib.hid K1; clear K1 K; (try clear a0); (try clear l0); (try clear a1); (try clear l1); (try clear a2); (try clear l2); have K := K2; clear K2; have a2 := K.out.rd 2 rfl; have l2 := K.out.ltp 2 rfl) | (go_at_call 24; (with_reducible refine (PK _ _ (K.out.pick 1 rfl)).out.mono ?_); rintro e w1 ⟨rfl, rfl⟩))
      go_ret
      exact ⟨rfl, K.out.below⟩
end Go.Proofs.Ytlnfbfnccefcnaa
