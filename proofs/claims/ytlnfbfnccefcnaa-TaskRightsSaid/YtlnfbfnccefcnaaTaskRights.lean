/- Which calls there may be (TaskRights answers true at every input). No condition beyond the row's own. -/
import Derived.Test.YtlnfbfnccefcnaaTaskH
namespace Go.Proofs.Ytlnfbfnccefcnaa
open Go.RowKit Go.SepYtlnfbfnccefcnaa
set_option linter.unusedSimpArgs false
set_option linter.unusedVariables false
set_option maxRecDepth 100000
set_option maxHeartbeats 4000000
theorem taskRights_calls (W : World) (k : Int) (_ : (Lit.int .i64 k).wf = true) (e : Int) (_ : (Lit.int .i64 e).wf = true) (v : Int) (_ : (Lit.int .u64 v).wf = true) (s : Int) (_ : (Lit.int .i64 s).wf = true) :
    Calls Try.prog 11 #[.int .i64 k, .int .i64 e, .int .u64 v, .int .i64 s] W fun r W' => r = .returned (.bool true) ∧ Below W.heap.size W W' := by
  have K := Lib.hid (sat.start W)
  have HD := fun w => Lib.hid (head12_calls w)
  have CR := fun w => Lib.hid (cright_calls ⟨k, e, v, s⟩ w)
  have hR : (⟨k, e, v, s⟩ : CallM).right = (decide (k ≥ 0) && decide (k ≤ 1) && decide (e ≥ 0) && decide (e ≤ 1)) := by
    unfold CallM.right
    rw [Bool.eq_iff_iff]
    simp only [Bool.and_eq_true, Bool.or_eq_true, decide_eq_true_eq]
    omega
  rw [hR] at CR
  clear hR
  cases h0 : decide (k ≥ 0) <;> cases h1 : decide (k ≤ 1) <;> cases h2 : decide (e ≥ 0) <;> cases h3 : decide (e ≤ 1)
  all_goals
    rw [h0, h1, h2, h3] at CR
    go_enter Try.func11, Try.ntmps11
    go_wp2_with (first | (go_at_call 44; (with_reducible refine ((HD _).out).mono ?_); rintro e w1 ⟨rfl, hb⟩; have K1 := sat.grown (by repeat (with_reducible first | exact K.out | apply sat.alloc_any | apply sat.drew | apply sat.drewN)) hb; clear hb; have K2 := Lib.hid K1; clear K1 K; (try clear a0); (try clear l0); (try clear a1); (try clear l1); (try clear a2); (try clear l2); have K := K2; clear K2) | ((with_reducible refine at_box ?_); refine st_boxf K.out rfl rfl (fun _ => rfl) ?_; intro g1 w1 K1; have K2 := Lib.hid K1; clear K1 K; (try clear a0); (try clear l0); (try clear a1); (try clear l1); (try clear a2); (try clear l2); have K := K2; clear K2; have a0 := K.out.rd 0 rfl; have l0 := K.out.ltp 0 rfl) | (go_at_call 53; (with_reducible refine ((CR _).out).mono ?_); rintro e w1 ⟨rfl, hb⟩; have K1 := sat.grown (by repeat (with_reducible first | exact K.out | apply sat.alloc_any | apply sat.drew | apply sat.drewN)) hb; clear hb; have K2 := Lib.hid K1; clear K1 K; (try clear a0); (try clear l0); (try clear a1); (try clear l1); (try clear a2); (try clear l2); have K := K2; clear K2))
    go_ret
    exact ⟨ret_b (by simp), K.out.below⟩
end Go.Proofs.Ytlnfbfnccefcnaa
