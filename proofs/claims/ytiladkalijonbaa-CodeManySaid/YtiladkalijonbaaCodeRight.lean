/- Can a move be written, as the statements of code say it (right). No condition. -/
import Derived.Test.YtiladkalijonbaaCodeDec
import Derived.Test.YtiladkalijonbaaCodeKit
namespace Go.Proofs.Ytiladkalijonbaa
open Go.RowKit Go.SepYtiladkalijonbaa
open Go.Proofs.Ytiladkalijonbaa.PCodeCuts
set_option linter.unusedSimpArgs false
set_option linter.unusedVariables false
set_option maxRecDepth 100000
set_option maxHeartbeats 4000000
def rightP (m : S40) : Prop :=
  (m.f0 = 0 ∧ 0 ≤ m.f1 ∧ m.f1 < 64 ∧ m.f3 = 0 ∧ (m.f2.f1 = 0 ∨ m.f2.f1 = 1) ∧ ((m.f2.f0 = 0 ∧ m.f2.f3 = 0) ∨ (m.f2.f0 = 1 ∧ m.f2.f2 = 0 ∧ 0 ≤ m.f2.f3 ∧ m.f2.f3 < 256))) ∨
  (m.f0 = 1 ∧ 0 ≤ m.f1 ∧ m.f1 < 64 ∧ m.f3 = 0 ∧ m.f2.f0 = 0 ∧ m.f2.f1 = 0 ∧ m.f2.f2 = 0 ∧ m.f2.f3 = 0) ∨ (m.f0 = 2 ∧ m.f1 = 0 ∧ m.f2.f0 = 0 ∧ m.f2.f1 = 0 ∧ m.f2.f2 = 0 ∧ m.f2.f3 = 0 ∧ 1 ≤ m.f3 ∧ m.f3 < 65536)
theorem rightM_iff (m : S40) : rightM m = true ↔ rightP m := by
  constructor
  · intro h
    have := right_facts m h
    unfold rightP
    rcases this with h | ⟨h1, h2, h3, h4, h5⟩ | ⟨h1, h2, h3, h4⟩
    · exact .inl h
    · rw [h5]; exact .inr (.inl ⟨h1, h2, h3, h4, rfl, rfl, rfl, rfl⟩)
    · rw [h3]; exact .inr (.inr ⟨h1, h2, rfl, rfl, rfl, rfl, h4⟩)
  · intro h
    have h5 := right_f m (Nat.le_refl 5)
    obtain ⟨k, who, ⟨ck, ce, cv, cs⟩, n⟩ := m
    unfold rightP at h
    dsimp only at h h5
    rcases h with ⟨rfl, h1, h2, rfl, he, ⟨rfl, rfl⟩ | ⟨rfl, rfl, h6, h7⟩⟩ | ⟨rfl, h1, h2, rfl, rfl, rfl, rfl, rfl⟩ | ⟨rfl, rfl, rfl, rfl, rfl, rfl, h1, h2⟩
    · rcases he with rfl | rfl <;> (simp [code_Move_Right.f, code_Move_Right.j0, task_Call_Right.f, h1, h2] at h5; exact h5.symm ▸ rfl)
    · rcases he with rfl | rfl <;> (simp [code_Move_Right.f, code_Move_Right.j0, task_Call_Right.f, h1, h2, h6, h7] at h5; exact h5.symm ▸ rfl)
    · simp [code_Move_Right.f, code_Move_Right.j0, task_Call_Right.f, h1, h2] at h5; exact h5.symm ▸ rfl
    · simp [code_Move_Right.f, code_Move_Right.j0, task_Call_Right.f, h1, h2] at h5; exact h5.symm ▸ rfl
theorem lright_calls (m : S40) (w : World) : Tells 20 #[.agg (moveC m).toArray] w (.bool (rightM m)) := by
  obtain ⟨k, who, ⟨ck, ce, cv, cs⟩, n⟩ := m
  have hm := rightM_iff ⟨k, who, ⟨ck, ce, cv, cs⟩, n⟩
  unfold rightP at hm
  dsimp only at hm
  generalize rightM ⟨k, who, ⟨ck, ce, cv, cs⟩, n⟩ = r at *
  have HM := Lib.hid hm
  clear hm
  unfold moveC
  dsimp only
  go_enter Try.func20, Try.ntmps20
  go_wp2
  all_goals
    go_ret
    refine ⟨ret_b ?_, (show sat w _ _ from by repeat (first | exact sat.start w | apply sat.alloc_any | apply sat.drew | apply sat.drewN)).below⟩
    have hm := HM.out
    rw [Bool.eq_iff_iff, hm]
    clear hm HM
    simp only [beq_iff_eq, Bool.and_eq_true, Bool.or_eq_true, decide_eq_true_eq, beq_eq_false_iff_ne, ne_eq, decide_eq_false_iff_not, Bool.false_eq_true, reduceCtorEq, Bool.not_eq_true] at *
    first | omega | (simp_all; done) | (simp_all; omega)
end Go.Proofs.Ytiladkalijonbaa
