/- Whether a layout is Right, as the program reckons it. No condition. -/
import Derived.Test.YtlnfbfnccefcnaaGreatLay
namespace Go.Proofs.YtlnfbfnccefcnaaGreat
open Go.RowKit Go.SepYtlnfbfnccefcnaaGreat
set_option linter.unusedSimpArgs false
set_option linter.unusedVariables false
set_option maxRecDepth 100000
section
variable (c : ConfM) (w : World)
theorem right_calls : Tells 11 #[.agg #[.int .i64 c.th, .int .i64 c.sl, .int .i64 c.src, .int .i64 c.dl]] w (.bool c.right) := by
  unfold ConfM.right
  by_cases h1 : 1 ≤ c.th
  · by_cases h2 : c.th ≤ 64
    · by_cases h3 : 1 ≤ c.sl
      · by_cases h4 : c.sl ≤ 64
        · by_cases h5 : 0 ≤ c.src
          · by_cases h6 : c.src ≤ 4
            · by_cases h7 : 0 ≤ c.dl
              all_goals
                go_enter Tryz.func11, Tryz.ntmps11
                go_wp2
                go_ret
                exact ⟨ret_b (by (simp [*]) <;> (intros; omega)), (Below.refl _ _).alloc (Nat.le_refl _) _⟩
            · go_enter Tryz.func11, Tryz.ntmps11
              go_wp2
              go_ret
              exact ⟨ret_b (by (simp [*]) <;> (intros; omega)), (Below.refl _ _).alloc (Nat.le_refl _) _⟩
          · go_enter Tryz.func11, Tryz.ntmps11
            go_wp2
            go_ret
            exact ⟨ret_b (by (simp [*]) <;> (intros; omega)), (Below.refl _ _).alloc (Nat.le_refl _) _⟩
        · go_enter Tryz.func11, Tryz.ntmps11
          go_wp2
          go_ret
          exact ⟨ret_b (by (simp [*]) <;> (intros; omega)), (Below.refl _ _).alloc (Nat.le_refl _) _⟩
      · go_enter Tryz.func11, Tryz.ntmps11
        go_wp2
        go_ret
        exact ⟨ret_b (by (simp [*]) <;> (intros; omega)), (Below.refl _ _).alloc (Nat.le_refl _) _⟩
    · go_enter Tryz.func11, Tryz.ntmps11
      go_wp2
      go_ret
      exact ⟨ret_b (by (simp [*]) <;> (intros; omega)), (Below.refl _ _).alloc (Nat.le_refl _) _⟩
  · go_enter Tryz.func11, Tryz.ntmps11
    go_wp2
    go_ret
    exact ⟨ret_b (by (simp [*]) <;> (intros; omega)), (Below.refl _ _).alloc (Nat.le_refl _) _⟩
end
end Go.Proofs.YtlnfbfnccefcnaaGreat
