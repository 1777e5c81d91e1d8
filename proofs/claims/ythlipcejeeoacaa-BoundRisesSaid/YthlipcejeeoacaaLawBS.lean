/- BoundSums' calls: the numbers of any layout. -/
import Derived.Test.YthlipcejeeoacaaPBoundSumsx2
import Derived.Test.YthlipcejeeoacaaFlat
namespace Go.Proofs.Ythlipcejeeoacaa.BS
open Go.RowKit Go.SepYthlipcejeeoacaa Go.Proofs.Ythlipcejeeoacaa.PBoundSums Go.Proofs.YthlipcejeeoacaaW.PrintWords Go.Proofs.YthlipcejeeoacaaW.PrintLast Go.Proofs.YthlipcejeeoacaaW.PrintMore
theorem w64 {x : Int} (h : -9223372036854775808 ≤ x) (h' : x < 9223372036854775808) : wrap64 x = x := by unfold wrap64; omega
theorem head_true : stackyardlaw16_head.f 9 = some true := by decide +kernel
theorem right_bd {a b c d : Int} (h : lay_Conf_Right.f a b c d = some true) : 1 ≤ a ∧ a ≤ 64 ∧ 1 ≤ b ∧ b ≤ 64 ∧ 0 ≤ c ∧ c ≤ 4 ∧ 0 ≤ d ∧ d ≤ 100 := by
  unfold lay_Conf_Right.f at h
  (repeat' split at h) <;> simp_all
theorem right_some (a b c d : Int) : ∃ r, lay_Conf_Right.f a b c d = some r := by
  unfold lay_Conf_Right.f
  (repeat' split) <;> exact ⟨_, rfl⟩
theorem mul_bd {a b A B : Int} (h1 : 1 ≤ a) (h2 : a ≤ A) (h3 : 1 ≤ b) (h4 : b ≤ B) : 1 ≤ a * b ∧ a * b ≤ A * B := by
  constructor
  · have := Int.mul_le_mul h1 h3 (by omega) (by omega); omega
  · exact Int.mul_le_mul h2 h4 (by omega) (by omega)
theorem get_val {a b c d t : Int} (h1 : 1 ≤ a) (h2 : a ≤ 64) (h3 : 1 ≤ b) (h4 : b ≤ 64) (ht : t ≤ 1000000) : bound_Get.f a b c d t = some ((mx t 0 + 1) * (4 * (a * b) + 10)) := by
  have p := mul_bd h1 h2 h3 h4
  unfold bound_Get.f lay_Conf_All.f
  have hm : 0 ≤ mx t 0 ∧ mx t 0 ≤ 1000000 := by unfold mx; split <;> omega
  generalize mx t 0 = m at *
  generalize a * b = n at *
  have q := mul_bd (a := m + 1) (b := 4 * n + 10) (A := 1000001) (B := 16394) (by omega) (by omega) (by omega) (by omega)
  simp only [Option.bind_some]
  rw [w64 (x := n) (by omega) (by omega), w64 (x := 4 * n) (by omega) (by omega), w64 (x := 4 * n + 10) (by omega) (by omega), w64 (x := m + 1) (by omega) (by omega), w64 (by omega) (by omega)]
def src (a c d : Int) : Int := if c = 1 then a + 1 else if c = 2 then 4 else if c = 4 then d + 2 else 1
theorem put_val {a b c d : Int} (h1 : 1 ≤ a) (h2 : a ≤ 64) (h3 : 1 ≤ b) (h4 : b ≤ 64) (h5 : 0 ≤ d) (h6 : d ≤ 100) : bound_Put.f a b c d = some (b * (a + 1) + src a c d + 2) := by
  have p := mul_bd h3 h4 (b := a + 1) (B := 65) (by omega) (by omega)
  unfold bound_Put.f put_Most.f claim_Most.f tick_Most.f src
  simp only [Option.bind_some]
  rw [w64 (x := a + 1) (by omega) (by omega)]
  generalize b * (a + 1) = n at *
  rw [w64 (x := n) (by omega) (by omega)]
  (repeat' split) <;> simp only [Option.bind_some] <;> (congr 1; unfold wrap64; omega)
theorem src_bd {a c d : Int} (h1 : 1 ≤ a) (h2 : a ≤ 64) (h5 : 0 ≤ d) (h6 : d ≤ 100) : 1 ≤ src a c d ∧ src a c d ≤ 102 := by
  unfold src; (repeat' split) <;> omega
theorem win_val {a b c d : Int} (h1 : 1 ≤ a) (h2 : a ≤ 64) (h3 : 1 ≤ b) (h4 : b ≤ 64) (h5 : 0 ≤ d) (h6 : d ≤ 100) :
    bound_Window.f a b c d = some (a * mx (b * (a + 1) + src a c d + 2) ((a + 1) * (4 * (a * b) + 10)) + 1) := by
  have p := mul_bd h3 h4 (b := a + 1) (B := 65) (by omega) (by omega)
  have q := mul_bd h1 h2 h3 h4
  have q2 := mul_bd (a := a + 1) (b := 4 * (a * b) + 10) (A := 65) (B := 16394) (by omega) (by omega) (by omega) (by omega)
  have s := src_bd (c := c) h1 h2 h5 h6
  unfold bound_Window.f
  rw [put_val h1 h2 h3 h4 h5 h6, get_val h1 h2 h3 h4 (by omega)]
  simp only [Option.bind_some]
  rw [show mx a 0 = a from by unfold mx; split <;> omega]
  have hm : 1 ≤ mx (b * (a + 1) + src a c d + 2) ((a + 1) * (4 * (a * b) + 10)) ∧ mx (b * (a + 1) + src a c d + 2) ((a + 1) * (4 * (a * b) + 10)) ≤ 2000000 := by unfold mx; split <;> omega
  generalize mx (b * (a + 1) + src a c d + 2) ((a + 1) * (4 * (a * b) + 10)) = m at *
  have r := mul_bd h1 h2 hm.1 hm.2
  rw [w64 (x := a * m) (by omega) (by omega), w64 (by omega) (by omega)]
theorem law (a b c d t : Int) : stackyardlaw16_BoundSums.f 9 a b c d t = some true := by
  unfold stackyardlaw16_BoundSums.f
  rw [head_true]
  simp only [Option.bind_some, if_true]
  obtain ⟨r, hr⟩ := right_some a b c d
  rw [hr]
  simp only [Option.bind_some]
  cases r with
  | false => simp [stackyardlaw16_BoundSums.j0]
  | true =>
    obtain ⟨h1, h2, h3, h4, h5, h6, h7, h8⟩ := right_bd hr
    simp only [if_true]
    rw [stackyardlaw16_BoundSums.j0]
    by_cases ht : t > 1000000
    · simp [ht]
    · rw [if_neg (by simpa using ht)]
      have p := mul_bd h3 h4 (b := a + 1) (B := 65) (by omega) (by omega)
      have q := mul_bd h1 h2 h3 h4
      have q2 := mul_bd (a := a + 1) (b := 4 * (a * b) + 10) (A := 65) (B := 16394) (by omega) (by omega) (by omega) (by omega)
      have s := src_bd (c := c) h1 h2 h7 h8
      have hsrc : rd [1, wrap64 (a + 1), 4, 1, wrap64 (d + 2)] c = src a c d := by
        rw [w64 (by omega) (by omega), w64 (by omega) (by omega)]
        have : c = 0 ∨ c = 1 ∨ c = 2 ∨ c = 3 ∨ c = 4 := by omega
        rcases this with rfl | rfl | rfl | rfl | rfl <;> simp [rd, src]
      simp only [Option.bind_some]
      rw [if_pos (by omega), if_pos (by simp; omega), hsrc]
      have hlong : wrap64 (wrap64 (a + 1) * wrap64 (wrap64 (4 * wrap64 (a * b)) + 10)) = (a + 1) * (4 * (a * b) + 10) := by
        rw [w64 (x := a * b) (by omega) (by omega), w64 (x := 4 * (a * b)) (by omega) (by omega), w64 (x := 4 * (a * b) + 10) (by omega) (by omega), w64 (x := a + 1) (by omega) (by omega), w64 (by omega) (by omega)]
      have hput : wrap64 (wrap64 (wrap64 (b * wrap64 (a + 1)) + src a c d) + 2) = b * (a + 1) + src a c d + 2 := by
        rw [w64 (x := a + 1) (by omega) (by omega), w64 (x := b * (a + 1)) (by omega) (by omega), w64 (x := b * (a + 1) + src a c d) (by omega) (by omega), w64 (by omega) (by omega)]
      have hw : ∀ m : Int, 1 ≤ m → m ≤ 2000000 → wrap64 (wrap64 (a * m) + 1) = a * m + 1 := fun m m1 m2 => by
        have r := mul_bd h1 h2 m1 m2
        rw [w64 (x := a * m) (by omega) (by omega), w64 (by omega) (by omega)]
      have key : ∀ x8 : Int, x8 = (mx t 0 + 1) * (4 * (a * b) + 10) →
          stackyardlaw16_BoundSums.j1 8 t (wrap64 (a * b)) (wrap64 (wrap64 (wrap64 (b * wrap64 (a + 1)) + src a c d) + 2)) x8 a b c d = some true := by
        intro x8 hx8
        rw [stackyardlaw16_BoundSums.j1, hput, hlong]
        have hfin : ∀ x9, x9 = mx (b * (a + 1) + src a c d + 2) ((a + 1) * (4 * (a * b) + 10)) → stackyardlaw16_BoundSums.j2 7 t (b * (a + 1) + src a c d + 2) x8 x9 a b c d = some true := by
          intro x9 hx9
          have hm : 1 ≤ x9 ∧ x9 ≤ 2000000 := by rw [hx9]; unfold mx; split <;> omega
          rw [stackyardlaw16_BoundSums.j2, put_val h1 h2 h3 h4 h7 h8, get_val h1 h2 h3 h4 (by omega), win_val h1 h2 h3 h4 h7 h8, hw x9 hm.1 hm.2, ← hx9, ← hx8]
          simp [bound_Room.f]
        by_cases c1 : b * (a + 1) + src a c d + 2 > (a + 1) * (4 * (a * b) + 10)
        · rw [if_pos c1]; exact hfin _ (by unfold mx; rw [if_neg (by omega)])
        · rw [if_neg c1]
          by_cases c2 : b * (a + 1) + src a c d + 2 < (a + 1) * (4 * (a * b) + 10)
          · exact hfin _ (by unfold mx; rw [if_pos c2])
          · exact hfin _ (by unfold mx; rw [if_neg c2]; omega)
      by_cases t0 : t > 0
      · rw [if_pos t0]
        refine key _ ?_
        rw [w64 (x := a * b) (by omega) (by omega), w64 (x := 4 * (a * b)) (by omega) (by omega), w64 (x := 4 * (a * b) + 10) (by omega) (by omega), w64 (x := t + 1) (by omega) (by omega)]
        have r := mul_bd (a := t + 1) (b := 4 * (a * b) + 10) (A := 1000001) (B := 16394) (by omega) (by omega) (by omega) (by omega)
        rw [w64 (by omega) (by omega), show mx t 0 = t from by unfold mx; rw [if_neg (by omega)]]
      · rw [if_neg t0]
        refine key _ ?_
        rw [w64 (x := a * b) (by omega) (by omega), w64 (x := 4 * (a * b)) (by omega) (by omega), w64 (x := 4 * (a * b) + 10) (by omega) (by omega)]
        rw [show mx t 0 = 0 from by unfold mx; split <;> omega]
        omega
end Go.Proofs.Ythlipcejeeoacaa.BS
namespace Go.Proofs.Ythlipcejeeoacaa
open Go.RowKit Go.SepYthlipcejeeoacaa Go.Proofs.Ythlipcejeeoacaa.PBoundSums
abbrev ConfK : List FK := [FK.int .i64, FK.int .i64, FK.int .i64, FK.int .i64]
theorem conf_open {cs : List Value} (h : okAll ConfK cs) : ∃ a b c d : Int, cs = [.int .i64 a, .int .i64 b, .int .i64 c, .int .i64 d] := by
  obtain ⟨a, v0, rfl, _, h0⟩ := okAll_int h
  obtain ⟨b, v1, rfl, _, h1⟩ := okAll_int h0
  obtain ⟨c, v2, rfl, _, h2⟩ := okAll_int h1
  obtain ⟨d, v3, rfl, _, h3⟩ := okAll_int h2
  obtain rfl := okAll_nil h3
  exact ⟨a, b, c, d, rfl⟩
theorem boundSums_calls (W : World) (cs : List Value) (h : okAll ConfK cs) (t : Int) (_ht : (Lit.int .i64 t).wf = true) :
    Calls Try.prog 7 #[.agg cs.toArray, .int .i64 t] W fun e W' => e = .returned (.bool true) ∧ Below W.heap.size W W' := by
  obtain ⟨a, b, c, d, rfl⟩ := conf_open h
  exact stackyardlaw16_BoundSums.calls 9 a b c d t true W (BS.law a b c d t)
end Go.Proofs.Ythlipcejeeoacaa
