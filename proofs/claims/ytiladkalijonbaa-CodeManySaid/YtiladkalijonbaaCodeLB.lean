/- A move's bytes by the page (bytes of the statements of code), in plain Lean. No program. -/
import Derived.Test.YtiladkalijonbaaCodeDec2
import Derived.Test.YtiladkalijonbaaPCodeCutsx6
namespace Go.Proofs.Ytiladkalijonbaa
open Go.RowKit Go.Proofs.YtiladkalijonbaaW.PrintWords Go.Proofs.YtiladkalijonbaaW.PrintLast Go.Proofs.YtiladkalijonbaaW.PrintMore
open Go.Proofs.Ytiladkalijonbaa.PCodeCuts
set_option linter.unusedSimpArgs false
set_option linter.unusedVariables false
set_option maxRecDepth 100000
def digs (v : Int) : Nat → List Int
  | 0 => []
  | d + 1 => (Int.tmod v 256) % 256 :: digs (IntKind.u64.wrap (Int.tdiv v 256)) d
theorem digs_len : ∀ (d : Nat) (v : Int), (digs v d).length = d
  | 0, _ => rfl
  | d + 1, v => by simp [digs, digs_len d]
theorem lloop : ∀ (d k : Nat) (y : List Int) (v : Int), d ≤ 8 → y.length + d ≤ 100 → stackyardlaw18_bytes.l0 (d + 1 + k) y v (8 - (d : Int)) = some (y ++ digs v d)
  | 0, k, y, v, _, _ => by
    rw [show 0 + 1 + k = k + 1 by omega]
    unfold stackyardlaw18_bytes.l0
    rw [if_neg (by omega)]
    simp [digs]
  | d + 1, k, y, v, hd, hy => by
    rw [show d + 1 + 1 + k = (d + 1 + k) + 1 by omega]
    unfold stackyardlaw18_bytes.l0
    rw [if_pos (by omega), if_pos (by omega), w64e (by omega) (by omega), show (8 : Int) - ((d + 1 : Nat) : Int) + 1 = 8 - (d : Int) by omega]
    rw [lloop d k _ _ (by omega) (by simp; omega)]
    simp [digs]
theorem digs_eq (v : Int) (h : 0 ≤ v ∧ v < 18446744073709551616) : digs v 8 = valB v 8 := by
  have step : ∀ x : Int, 0 ≤ x → x < 18446744073709551616 → IntKind.u64.wrap (Int.tdiv x 256) = x / 256 := fun x h0 h1 => by
    rw [Int.tdiv_eq_ediv_of_nonneg h0, wrapU (by omega) (by omega)]
  have md : ∀ x : Int, 0 ≤ x → (Int.tmod x 256) % 256 = x % 256 := fun x h0 => by
    rw [Int.tmod_eq_emod_of_nonneg h0]; omega
  rw [valB_eq]
  simp only [digs]
  rw [step v h.1 h.2, step (v / 256) (by omega) (by omega), step (v / 256 / 256) (by omega) (by omega), step (v / 256 / 256 / 256) (by omega) (by omega), step (v / 256 / 256 / 256 / 256) (by omega) (by omega), step (v / 256 / 256 / 256 / 256 / 256) (by omega) (by omega), step (v / 256 / 256 / 256 / 256 / 256 / 256) (by omega) (by omega)]
  rw [md _ h.1, md _ (by omega), md _ (by omega), md _ (by omega), md _ (by omega), md _ (by omega), md _ (by omega), md _ (by omega)]
  simp only [List.cons.injEq, and_true]
  refine ⟨?_, ?_, ?_, ?_, ?_, ?_, ?_, ?_⟩ <;> (first | trivial | omega)
/-- A move's bytes, by the page. -/
def lbytesM (m : S40) : List Int :=
  if m.f0 = 1 then [1, m.f1 % 256] else if m.f0 = 2 then [2, (Int.tmod m.f3 256) % 256, (wrap64 (Int.tdiv m.f3 256)) % 256]
  else if m.f2.f0 = 1 then [0, m.f1 % 256, (if m.f2.f1 = 1 then wrap64 (1 + 2) else 1) % 256, m.f2.f3 % 256]
  else [0, m.f1 % 256, (if m.f2.f1 = 1 then wrap64 (0 + 2) else 0) % 256] ++ digs m.f2.f2 8
theorem lbytes_f (m : S40) {k : Nat} (hk : 20 ≤ k) : stackyardlaw18_bytes.f k m.f0 m.f1 m.f2.f0 m.f2.f1 m.f2.f2 m.f2.f3 m.f3 = some (lbytesM m) := by
  obtain ⟨j, rfl⟩ := Nat.exists_eq_add_of_le hk
  unfold stackyardlaw18_bytes.f lbytesM
  have J1 : ∀ x : Int, stackyardlaw18_bytes.j1 (18 + j) x m.f0 m.f1 m.f2.f0 m.f2.f1 m.f2.f2 m.f2.f3 m.f3 = some (if m.f2.f0 = 1 then [0, m.f1 % 256, x % 256, m.f2.f3 % 256] else [0, m.f1 % 256, x % 256] ++ digs m.f2.f2 8) := fun x => by
    rw [show 18 + j = (17 + j) + 1 by omega, stackyardlaw18_bytes.j1, Option.bind_some]
    split
    · rw [if_pos (by simp)]; simp
    · have := lloop 8 (8 + j) [0, m.f1 % 256, x % 256] m.f2.f2 (by omega) (by simp)
      rw [show 8 + 1 + (8 + j) = 17 + j by omega] at this
      exact this
  have J0 : ∀ x : Int, stackyardlaw18_bytes.j0 (20 + j) x m.f0 m.f1 m.f2.f0 m.f2.f1 m.f2.f2 m.f2.f3 m.f3 = some (if m.f2.f0 = 1 then [0, m.f1 % 256, (if m.f2.f1 = 1 then wrap64 (x + 2) else x) % 256, m.f2.f3 % 256] else [0, m.f1 % 256, (if m.f2.f1 = 1 then wrap64 (x + 2) else x) % 256] ++ digs m.f2.f2 8) := fun x => by
    have e : stackyardlaw18_bytes.j0 (19 + j) x m.f0 m.f1 m.f2.f0 m.f2.f1 m.f2.f2 m.f2.f3 m.f3 = some (if m.f2.f0 = 1 then [0, m.f1 % 256, (if m.f2.f1 = 1 then wrap64 (x + 2) else x) % 256, m.f2.f3 % 256] else [0, m.f1 % 256, (if m.f2.f1 = 1 then wrap64 (x + 2) else x) % 256] ++ digs m.f2.f2 8) := by
      rw [show 19 + j = (18 + j) + 1 by omega, stackyardlaw18_bytes.j0]
      split
      · rw [J1]
      · rw [J1]
    rw [show 20 + j = (19 + j) + 1 by omega]
    exact (stackyardlaw18_bytes.mono_l (19 + j)).1 _ _ _ _ _ _ _ _ _ e
  by_cases h1 : m.f0 = 1
  · rw [if_pos h1, if_pos h1]
  · rw [if_neg h1, if_neg h1]
    by_cases h2 : m.f0 = 2
    · rw [if_pos h2, if_pos h2]
    · rw [if_neg h2, if_neg h2]
      by_cases h3 : m.f2.f0 = 1
      · rw [if_pos h3, J0, if_pos h3, if_pos h3]
      · rw [if_neg h3, J0, if_neg h3, if_neg h3]
theorem lbytesM_len (m : S40) : (lbytesM m).length ≤ 11 := by
  unfold lbytesM
  repeat' split
  all_goals simp [digs_len]
theorem lbytes_eq (m : S40) (hr : rightM m = true) (hv : okV m) : lbytesM m = bytesM m := by
  obtain ⟨k, who, ⟨ck, ce, cv, cs⟩, n⟩ := m
  have hf := right_facts _ hr
  simp only [S38.mk.injEq] at hf
  unfold okV at hv
  dsimp only at hv
  unfold lbytesM bytesM flagsM
  dsimp only
  rcases hf with ⟨rfl, h1, h2, rfl, he, h4⟩ | ⟨rfl, h1, h2, rfl, rfl, rfl, rfl, rfl⟩ | ⟨rfl, rfl, ⟨rfl, rfl, rfl, rfl⟩, h1, h2⟩
  · rcases h4 with ⟨rfl, rfl⟩ | ⟨rfl, rfl, h5, h6⟩
    · have fl := flags_eq 0 ce (.inl rfl) he
      rw [fl, digs_eq cv hv]
      rcases he with rfl | rfl <;> (simp [wrap64])
    · have fl := flags_eq 1 ce (.inr rfl) he
      rw [fl]
      rcases he with rfl | rfl <;> (simp [wrap64])
  · rfl
  · rw [if_neg (by decide), if_pos rfl, if_neg (by decide), if_pos rfl, Int.tmod_eq_emod_of_nonneg (by omega), Int.tdiv_eq_ediv_of_nonneg (by omega), w64e (by omega) (by omega)]
    simp
end Go.Proofs.Ytiladkalijonbaa
