/- A layout's numbers and a move's bytes are bytes; a script's bytes by the page are those of the program. Plain Lean; no program. -/
import Derived.Test.YtiladkalijonbaaCodeLB
namespace Go.Proofs.Ytiladkalijonbaa
open Go.RowKit
open Go.Proofs.Ytiladkalijonbaa.PCodeCuts
theorem valB_isB : ∀ (d : Nat) (v : Int), isB (valB v d)
  | 0, _ => fun x hx => by simp [valB] at hx
  | d + 1, v => fun x hx => by
    simp only [valB, List.mem_cons] at hx
    rcases hx with rfl | hx
    · omega
    · exact valB_isB d _ x hx
theorem bytesM_isB (m : S40) (hr : rightM m = true) : isB (bytesM m) := fun x hx => by
  have hf := right_facts m hr
  have h0 : m.f0 = 0 → 0 ≤ flagsM m ∧ flagsM m < 256 := fun h0 => by
    rcases hf with ⟨_, _, _, _, he, hk⟩ | ⟨h, _⟩ | ⟨h, _⟩
    · unfold flagsM
      rw [flags_eq m.f2.f0 m.f2.f1 (by omega) he]
      omega
    · omega
    · omega
  unfold bytesM at hx
  repeat' split at hx
  all_goals simp only [List.mem_cons, List.mem_append, List.not_mem_nil, or_false] at hx
  · omega
  · omega
  · rcases hx with (rfl | rfl | rfl) | hx
    · omega
    · omega
    · exact h0 (by omega)
    · exact valB_isB 8 _ x hx
  · rcases hx with rfl | rfl | rfl | rfl
    · omega
    · omega
    · exact h0 (by omega)
    · omega
theorem movesB_isB (ms : List S40) (h : ∀ m ∈ ms, rightM m = true) : isB (movesB ms) := fun x hx => by
  obtain ⟨m, hm, hx⟩ := List.mem_flatMap.1 hx
  exact bytesM_isB m (h m hm) x hx
theorem conf_bd (a b c d : Int) (h : confR a b c d = true) : (0 ≤ a ∧ a < 256) ∧ (0 ≤ b ∧ b < 256) ∧ (0 ≤ c ∧ c < 256) ∧ (0 ≤ d ∧ d < 256) := by
  unfold confR lay_Conf_Right.f at h
  repeat' split at h
  all_goals simp at h
  omega
theorem allR_mem {ms : List S40} (h : allR ms = true) : ∀ m ∈ ms, rightM m = true := by
  unfold allR at h
  rw [List.all_eq_true] at h
  exact h
theorem page_eq : ∀ (ms : List S40), (∀ m ∈ ms, rightM m = true ∧ okV m) → ms.flatMap lbytesM = movesB ms
  | [], _ => rfl
  | m :: ms, h => by
    unfold movesB
    rw [List.flatMap_cons, List.flatMap_cons, lbytes_eq m (h m List.mem_cons_self).1 (h m List.mem_cons_self).2, page_eq ms (fun x hx => h x (List.mem_cons_of_mem _ hx))]
    rfl
end Go.Proofs.Ytiladkalijonbaa
