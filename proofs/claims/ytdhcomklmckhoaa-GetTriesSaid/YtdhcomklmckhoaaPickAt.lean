/- What stands at an end (pick.At). Conditions: words within their kind, at most a million of them. -/
import Derived.Test.YtdhcomklmckhoaaOrder
namespace Go.Proofs.Ytdhcomklmckhoaa
open Go.RowKit Go.SepYtdhcomklmckhoaa
set_option linter.unusedSimpArgs false
set_option linter.unusedVariables false
set_option maxRecDepth 100000
theorem at_calls (words : List Int) (p : Option Addr) (cap : Nat) (en : Int) (w : World) (hc : OldU w p words) (hwf : ∀ x ∈ words, 0 ≤ x ∧ x < 18446744073709551616) (hn : words.length ≤ 1000000) :
    Tells 59 #[.slice p words.length cap, .int .i64 en] w (.int .i64 (atM words en)) := by
  have O := fun w' (b : Below w.heap.size w w') => Lib.hid (order_any words p cap w' (hc.grown b) hwf hn)
  have K := Lib.hid (sat.start w)
  have q := orderM_len words
  clear hc hwf
  by_cases h : orderM words = []
  · rw [atM_nil en h]
    simp only [h, List.length_nil, List.map_nil] at O
    clear h
    go_enter Try.func59, Try.ntmps59
    go_wp2_with (go_at_call 72; (with_reducible refine (O _ K.out.below).out.mono ?_); rintro e w1 ⟨v, rfl, K1⟩; obtain ⟨p1, c1, rfl⟩ := row_any K1; have K2 := Lib.hid (K.out.join K1); clear K1 K; have K := K2; clear K2)
    go_ret
    exact ⟨rfl, K.out.below⟩
  · by_cases he : en = 0
    · subst he
      cases h' : orderM words with
      | nil => exact (h h').elim
      | cons a l =>
        rw [atM_left h']
        have hl : 0 < (orderM words).length := by rw [h']; simp
        have c0 : (((orderM words).length : Int) == 0) = false := by simp; omega
        have O0 : (orderM words)[0]? = some a := by rw [h']; rfl
        generalize orderM words = M at *
        have HH := Lib.hid h'
        clear h h'
        go_enter Try.func59, Try.ntmps59
        go_wp2_with (go_at_call 72; (with_reducible refine (O _ K.out.below).out.mono ?_); rintro e w1 ⟨v, rfl, K1⟩; obtain ⟨g, c1, rfl⟩ := row_pos K1 hl; have K2 := Lib.hid (K.out.join K1); clear K1 K; have K := K2; clear K2; have x0 := K.out.row_rd 0 rfl 0 (.int .i64 a) (by rw [List.getElem?_map, O0]; rfl))
        go_ret
        exact ⟨rfl, K.out.below⟩
    · obtain ⟨l, a, h'⟩ := snoc_of _ h
      rw [atM_right he h']
      have hl : 0 < (orderM words).length := by rw [h']; simp
      have c0 : (((orderM words).length : Int) == 0) = false := by simp; omega
      have ce : (en == 0) = false := by simpa using he
      have e1 : wrap64 (((orderM words).length : Int) - 1) = (((orderM words).length - 1 : Nat) : Int) := by rw [w64 (by omega) (by omega)]; omega
      have O0 : (orderM words)[(orderM words).length - 1]? = some a := by rw [h']; simp
      generalize orderM words = M at *
      have HH := Lib.hid h'
      clear h h' he
      go_enter Try.func59, Try.ntmps59
      go_wp2_with (go_at_call 72; (with_reducible refine (O _ K.out.below).out.mono ?_); rintro e w1 ⟨v, rfl, K1⟩; obtain ⟨g, c1, rfl⟩ := row_pos K1 hl; have K2 := Lib.hid (K.out.join K1); clear K1 K; have K := K2; clear K2; have x0 := K.out.row_rd 0 rfl (M.length - 1) (.int .i64 a) (by rw [List.getElem?_map, O0]; rfl))
      go_ret
      exact ⟨rfl, K.out.below⟩
end Go.Proofs.Ytdhcomklmckhoaa
