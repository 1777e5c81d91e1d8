/- Whatever words: all that is live, from left to right (PickOrders answers true at every input). No condition beyond the row's own. -/
import Derived.Test.YtjnckolidgbckaaPickLaws
namespace Go.Proofs.Ytjnckolidgbckaa
open Go.RowKit Go.SepYtjnckolidgbckaa
set_option linter.unusedSimpArgs false
set_option linter.unusedVariables false
set_option maxRecDepth 100000
theorem int_at {E w : World} {L : List SA} {g n c : Nat} {l : List Int} (i : Nat) (h : sat E w L) (e : L[i]? = some (rowA (.slice (some ⟨g, 0, none⟩) n c) 3 1 l.length (l.map (Value.int .i64)))) (j : Nat) (hj : j < l.length) : w.cell? ⟨g, j, none⟩ = some (.int .i64 l[j]) := by
  obtain ⟨_, ⟨h0, _⟩ | ⟨g', cap', cur, h0, _⟩⟩ := (h.pick i e).row_open
  · simp at h0
  · simp at h0
    obtain ⟨rfl, rfl, rfl⟩ := h0
    exact h.row_rd i e j _ (by rw [List.getElem?_map, List.getElem?_eq_getElem hj]; rfl)
def cmpRel (w0 : World) (l : List Int) (a b : Value) (gk : Nat) (i : Value) (w' : World) : Prop :=
  ∃ n : Nat, n + gk = l.length ∧ i = .int .i64 n ∧ sat w0 w' [rowA a 3 1 l.length (l.map (Value.int .i64)), rowA b 3 1 l.length (l.map (Value.int .i64))]
theorem orders_calls (words : List Int) (p : Option Addr) (cap : Nat) (w : World) (hc : OldU w p words) (hwf : ∀ x ∈ words, 0 ≤ x ∧ x < 18446744073709551616) :
    Tells 3 #[.slice p words.length cap] w (.bool true) := by
  have HD := fun w => Lib.hid (head_calls w)
  have K := Lib.hid (sat.start w)
  by_cases h100 : words.length > 100
  · have c0 : decide ((words.length : Int) > 100) = true := by simp; omega
    clear hc
    go_enter Try.func3, Try.ntmps3
    go_wp2_with (first | (go_at_call 9; (with_reducible refine ((HD _).out).mono ?_); rintro e w1 ⟨rfl, hb⟩; have K1 := sat.grown (by repeat (first | exact K.out | apply sat.alloc_any | apply sat.drew | apply sat.drewN)) hb; clear hb; have K2 := Lib.hid K1; clear K1 K; (try clear a0); (try clear l0); (try clear a1); (try clear l1); (try clear a2); (try clear l2); have K := K2; clear K2))
    go_ret
    exact ⟨rfl, K.out.below⟩
  · have c0 : decide ((words.length : Int) > 100) = false := by simp; omega
    have O := fun w' (b : Below w.heap.size w w') => Lib.hid (order_any words p cap w' (hc.grown b) hwf (by omega))
    have R := fun w' (b : Below w.heap.size w w') => Lib.hid (row_calls words p cap w' (hc.grown b) hwf (by omega))
    clear hc
    have q := orderM_len words
    generalize orderM words = l at *
    go_enter Try.func3, Try.ntmps3
    go_wp2_with (first | (go_at_call 9; (with_reducible refine ((HD _).out).mono ?_); rintro e w1 ⟨rfl, hb⟩; have K1 := sat.grown (by repeat (first | exact K.out | apply sat.alloc_any | apply sat.drew | apply sat.drewN)) hb; clear hb; have K2 := Lib.hid K1; clear K1 K; (try clear a0); (try clear l0); (try clear a1); (try clear l1); (try clear a2); (try clear l2); have K := K2; clear K2) | (go_at_call 10; (with_reducible refine (O _ K.out.below).out.mono ?_); rintro e w1 ⟨v, rfl, K1⟩; obtain ⟨p1, c1, rfl⟩ := row_any K1; have K2 := Lib.hid (K.out.join K1); clear K1 K; have K := K2; clear K2) | (go_at_call 11; (with_reducible refine (R _ K.out.below).out.mono ?_); rintro e w1 ⟨v, rfl, K1⟩; obtain ⟨p2, c2, rfl⟩ := row_any K1; have K2 := Lib.hid (K.out.join K1); clear K1 K; have K := K2; clear K2))
    go_loopg [22] l.length (fun gk i w' => cmpRel w l (.slice p2 l.length c2) (.slice p1 l.length c1) gk i w')
    case atStart => exact ⟨0, by simp, rfl, K.out⟩
    case round =>
      obtain ⟨n, hn, rfl, hs⟩ := hrel
      clear K
      have K := Lib.hid hs
      clear hs
      by_cases hlt : n < l.length
      · have d0 : decide (n < l.length) = true := by simpa using hlt
        obtain ⟨g2, _, e2⟩ := row_pos K.out (by omega)
        obtain ⟨g1, _, e1⟩ := row_pos K.out.swap (by omega)
        simp only [Value.slice.injEq] at e1 e2
        obtain ⟨rfl, -, -⟩ := e1
        obtain ⟨rfl, -, -⟩ := e2
        have F : ∀ w', sat w w' [rowA (.slice (some ⟨g2, 0, none⟩) l.length c2) 3 1 l.length (l.map (Value.int .i64)), rowA (.slice (some ⟨g1, 0, none⟩) l.length c1) 3 1 l.length (l.map (Value.int .i64))] → w'.cell? ⟨g2, n, none⟩ = some (.int .i64 l[n]) ∧ w'.cell? ⟨g1, n, none⟩ = some (.int .i64 l[n]) := fun w' h => ⟨int_at 0 h rfl n hlt, int_at 1 h rfl n hlt⟩
        have FF := Lib.hid F
        clear F
        obtain ⟨gk', rfl⟩ : ∃ g', gk = g' + 1 := ⟨gk - 1, by omega⟩
        have HN := Lib.hid hn
        clear hn
        generalize l[n] = x at *
        have cx : (x != x) = false := by simp
        go_wp2
        go_region_held3 (fun w' => w'.cell? ⟨g2, n, none⟩ = some (.int .i64 x) ∧ w'.cell? ⟨g1, n, none⟩ = some (.int .i64 x)) (first | exact FF.out _ (by repeat (first | exact K.out | apply sat.alloc_any | apply sat.drew | apply sat.drewN)) | go_keep) (fail)
        all_goals go_wp2
        all_goals go_roundg gk'
        case measure => omega
        case rel => exact ⟨n + 1, by have := HN.out; omega, by first | (simp; done) | (simp; exact w64 (by omega) (by omega)), (by repeat (first | exact K.out | apply sat.alloc_any | apply sat.drew | apply sat.drewN))⟩
      · have d0 : decide (n < l.length) = false := by simpa using hlt
        clear hn
        go_wp2
        go_ret
        exact ⟨rfl, K.out.below⟩
theorem pickOrders_calls (W : World) (a : Option Addr) (len cap : Nat) (rows : List (List Value)) (h : RowsAt W [.int .u64] a len cap rows) :
    Calls Try.prog 3 #[.slice a len cap] W fun e W' => e = .returned (.bool true) ∧ Below W.heap.size W W' := by
  obtain ⟨words, rfl, hwf, hc⟩ := oldU_of h
  exact orders_calls words a cap W hc hwf
end Go.Proofs.Ytjnckolidgbckaa
