/- The example that stands ahead of each statement of pick (live, head). No condition. -/
import Derived.Test.YtjnckolidgbckaaPickAt
import Derived.Test.YtjnckolidgbckaaPickRow
namespace Go.Proofs.Ytjnckolidgbckaa
open Go.RowKit Go.SepYtjnckolidgbckaa
set_option linter.unusedSimpArgs false
set_option linter.unusedVariables false
set_option maxRecDepth 100000
theorem live_calls (e n : Int) (w : World) : Tells 15 #[.int .i64 e, .int .i64 n] w (.int .u64 (liveW e n).pack) := by
  have C := fun w => Lib.hid (pack_calls (liveW e n) w)
  have K := Lib.hid (sat.start w)
  generalize (liveW e n).pack = r at *
  unfold liveW at C
  go_enter Try.func15, Try.ntmps15
  go_wp2_with (first | (go_at_call 19; (with_reducible refine ((C _).out).mono ?_); rintro e w1 ⟨rfl, hb⟩; have K1 := sat.grown (by repeat (first | exact K.out | apply sat.alloc_any | apply sat.drew | apply sat.drewN)) hb; clear hb; have K2 := Lib.hid K1; clear K1 K; (try clear a0); (try clear l0); (try clear a1); (try clear l1); (try clear a2); (try clear l2); have K := K2; clear K2))
  go_ret
  exact ⟨rfl, K.out.below⟩
theorem oldU_new (w : World) (ws : List Int) (l : List Value) (hl : l = ws.map (Value.int .u64)) (t : TypeId) : OldU (w.alloc (.cells l.toArray t)) (some ⟨w.heap.size, 0, none⟩) ws := by
  subst hl
  intro j hj
  refine ⟨w.heap.size, 0, rfl, box_lt2 _ _, ?_⟩
  rw [Nat.zero_add]
  exact box_at2 w _ t j _ (by rw [List.getElem?_map, List.getElem?_eq_getElem hj]; rfl)
abbrev exW : List Int := [1099511693325, 2199023386633, 3298535079949]
theorem ex_order (w : World) : Calls Try.prog 10 #[.slice (some ⟨w.heap.size, 0, none⟩) 3 3] (w.alloc (.cells #[.int .u64 1099511693325, .int .u64 2199023386633, .int .u64 3298535079949] 29)) fun e w' => ∃ v, e = .returned v ∧ sat (w.alloc (.cells #[.int .u64 1099511693325, .int .u64 2199023386633, .int .u64 3298535079949] 29)) w' [rowA v 3 1 3 [.int .i64 1, .int .i64 0, .int .i64 2]] := by
  have h := order_any exW (some ⟨w.heap.size, 0, none⟩) 3 (w.alloc (.cells #[.int .u64 1099511693325, .int .u64 2199023386633, .int .u64 3298535079949] 29)) (oldU_new w exW [_, _, _] rfl _) (by decide) (by decide)
  have e : orderM exW = [1, 0, 2] := by decide
  rw [e] at h
  exact h
theorem at_nil_calls (w : World) : Tells 12 #[.slice none 0 0, .int .i64 0] w (.int .i64 (-1)) :=
  at_calls [] none 0 0 w (fun j hj => by simp at hj) (by simp) (by simp)
theorem head_calls (w : World) : Tells 9 #[] w (.bool true) := by
  have e1 : (liveW 1 1).pack = 1099511693325 := by decide
  have e2 : (liveW 0 2).pack = 2199023386633 := by decide
  have e3 : (liveW 1 3).pack = 3298535079949 := by decide
  have C1 := fun w => Lib.hid (live_calls 1 1 w)
  have C2 := fun w => Lib.hid (live_calls 0 2 w)
  have C3 := fun w => Lib.hid (live_calls 1 3 w)
  rw [e1] at C1
  rw [e2] at C2
  rw [e3] at C3
  have O := fun w => Lib.hid (ex_order w)
  have AT := fun w => Lib.hid (at_nil_calls w)
  clear e1 e2 e3
  have K := Lib.hid (sat.start w)
  go_enter Try.func9, Try.ntmps9
  go_wp2_with (first | (go_at_call 15; (with_reducible refine ((C1 _).out).mono ?_); rintro e w1 ⟨rfl, hb⟩; have K1 := sat.grown (by repeat (first | exact K.out | apply sat.alloc_any | apply sat.drew | apply sat.drewN)) hb; clear hb; have K2 := Lib.hid K1; clear K1 K; (try clear a0); (try clear l0); (try clear a1); (try clear l1); (try clear a2); (try clear l2); have K := K2; clear K2) | (go_at_call 15; (with_reducible refine ((C2 _).out).mono ?_); rintro e w1 ⟨rfl, hb⟩; have K1 := sat.grown (by repeat (first | exact K.out | apply sat.alloc_any | apply sat.drew | apply sat.drewN)) hb; clear hb; have K2 := Lib.hid K1; clear K1 K; (try clear a0); (try clear l0); (try clear a1); (try clear l1); (try clear a2); (try clear l2); have K := K2; clear K2) | (go_at_call 15; (with_reducible refine ((C3 _).out).mono ?_); rintro e w1 ⟨rfl, hb⟩; have K1 := sat.grown (by repeat (first | exact K.out | apply sat.alloc_any | apply sat.drew | apply sat.drewN)) hb; clear hb; have K2 := Lib.hid K1; clear K1 K; (try clear a0); (try clear l0); (try clear a1); (try clear l1); (try clear a2); (try clear l2); have K := K2; clear K2) | (go_at_call 10; (with_reducible refine (O _).out.mono ?_); rintro e w1 ⟨v, rfl, K1⟩; obtain ⟨g, c1, rfl⟩ := row_pos K1 (by decide); have K2 := Lib.hid ((K.out.alloc_any _).join K1); clear K1 K; have K := K2; clear K2; have x0 := K.out.row_rd 0 rfl 0 _ rfl; have x1 := K.out.row_rd 0 rfl 1 _ rfl; have x2 := K.out.row_rd 0 rfl 2 _ rfl) | (go_at_call 12; (with_reducible refine ((AT _).out).mono ?_); rintro e w1 ⟨rfl, hb⟩; have K1 := sat.grown (by repeat (first | exact K.out | apply sat.alloc_any | apply sat.drew | apply sat.drewN)) hb; clear hb; have K2 := Lib.hid K1; clear K1 K; (try clear a0); (try clear l0); (try clear a1); (try clear l1); (try clear a2); (try clear l2); have K := K2; clear K2))
  go_ret
  exact ⟨rfl, K.out.below⟩
end Go.Proofs.Ytjnckolidgbckaa
