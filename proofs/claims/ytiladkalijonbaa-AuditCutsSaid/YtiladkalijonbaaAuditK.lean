/- What a cell is for, and who has a place, as the program reckons them. Conditions: the layout is Right. -/
import Derived.Test.YtiladkalijonbaaAuditM
import Derived.Test.YtiladkalijonbaaLay
import Derived.Test.YtiladkalijonbaaWord
import Derived.Test.YtiladkalijonbaaMapKit
import Derived.MapFrom
import Derived.DeepKeys4
namespace Go.Proofs.Ytiladkalijonbaa
open Go.RowKit Go.SepYtiladkalijonbaa
set_option linter.unusedSimpArgs false
set_option linter.unusedVariables false
set_option maxRecDepth 100000
section
variable (c : ConfM) (w : World)
theorem owner_calls (h : c.ok) (s : Int) (h0 : 0 ≤ s) (h1 : s < c.all) : Tells 41 #[.agg #[.int .i64 c.th, .int .i64 c.sl, .int .i64 c.src, .int .i64 c.dl], .int .i64 s] w (.int .i64 (ownerM c s)) := by
  have C := fun w => Lib.hid (all_calls c w h)
  have e : wrap64 (Int.tdiv s c.sl) = ownerM c s := by
    have := h.all_bd
    have := h.sl1
    unfold ownerM
    rw [Int.tdiv_eq_ediv_of_nonneg h0]
    have := Int.ediv_le_self c.sl h0
    have := Int.ediv_nonneg h0 (b := c.sl) (by omega)
    exact w64 (by omega) (by omega)
  have H := Lib.hid e
  have t1 : decide (s < 0) = false := by simp; omega
  have t2 : decide (s ≥ c.all) = false := by simp; omega
  have t3 : ¬ c.sl = 0 := by have := h.sl1; omega
  clear e h h0 h1
  have K := Lib.hid (sat.start w)
  go_enter Try.func41, Try.ntmps41
  go_wp2_with (first | ((with_reducible refine at_box ?_); refine st_boxf K.out rfl rfl (fun _ => rfl) ?_; intro gc w1 K1; have K2 := Lib.hid K1; clear K1 K; (try clear a0); (try clear l0); (try clear a1); (try clear l1); (try clear a2); (try clear l2); have K := K2; clear K2; have a0 := K.out.rd 0 rfl; have l0 := K.out.ltp 0 rfl) | (go_at_call 36; (with_reducible refine ((C _).out).mono ?_); rintro e w1 ⟨rfl, hb⟩; have K1 := sat.grown (by repeat (first | exact K.out | apply sat.alloc_any | apply sat.drew | apply sat.drewN)) hb; clear hb; have K2 := Lib.hid K1; clear K1 K; (try clear a0); (try clear l0); (try clear a1); (try clear l1); (try clear a2); (try clear l2); have K := K2; clear K2; have a0 := K.out.rd 0 rfl; have l0 := K.out.ltp 0 rfl))
  go_ret
  exact ⟨ret_i H.out, K.out.below⟩
theorem kind_calls (h : c.ok) (cell : Int) : Tells 30 #[.agg #[.int .i64 c.th, .int .i64 c.sl, .int .i64 c.src, .int .i64 c.dl], .int .i64 cell] w (.tuple #[.int .i64 (kindM c cell).1, .int .i64 (kindM c cell).2]) := by
  have C := fun w => Lib.hid (all_calls c w h)
  have CC := fun w => Lib.hid (cellsn_calls c w h)
  have K := Lib.hid (sat.start w)
  have hA := h.all_bd
  have hT1 := h.th1
  have hT2 := h.th2
  have hcl : c.cells = 2 * c.all + 2 * c.th := rfl
  have w2 : wrap64 (2 * c.all) = 2 * c.all := w64 (by omega) (by omega)
  have w3 : wrap64 (2 * c.all + c.th) = 2 * c.all + c.th := w64 (by omega) (by omega)
  unfold kindM
  by_cases n1 : cell < 0
  · rw [if_pos (.inl n1)]
    have t1 : decide (cell < 0) = true := by simpa using n1
    clear n1 hA hT1 hT2 hcl
    go_enter Try.func30, Try.ntmps30
    go_wp2_with (first | ((with_reducible refine at_box ?_); refine st_boxf K.out rfl rfl (fun _ => rfl) ?_; intro gc w1 K1; have K2 := Lib.hid K1; clear K1 K; (try clear a0); (try clear l0); (try clear a1); (try clear l1); (try clear a2); (try clear l2); have K := K2; clear K2; have a0 := K.out.rd 0 rfl; have l0 := K.out.ltp 0 rfl) | (go_at_call 36; (with_reducible refine ((C _).out).mono ?_); rintro e w1 ⟨rfl, hb⟩; have K1 := sat.grown (by repeat (first | exact K.out | apply sat.alloc_any | apply sat.drew | apply sat.drewN)) hb; clear hb; have K2 := Lib.hid K1; clear K1 K; (try clear a0); (try clear l0); (try clear a1); (try clear l1); (try clear a2); (try clear l2); have K := K2; clear K2; have a0 := K.out.rd 0 rfl; have l0 := K.out.ltp 0 rfl) | (go_at_call 34; (with_reducible refine ((CC _).out).mono ?_); rintro e w1 ⟨rfl, hb⟩; have K1 := sat.grown (by repeat (first | exact K.out | apply sat.alloc_any | apply sat.drew | apply sat.drewN)) hb; clear hb; have K2 := Lib.hid K1; clear K1 K; (try clear a0); (try clear l0); (try clear a1); (try clear l1); (try clear a2); (try clear l2); have K := K2; clear K2; have a0 := K.out.rd 0 rfl; have l0 := K.out.ltp 0 rfl))
    refine bodyPost_ret (by simp [results, Try.results30, go_sem, *]) rfl ⟨rfl, K.out.below⟩
  · have t1 : decide (cell < 0) = false := by simpa using n1
    by_cases n2 : c.cells ≤ cell
    · rw [if_pos (.inr n2)]
      have t2 : decide (cell ≥ c.cells) = true := by simpa using n2
      clear n1 n2 hA hT1 hT2 hcl
      go_enter Try.func30, Try.ntmps30
      go_wp2_with (first | ((with_reducible refine at_box ?_); refine st_boxf K.out rfl rfl (fun _ => rfl) ?_; intro gc w1 K1; have K2 := Lib.hid K1; clear K1 K; (try clear a0); (try clear l0); (try clear a1); (try clear l1); (try clear a2); (try clear l2); have K := K2; clear K2; have a0 := K.out.rd 0 rfl; have l0 := K.out.ltp 0 rfl) | (go_at_call 36; (with_reducible refine ((C _).out).mono ?_); rintro e w1 ⟨rfl, hb⟩; have K1 := sat.grown (by repeat (first | exact K.out | apply sat.alloc_any | apply sat.drew | apply sat.drewN)) hb; clear hb; have K2 := Lib.hid K1; clear K1 K; (try clear a0); (try clear l0); (try clear a1); (try clear l1); (try clear a2); (try clear l2); have K := K2; clear K2; have a0 := K.out.rd 0 rfl; have l0 := K.out.ltp 0 rfl) | (go_at_call 34; (with_reducible refine ((CC _).out).mono ?_); rintro e w1 ⟨rfl, hb⟩; have K1 := sat.grown (by repeat (first | exact K.out | apply sat.alloc_any | apply sat.drew | apply sat.drewN)) hb; clear hb; have K2 := Lib.hid K1; clear K1 K; (try clear a0); (try clear l0); (try clear a1); (try clear l1); (try clear a2); (try clear l2); have K := K2; clear K2; have a0 := K.out.rd 0 rfl; have l0 := K.out.ltp 0 rfl))
      refine bodyPost_ret (by simp [results, Try.results30, go_sem, *]) rfl ⟨rfl, K.out.below⟩
    · rw [if_neg (by omega)]
      have t2 : decide (cell ≥ c.cells) = false := by simp; omega
      by_cases n3 : cell < c.all
      · rw [if_pos n3]
        have t3 : decide (cell < c.all) = true := by simpa using n3
        clear n1 n2 n3 hA hT1 hT2 hcl
        go_enter Try.func30, Try.ntmps30
        go_wp2_with (first | ((with_reducible refine at_box ?_); refine st_boxf K.out rfl rfl (fun _ => rfl) ?_; intro gc w1 K1; have K2 := Lib.hid K1; clear K1 K; (try clear a0); (try clear l0); (try clear a1); (try clear l1); (try clear a2); (try clear l2); have K := K2; clear K2; have a0 := K.out.rd 0 rfl; have l0 := K.out.ltp 0 rfl) | (go_at_call 36; (with_reducible refine ((C _).out).mono ?_); rintro e w1 ⟨rfl, hb⟩; have K1 := sat.grown (by repeat (first | exact K.out | apply sat.alloc_any | apply sat.drew | apply sat.drewN)) hb; clear hb; have K2 := Lib.hid K1; clear K1 K; (try clear a0); (try clear l0); (try clear a1); (try clear l1); (try clear a2); (try clear l2); have K := K2; clear K2; have a0 := K.out.rd 0 rfl; have l0 := K.out.ltp 0 rfl) | (go_at_call 34; (with_reducible refine ((CC _).out).mono ?_); rintro e w1 ⟨rfl, hb⟩; have K1 := sat.grown (by repeat (first | exact K.out | apply sat.alloc_any | apply sat.drew | apply sat.drewN)) hb; clear hb; have K2 := Lib.hid K1; clear K1 K; (try clear a0); (try clear l0); (try clear a1); (try clear l1); (try clear a2); (try clear l2); have K := K2; clear K2; have a0 := K.out.rd 0 rfl; have l0 := K.out.ltp 0 rfl))
        refine bodyPost_ret (by simp [results, Try.results30, go_sem, *]) rfl ⟨rfl, K.out.below⟩
      · rw [if_neg n3]
        have t3 : decide (cell < c.all) = false := by simpa using n3
        by_cases n4 : cell < 2 * c.all
        · rw [if_pos n4]
          have t4 : decide (cell < 2 * c.all) = true := by simpa using n4
          have w4 : wrap64 (cell - c.all) = cell - c.all := w64 (by omega) (by omega)
          clear n1 n2 n3 n4 hA hT1 hT2 hcl
          go_enter Try.func30, Try.ntmps30
          go_wp2_with (first | ((with_reducible refine at_box ?_); refine st_boxf K.out rfl rfl (fun _ => rfl) ?_; intro gc w1 K1; have K2 := Lib.hid K1; clear K1 K; (try clear a0); (try clear l0); (try clear a1); (try clear l1); (try clear a2); (try clear l2); have K := K2; clear K2; have a0 := K.out.rd 0 rfl; have l0 := K.out.ltp 0 rfl) | (go_at_call 36; (with_reducible refine ((C _).out).mono ?_); rintro e w1 ⟨rfl, hb⟩; have K1 := sat.grown (by repeat (first | exact K.out | apply sat.alloc_any | apply sat.drew | apply sat.drewN)) hb; clear hb; have K2 := Lib.hid K1; clear K1 K; (try clear a0); (try clear l0); (try clear a1); (try clear l1); (try clear a2); (try clear l2); have K := K2; clear K2; have a0 := K.out.rd 0 rfl; have l0 := K.out.ltp 0 rfl) | (go_at_call 34; (with_reducible refine ((CC _).out).mono ?_); rintro e w1 ⟨rfl, hb⟩; have K1 := sat.grown (by repeat (first | exact K.out | apply sat.alloc_any | apply sat.drew | apply sat.drewN)) hb; clear hb; have K2 := Lib.hid K1; clear K1 K; (try clear a0); (try clear l0); (try clear a1); (try clear l1); (try clear a2); (try clear l2); have K := K2; clear K2; have a0 := K.out.rd 0 rfl; have l0 := K.out.ltp 0 rfl))
          refine bodyPost_ret (by simp [results, Try.results30, go_sem, *]) rfl ⟨rfl, K.out.below⟩
        · rw [if_neg n4]
          have t4 : decide (cell < 2 * c.all) = false := by simpa using n4
          have i2 : IntKind.i64.wrap (2 * c.all) = 2 * c.all := wi (by omega) (by omega)
          have i4 : IntKind.i64.wrap (cell - 2 * c.all) = cell - 2 * c.all := wi (by omega) (by omega)
          have i5 : IntKind.i64.wrap (cell - 2 * c.all - c.th) = cell - 2 * c.all - c.th := wi (by omega) (by omega)
          have w4 : wrap64 (cell - 2 * c.all) = cell - 2 * c.all := w64 (by omega) (by omega)
          by_cases n5 : cell < 2 * c.all + c.th
          · rw [if_pos n5]
            have t5 : decide (cell < 2 * c.all + c.th) = true := by simpa using n5
            clear n1 n2 n3 n4 n5 hA hT1 hT2 hcl
            go_enter Try.func30, Try.ntmps30
            go_wp2_with (first | ((with_reducible refine at_box ?_); refine st_boxf K.out rfl rfl (fun _ => rfl) ?_; intro gc w1 K1; have K2 := Lib.hid K1; clear K1 K; (try clear a0); (try clear l0); (try clear a1); (try clear l1); (try clear a2); (try clear l2); have K := K2; clear K2; have a0 := K.out.rd 0 rfl; have l0 := K.out.ltp 0 rfl) | (go_at_call 36; (with_reducible refine ((C _).out).mono ?_); rintro e w1 ⟨rfl, hb⟩; have K1 := sat.grown (by repeat (first | exact K.out | apply sat.alloc_any | apply sat.drew | apply sat.drewN)) hb; clear hb; have K2 := Lib.hid K1; clear K1 K; (try clear a0); (try clear l0); (try clear a1); (try clear l1); (try clear a2); (try clear l2); have K := K2; clear K2; have a0 := K.out.rd 0 rfl; have l0 := K.out.ltp 0 rfl) | (go_at_call 34; (with_reducible refine ((CC _).out).mono ?_); rintro e w1 ⟨rfl, hb⟩; have K1 := sat.grown (by repeat (first | exact K.out | apply sat.alloc_any | apply sat.drew | apply sat.drewN)) hb; clear hb; have K2 := Lib.hid K1; clear K1 K; (try clear a0); (try clear l0); (try clear a1); (try clear l1); (try clear a2); (try clear l2); have K := K2; clear K2; have a0 := K.out.rd 0 rfl; have l0 := K.out.ltp 0 rfl))
            refine bodyPost_ret (by simp [results, Try.results30, go_sem, *]) rfl ⟨rfl, K.out.below⟩
          · rw [if_neg n5]
            have t5 : decide (cell < 2 * c.all + c.th) = false := by simpa using n5
            have w5 : wrap64 (cell - 2 * c.all - c.th) = cell - 2 * c.all - c.th := w64 (by omega) (by omega)
            clear n1 n2 n3 n4 n5 hA hT1 hT2 hcl
            go_enter Try.func30, Try.ntmps30
            go_wp2_with (first | ((with_reducible refine at_box ?_); refine st_boxf K.out rfl rfl (fun _ => rfl) ?_; intro gc w1 K1; have K2 := Lib.hid K1; clear K1 K; (try clear a0); (try clear l0); (try clear a1); (try clear l1); (try clear a2); (try clear l2); have K := K2; clear K2; have a0 := K.out.rd 0 rfl; have l0 := K.out.ltp 0 rfl) | (go_at_call 36; (with_reducible refine ((C _).out).mono ?_); rintro e w1 ⟨rfl, hb⟩; have K1 := sat.grown (by repeat (first | exact K.out | apply sat.alloc_any | apply sat.drew | apply sat.drewN)) hb; clear hb; have K2 := Lib.hid K1; clear K1 K; (try clear a0); (try clear l0); (try clear a1); (try clear l1); (try clear a2); (try clear l2); have K := K2; clear K2; have a0 := K.out.rd 0 rfl; have l0 := K.out.ltp 0 rfl) | (go_at_call 34; (with_reducible refine ((CC _).out).mono ?_); rintro e w1 ⟨rfl, hb⟩; have K1 := sat.grown (by repeat (first | exact K.out | apply sat.alloc_any | apply sat.drew | apply sat.drewN)) hb; clear hb; have K2 := Lib.hid K1; clear K1 K; (try clear a0); (try clear l0); (try clear a1); (try clear l1); (try clear a2); (try clear l2); have K := K2; clear K2; have a0 := K.out.rd 0 rfl; have l0 := K.out.ltp 0 rfl))
            go_region_held3 (fun w' => ∀ j, w'.cell? ⟨gc, j, none⟩ = [Value.int .i64 c.th, Value.int .i64 c.sl, Value.int .i64 c.src, Value.int .i64 c.dl][j]?) (first | exact K.out.drew.rd 0 rfl | exact K.out.rd 0 rfl | go_keep) (fail)
            go_wp2
            refine bodyPost_ret (by simp [results, Try.results30, go_sem, *]) rfl ⟨rfl, (show sat w _ _ from (by repeat (first | exact K.out | apply sat.alloc_any | apply sat.drew | apply sat.drewN))).below⟩
end
end Go.Proofs.Ytiladkalijonbaa
