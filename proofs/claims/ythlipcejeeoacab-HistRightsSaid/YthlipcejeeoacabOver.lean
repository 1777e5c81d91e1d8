/- slices.DeleteFunc as hist.Over calls it; hist.Over. Conditions: the deeds lie in memory as told; at most a million deeds. -/
import Derived.Test.YthlipcejeeoacabOver3
namespace Go.Proofs.Ythlipcejeeoacab
open Go.RowKit Go.SepYthlipcejeeoacab Go.Maps
set_option linter.unusedSimpArgs false
set_option linter.unusedVariables false
set_option maxRecDepth 100000
set_option maxHeartbeats 4000000
theorem del_calls {E w : World} {L : List SA} (p : Option Addr) (l : List DeedM) (n1 cap : Nat) (hl : l.length ≤ 1000000) (h : sat E w (rowA (.slice p n1 cap) 35 11 l.length (l.flatMap DeedM.v) :: L)) :
    Calls Try.prog 11 #[.slice p n1 cap, .func (.func 13) #[] #[]] w fun e w' => ∃ r : List DeedM, ∃ p2 c2, e = .returned (.slice p2 r.length c2) ∧ r = l.filter overD ∧ sat E w' (rowA (.slice p2 r.length c2) 35 11 r.length (r.flatMap DeedM.v) :: L) := by
  obtain ⟨rfl, _⟩ := row_len h
  have CI := Lib.hid (idxf_calls p l cap w hl (oldD_row h))
  have K := Lib.hid h
  clear h
  go_enter Try.func11, Try.ntmps11
  go_wp2_with (go_at_call 16; (with_reducible refine (CI.out).mono ?_); rintro e w1 ⟨r, rfl, hP, hb⟩; have K1 := sat.grown K.out hb; clear hb; have K2 := Lib.hid K1; clear K1 K; have K := K2; clear K2; have HP := Lib.hid hP; clear hP CI; rcases HP.out with ⟨rfl, hall⟩ | ⟨k, hk, rfl, hs, hall⟩)
  · go_ret
    exact ⟨_, _, _, rfl, (over_none l hall).symm, K.out⟩
  · obtain ⟨g, rfl, _⟩ := dd_some K.out (by omega)
    have HF := Lib.hid (over_first l k hk hs hall)
    clear HP hs hall
    go_loopg [5, 6] (l.length - (k + 1)) (fun gk a b w' => ∃ (i j : Nat) (m : List DeedM), j + gk = l.length ∧ a = .int .i64 i ∧ b = .int .i64 j ∧ i < j ∧ m.length = l.length ∧ m.take i = (l.take j).filter overD ∧ m.drop j = l.drop j ∧ sat E w' (rowA (.slice (some ⟨g, 0, none⟩) l.length cap) 35 11 l.length (m.flatMap DeedM.v) :: L))
    case atStart => exact ⟨k, k + 1, l, by omega, rfl, by simp, by omega, rfl, HF.out, rfl, K.out⟩
    case round =>
      obtain ⟨i, j, m, hj, rfl, rfl, hij, hm, h1, h2, hsat⟩ := hrel
      clear K HF hk
      have K := Lib.hid hsat
      clear hsat
      have HJ := Lib.hid hj
      by_cases hlt : j < l.length
      · have d0 : decide (j < l.length) = true := by simpa using hlt
        have hat := over_at m l j hm hlt h2
        have hy : ∀ q u, (DeedM.v l[j])[q]? = some u → wr.cell? ⟨g, j * 11 + q, none⟩ = some u := fun q u hq => K.out.row_rd 0 rfl (j * 11 + q) u (by
          have hq11 : q < 11 := by
            rcases Nat.lt_or_ge q 11 with h' | h'
            · exact h'
            · simp [List.getElem?_eq_none (show (DeedM.v l[j]).length ≤ q by simpa using h')] at hq
          rw [dd_at m j (by omega) q hq11, hat]; exact hq)
        have y0 : wr.cell? ⟨g, j * 11, none⟩ = _ := hy 0 _ rfl
        have y1 := hy 1 _ rfl; have y2 := hy 2 _ rfl; have y3 := hy 3 _ rfl; have y4 := hy 4 _ rfl; have y5 := hy 5 _ rfl; have y6 := hy 6 _ rfl; have y7 := hy 7 _ rfl; have y8 := hy 8 _ rfl; have y9 := hy 9 _ rfl; have y10 := hy 10 _ rfl
        have ES := Lib.hid (fun ho => over_set m l i j hm hij hlt h1 h2 ho)
        have EK := Lib.hid (fun ho => over_skip m l i j hlt h1 h2 ho)
        have C13 := fun w' => Lib.hid (open_calls l[j] w')
        have HM := Lib.hid hm
        have HI := Lib.hid hij
        have j1 : (j : Int) < (l.length : Int) := by omega
        have i0 : (0 : Int) ≤ (i : Int) := by omega
        have i1 : (i : Int) < (l.length : Int) := by omega
        have i2 : i < l.length := by omega
        have HL := Lib.hid hlt
        clear hy hat h1 h2 hj hm hij
        generalize l[j] = x at *
        clear hlt
        obtain ⟨gk', rfl⟩ : ∃ g', gk = g' + 1 := ⟨gk - 1, by have := HJ.out; have := HL.out; omega⟩
        by_cases c0 : x.stop < 0
        · have t0 : decide (x.stop < 0) = true := by simpa using c0
          have ho := Lib.hid (show overD x = false from by simp [overD]; omega)
          clear c0
          go_wp2_with (first | ((with_reducible refine at_alloc ?_); refine st_allocf K.out (fun _ => rfl) ?_; intro gd w1 K1; have K2 := Lib.hid K1; clear K1 K; (try clear a0); (try clear l0); (try clear a1); (try clear l1); (try clear a2); (try clear l2); have K := K2; clear K2; have a0 := K.out.rd 0 rfl; have l0 := K.out.ltp 0 rfl) | ((with_reducible refine at_store ?_); refine st_store 0 K.out rfl rfl rfl rfl ?_ ?_ ?_ ?_; (· kernel_rfl); (· simp); (· simp [Value.oneCell']); intro w1 K1; simp only [List.set, putL] at K1; have K2 := Lib.hid K1; clear K1 K; (try clear a0); (try clear l0); (try clear a1); (try clear l1); (try clear a2); (try clear l2); have K := K2; clear K2; have a0 := K.out.rd 0 rfl; have l0 := K.out.ltp 0 rfl) | (go_at_call 13; (with_reducible refine ((C13 _).out).mono ?_); rintro r w1 ⟨rfl, hb⟩; have K1 := sat.grown K.out hb; clear hb; have K2 := Lib.hid K1; clear K1 K; (try clear a0); (try clear l0); (try clear a1); (try clear l1); (try clear a2); (try clear l2); have K := K2; clear K2; have a0 := K.out.rd 0 rfl; have l0 := K.out.ltp 0 rfl))
          go_roundg gk'
          case measure => omega
          case rel => exact ⟨i, j + 1, m, by have := HJ.out; omega, rfl, by simp, by have := HI.out; omega, HM.out, (EK.out ho.out).1, (EK.out ho.out).2, K.out.drop⟩
        · have t0 : decide (x.stop < 0) = false := by simpa using c0
          have ho := Lib.hid (show overD x = true from by simp [overD]; omega)
          clear c0
          go_wp2_with (first | ((with_reducible refine at_alloc ?_); refine st_allocf K.out (fun _ => rfl) ?_; intro gd w1 K1; have K2 := Lib.hid K1; clear K1 K; (try clear a0); (try clear l0); (try clear a1); (try clear l1); (try clear a2); (try clear l2); have K := K2; clear K2; have a0 := K.out.rd 0 rfl; have l0 := K.out.ltp 0 rfl) | ((with_reducible refine at_store ?_); refine st_store 0 K.out rfl rfl rfl rfl ?_ ?_ ?_ ?_; (· kernel_rfl); (· simp); (· simp [Value.oneCell']); intro w1 K1; simp only [List.set, putL] at K1; have K2 := Lib.hid K1; clear K1 K; (try clear a0); (try clear l0); (try clear a1); (try clear l1); (try clear a2); (try clear l2); have K := K2; clear K2; have a0 := K.out.rd 0 rfl; have l0 := K.out.ltp 0 rfl) | (go_at_call 13; (with_reducible refine ((C13 _).out).mono ?_); rintro r w1 ⟨rfl, hb⟩; have K1 := sat.grown K.out hb; clear hb; have K2 := Lib.hid K1; clear K1 K; (try clear a0); (try clear l0); (try clear a1); (try clear l1); (try clear a2); (try clear l2); have K := K2; clear K2; have a0 := K.out.rd 0 rfl; have l0 := K.out.ltp 0 rfl) | ((with_reducible refine at_store ?_); refine st_store_row 1 K.out rfl rfl rfl rfl ?_ ?_ ?_ ?_; (· kernel_rfl); (· rw [dd_len, HM.out]; simp; omega); (· simp [Value.oneCell']); intro w1 K1; simp only [List.set] at K1; rw [dd_put m i x (by rw [HM.out]; exact i2)] at K1; have K2 := Lib.hid K1; clear K1 K; (try clear a0); (try clear l0); (try clear a1); (try clear l1); (try clear a2); (try clear l2); have K := K2; clear K2; have a0 := K.out.rd 0 rfl; have l0 := K.out.ltp 0 rfl))
          go_roundg gk'
          case measure => omega
          case rel => exact ⟨i + 1, j + 1, m.set i x, by have := HJ.out; omega, by simp, by simp, by have := HI.out; omega, by rw [List.length_set]; exact HM.out, (ES.out ho.out).1, (ES.out ho.out).2, K.out.drop⟩
      · have hjl : j = l.length := by omega
        subst hjl
        have d0 : decide (l.length < l.length) = false := by simp
        obtain ⟨vs, hc⟩ := clear_dd K.out i hij
        rw [List.take_length] at h1
        have K1 := row_cut (row_setL vs (i * 11) K.out) (Nat.le_of_lt hij)
        rw [setL_take _ _ _ _ (Nat.le_refl _), dd_take] at K1
        have hlen : (m.take i).length = i := by rw [List.length_take]; omega
        have KK := Lib.hid K1
        have HH := Lib.hid h1
        have HN := Lib.hid hlen
        have i0 : (0 : Int) ≤ (i : Int) := by omega
        have i1 : (i : Int) ≤ (l.length : Int) := by omega
        have i2 : i ≤ l.length := by omega
        have hcap : l.length ≤ cap := by
          obtain ⟨_, ⟨h0, _⟩ | ⟨g', cap', cur, h0, q1, _⟩⟩ := K.out.row_open
          · simp at h0
          · simp at h0
            obtain ⟨rfl, rfl⟩ := h0
            exact q1
        have i3 : i ≤ cap := by omega
        have i4 : (i : Int) ≤ (cap : Int) := by omega
        clear K1 h1 hlen h2 hm hj
        go_wp2
        go_ret
        exact ⟨m.take i, _, _, by rw [HN.out]; rfl, HH.out, by rw [HN.out]; exact KK.out⟩
theorem over_calls (p : Option Addr) (l : List DeedM) (cap : Nat) (w : World) (hl : l.length ≤ 1000000) (h : OldD w p l) :
    Calls Try.prog 6 #[.slice p l.length cap] w fun e w' => ∃ r : List DeedM, ∃ p2 c2, e = .returned (.slice p2 r.length c2) ∧ r = l.filter overD ∧ OldD w' p2 r ∧ Below w.heap.size w w' := by
  have CC := Lib.hid (clone_calls p l cap w hl h)
  have K := Lib.hid (sat.start w)
  clear h
  go_enter Try.func6, Try.ntmps6
  go_wp2_with (first | (go_at_call 12; (with_reducible refine (CC.out).mono ?_); rintro e w1 ⟨pc, nc, cc, rfl, hs⟩; clear K CC; have K := Lib.hid hs; clear hs) | (go_at_call 11; (with_reducible refine (del_calls _ _ _ _ hl K.out).mono ?_); rintro e w1 ⟨r, p2, c2, rfl, hr, hs⟩; clear K; have K := Lib.hid hs; clear hs; have HR := Lib.hid hr; clear hr))
  go_ret
  exact ⟨_, _, _, rfl, HR.out, oldD_row K.out, K.out.below⟩
end Go.Proofs.Ythlipcejeeoacab
