/- What came later than all others stands at its end (PickNewest answers true at every input). No condition beyond the row's own. -/
import Derived.Test.YtjnckolidgbckaaPickU
namespace Go.Proofs.Ytjnckolidgbckaa
open Go.RowKit Go.SepYtjnckolidgbckaa
set_option linter.unusedSimpArgs false
set_option linter.unusedVariables false
set_option maxRecDepth 100000
attribute [local go_sem] field_state field_end field_stamp
/-- The greatest Lo of what is live among the first n. -/
def mostM (words : List Int) : Nat → Int
  | 0 => 0
  | n + 1 => if (unpack (getI words n)).state = 1 ∧ (unpack (getI words n)).stamp.lo > mostM words n then (unpack (getI words n)).stamp.lo else mostM words n
theorem mostM_ge (words : List Int) : ∀ (n : Nat), ∀ a : Int, 0 ≤ a → a < n → (unpack (getI words a)).state = 1 → (unpack (getI words a)).stamp.lo ≤ mostM words n
  | 0, a, h, h', _ => by omega
  | n + 1, a, h, h', hs => by
    unfold mostM
    by_cases e : a = n
    · subst e
      split
      · omega
      · rename_i hh; simp only [hs, true_and] at hh; omega
    · have := mostM_ge words n a h (by omega) hs
      split <;> omega
theorem mostM_nn (words : List Int) : ∀ n, 0 ≤ mostM words n
  | 0 => Int.le_refl _
  | n + 1 => by
    have := mostM_nn words n
    unfold mostM
    split <;> omega
theorem live_right (e n : Int) (he : e = 0 ∨ e = 1) (h0 : 0 ≤ n) (h1 : n ≤ Top) : unpack (liveW e n).pack = liveW e n := by
  refine unpack_pack _ ?_
  simp only [Top] at h1
  rcases he with rfl | rfl <;> simp [WordM.right, liveW, h0, h1]
def mostRel (w0 : World) (words : List Int) (gk : Nat) (m i : Value) (w' : World) : Prop :=
  ∃ n : Nat, n + gk = words.length ∧ i = .int .i64 n ∧ m = .int .i64 (mostM words n) ∧ sat w0 w' []
theorem newest_calls (words : List Int) (p : Option Addr) (cap : Nat) (b : Bool) (w : World) (hc : OldU w p words) (hwf : ∀ x ∈ words, 0 ≤ x ∧ x < 18446744073709551616) (h60 : ¬ words.length > 60) :
    Tells 5 #[.slice p words.length cap, .bool b] w (.bool true) := by
  have HD := fun w => Lib.hid (head_calls w)
  have K := Lib.hid (sat.start w)
  have c0 : decide ((words.length : Int) > 60) = false := by simp; omega
  have H := Lib.hid hc
  clear hc
  have m0 : (0 : Int) = mostM words 0 := rfl
  go_enter Try.func5, Try.ntmps5
  go_wp2_with (first | (go_at_call 9; (with_reducible refine ((HD _).out).mono ?_); rintro e w1 ⟨rfl, hb⟩; have K1 := sat.grown (by repeat (first | exact K.out | apply sat.alloc_any | apply sat.drew | apply sat.drewN)) hb; clear hb; have K2 := Lib.hid K1; clear K1 K; (try clear a0); (try clear l0); (try clear a1); (try clear l1); (try clear a2); (try clear l2); have K := K2; clear K2))
  go_loopg [5, 18] words.length (fun gk m i w' => mostRel w words gk m i w')
  case atStart => exact ⟨0, by simp, rfl, rfl, K.out⟩
  case round =>
    obtain ⟨n, hn, rfl, rfl, hs⟩ := hrel
    clear K
    have K := Lib.hid hs
    clear hs
    by_cases hlt : n < words.length
    · have d0 : decide (n < words.length) = true := by simpa using hlt
      obtain ⟨bw, off, rfl, hb, hx0⟩ := H.out n hlt
      have hx : wr.cell? ⟨bw, off + n, none⟩ = some (.int .u64 words[n]) := (K.out.below.cell (p := ⟨bw, off + n, none⟩) hb).trans hx0
      clear hx0
      have hxw := hwf words[n] (List.getElem_mem hlt)
      have U := fun w => Lib.hid (unpack_calls words[n] hxw.1 hxw.2 w)
      have M1 : mostM words (n + 1) = if (unpack words[n]).state = 1 ∧ (unpack words[n]).stamp.lo > mostM words n then (unpack words[n]).stamp.lo else mostM words n := by rw [show words[n] = getI words n by simp [getI, hlt]]; rfl
      have HN := Lib.hid hn
      clear hn hxw
      generalize unpack words[n] = x at *
      generalize words[n] = xn at *
      unfold WordM.v at U
      generalize mostM words n = mm at *
      obtain ⟨gk', rfl⟩ : ∃ g', gk = g' + 1 := ⟨gk - 1, by have := HN.out; omega⟩
      by_cases hs1 : x.state = 1
      · have c1 : (x.state == 1) = true := by simpa using hs1
        by_cases hlo : x.stamp.lo > mm
        · have c2 : decide (x.stamp.lo > mm) = true := by simpa using hlo
          rw [if_pos ⟨hs1, hlo⟩] at M1
          have MM := Lib.hid M1
          clear M1 hs1 hlo
          go_wp2_with (first | (go_at_call 13; (with_reducible refine ((U _).out).mono ?_); rintro e w1 ⟨rfl, hb⟩; have K1 := sat.grown (by repeat (first | exact K.out | apply sat.alloc_any | apply sat.drew | apply sat.drewN)) hb; clear hb; have K2 := Lib.hid K1; clear K1 K; (try clear a0); (try clear l0); (try clear a1); (try clear l1); (try clear a2); (try clear l2); have K := K2; clear K2))
          go_roundg gk'
          case measure => omega
          case rel => exact ⟨n + 1, by have := HN.out; omega, by simp, by rw [MM.out], (by repeat (first | exact K.out | apply sat.alloc_any | apply sat.drew | apply sat.drewN))⟩
        · have c2 : decide (x.stamp.lo > mm) = false := by simpa using hlo
          rw [if_neg (fun h => hlo h.2)] at M1
          have MM := Lib.hid M1
          clear M1 hs1 hlo
          go_wp2_with (first | (go_at_call 13; (with_reducible refine ((U _).out).mono ?_); rintro e w1 ⟨rfl, hb⟩; have K1 := sat.grown (by repeat (first | exact K.out | apply sat.alloc_any | apply sat.drew | apply sat.drewN)) hb; clear hb; have K2 := Lib.hid K1; clear K1 K; (try clear a0); (try clear l0); (try clear a1); (try clear l1); (try clear a2); (try clear l2); have K := K2; clear K2))
          go_roundg gk'
          case measure => omega
          case rel => exact ⟨n + 1, by have := HN.out; omega, by simp, by rw [MM.out], (by repeat (first | exact K.out | apply sat.alloc_any | apply sat.drew | apply sat.drewN))⟩
      · have c1 : (x.state == 1) = false := by simpa using hs1
        rw [if_neg (fun h => hs1 h.1)] at M1
        have MM := Lib.hid M1
        clear M1 hs1
        go_wp2_with (first | (go_at_call 13; (with_reducible refine ((U _).out).mono ?_); rintro e w1 ⟨rfl, hb⟩; have K1 := sat.grown (by repeat (first | exact K.out | apply sat.alloc_any | apply sat.drew | apply sat.drewN)) hb; clear hb; have K2 := Lib.hid K1; clear K1 K; (try clear a0); (try clear l0); (try clear a1); (try clear l1); (try clear a2); (try clear l2); have K := K2; clear K2))
        go_roundg gk'
        case measure => omega
        case rel => exact ⟨n + 1, by have := HN.out; omega, by simp, by rw [MM.out], (by repeat (first | exact K.out | apply sat.alloc_any | apply sat.drew | apply sat.drewN))⟩
    · have hnl : n = words.length := by omega
      subst hnl
      have d0 : decide (words.length < words.length) = false := by simp
      have hge := mostM_ge words words.length
      have hnn := mostM_nn words words.length
      clear hn hlt m0
      generalize mostM words words.length = mm at *
      by_cases hm : mm ≥ 16777214
      · have c1 : decide (mm ≥ 16777214) = true := by simpa using hm
        clear hge hnn hm
        go_wp2
        go_ret
        exact ⟨rfl, K.out.below⟩
      · have c1 : decide (mm ≥ 16777214) = false := by simp; omega
        have key : ∀ e : Int, (e = 0 ∨ e = 1) → atM (words ++ [(liveW e (mm + 1)).pack]) e = words.length := fun e he =>
          atM_newest words e _ mm he (live_right e (mm + 1) he (by omega) (by simp only [Top]; omega)) hge
        have w1 : wrap64 (mm + 1) = mm + 1 := w64 (by omega) (by omega)
        cases b
        · have LV := fun w => Lib.hid (live_calls 0 (mm + 1) w)
          have kk := key 0 (.inl rfl)
          have hp := pack_bd (liveW 0 (mm + 1))
          generalize (liveW 0 (mm + 1)).pack = x at *
          have hwf' : ∀ y ∈ words ++ [x], 0 ≤ y ∧ y < 18446744073709551616 := fun y hy => by
            rcases List.mem_append.1 hy with h | h
            · exact hwf y h
            · obtain rfl := List.mem_singleton.1 h; exact hp
          have A := fun w' (p3 : Option Addr) (c3 n3 : Nat) (hn3 : n3 = 0 + words.length + 1) (h : OldU w' p3 (words ++ [x])) => Lib.hid (show Tells 12 #[.slice p3 n3 c3, .int .i64 0] w' (.int .i64 words.length) from by
            have := at_calls (words ++ [x]) p3 c3 0 w' h hwf' (by simp; omega)
            rw [kk] at this
            rw [hn3, show 0 + words.length + 1 = (words ++ [x]).length by simp]
            exact this)
          have cq : ((words.length : Int) == (words.length : Int)) = true := by simp
          clear hge hnn key kk hp
          go_wp2_with (first | (go_at_call 15; (with_reducible refine ((LV _).out).mono ?_); rintro e w1 ⟨rfl, hb⟩; have K1 := sat.grown (by repeat (first | exact K.out | apply sat.alloc_any | apply sat.drew | apply sat.drewN)) hb; clear hb; have K2 := Lib.hid K1; clear K1 K; (try clear a0); (try clear l0); (try clear a1); (try clear l1); (try clear a2); (try clear l2); have K := K2; clear K2) | ((with_reducible refine at_append ?_); refine st_append_part 0 29 1 8 Try.underlying22 u64Info (sat.row_empty (e := 29) (size := 1) K.out) rfl rfl (news := words.map (Value.int .u64)) rfl ?_ ?_ ?_ ?_ ?_ ?_; (· simp); (· exact OldU.news (H.out.grown (sat.row_empty (e := 29) (size := 1) K.out).below)); (· exact u64_one _); (· simp only [maxLen]; omega); (· omega); intro p1 n1 c1 w1 K1; simp only [List.set] at K1; have K2 := Lib.hid K1; clear K1 K; have K := K2; clear K2) | ((with_reducible refine at_append ?_); refine st_append 0 29 1 8 Try.underlying22 u64Info (by repeat (first | exact K.out | apply sat.alloc_any | apply sat.drew | apply sat.drewN)) rfl rfl rfl rfl (box1_at' _ [_] _) ?_ Nat.one_pos ?_ ?_ ?_; (· simp [Value.oneCell']); (· simp only [maxLen]; omega); (· omega); intro p2 n2 c2 w1 K1; simp only [List.set] at K1; have K2 := Lib.hid K1; clear K1 K; have K := K2; clear K2; have n2e := (row_len K.out).1) | (go_at_call 12; (with_reducible refine ((A _ _ _ _ (by omega) (oldU_row (RowKit.Hid.out K) (by simp))).out).mono ?_); rintro e w1 ⟨rfl, hb⟩; have K1 := sat.grown (by repeat (first | exact K.out | apply sat.alloc_any | apply sat.drew | apply sat.drewN)) hb; clear hb; have K2 := Lib.hid K1; clear K1 K; (try clear a0); (try clear l0); (try clear a1); (try clear l1); (try clear a2); (try clear l2); have K := K2; clear K2))
          go_ret
          exact ⟨rfl, K.out.below⟩
        · have LV := fun w => Lib.hid (live_calls 1 (mm + 1) w)
          have kk := key 1 (.inr rfl)
          have hp := pack_bd (liveW 1 (mm + 1))
          generalize (liveW 1 (mm + 1)).pack = x at *
          have hwf' : ∀ y ∈ words ++ [x], 0 ≤ y ∧ y < 18446744073709551616 := fun y hy => by
            rcases List.mem_append.1 hy with h | h
            · exact hwf y h
            · obtain rfl := List.mem_singleton.1 h; exact hp
          have A := fun w' (p3 : Option Addr) (c3 n3 : Nat) (hn3 : n3 = 0 + words.length + 1) (h : OldU w' p3 (words ++ [x])) => Lib.hid (show Tells 12 #[.slice p3 n3 c3, .int .i64 1] w' (.int .i64 words.length) from by
            have := at_calls (words ++ [x]) p3 c3 1 w' h hwf' (by simp; omega)
            rw [kk] at this
            rw [hn3, show 0 + words.length + 1 = (words ++ [x]).length by simp]
            exact this)
          have cq : ((words.length : Int) == (words.length : Int)) = true := by simp
          clear hge hnn key kk hp
          go_wp2_with (first | (go_at_call 15; (with_reducible refine ((LV _).out).mono ?_); rintro e w1 ⟨rfl, hb⟩; have K1 := sat.grown (by repeat (first | exact K.out | apply sat.alloc_any | apply sat.drew | apply sat.drewN)) hb; clear hb; have K2 := Lib.hid K1; clear K1 K; (try clear a0); (try clear l0); (try clear a1); (try clear l1); (try clear a2); (try clear l2); have K := K2; clear K2) | ((with_reducible refine at_append ?_); refine st_append_part 0 29 1 8 Try.underlying22 u64Info (sat.row_empty (e := 29) (size := 1) K.out) rfl rfl (news := words.map (Value.int .u64)) rfl ?_ ?_ ?_ ?_ ?_ ?_; (· simp); (· exact OldU.news (H.out.grown (sat.row_empty (e := 29) (size := 1) K.out).below)); (· exact u64_one _); (· simp only [maxLen]; omega); (· omega); intro p1 n1 c1 w1 K1; simp only [List.set] at K1; have K2 := Lib.hid K1; clear K1 K; have K := K2; clear K2) | ((with_reducible refine at_append ?_); refine st_append 0 29 1 8 Try.underlying22 u64Info (by repeat (first | exact K.out | apply sat.alloc_any | apply sat.drew | apply sat.drewN)) rfl rfl rfl rfl (box1_at' _ [_] _) ?_ Nat.one_pos ?_ ?_ ?_; (· simp [Value.oneCell']); (· simp only [maxLen]; omega); (· omega); intro p2 n2 c2 w1 K1; simp only [List.set] at K1; have K2 := Lib.hid K1; clear K1 K; have K := K2; clear K2; have n2e := (row_len K.out).1) | (go_at_call 12; (with_reducible refine ((A _ _ _ _ (by omega) (oldU_row (RowKit.Hid.out K) (by simp))).out).mono ?_); rintro e w1 ⟨rfl, hb⟩; have K1 := sat.grown (by repeat (first | exact K.out | apply sat.alloc_any | apply sat.drew | apply sat.drewN)) hb; clear hb; have K2 := Lib.hid K1; clear K1 K; (try clear a0); (try clear l0); (try clear a1); (try clear l1); (try clear a2); (try clear l2); have K := K2; clear K2))
          go_ret
          exact ⟨rfl, K.out.below⟩
theorem pickNewest_calls (W : World) (a : Option Addr) (len cap : Nat) (rows : List (List Value)) (h : RowsAt W [.int .u64] a len cap rows) (b : Bool) :
    Calls Try.prog 5 #[.slice a len cap, .bool b] W fun e W' => e = .returned (.bool true) ∧ Below W.heap.size W W' := by
  obtain ⟨words, rfl, hwf, hc⟩ := oldU_of h
  by_cases h60 : words.length > 60
  · have HD := fun w => Lib.hid (head_calls w)
    have K := Lib.hid (sat.start W)
    have c0 : decide ((words.length : Int) > 60) = true := by simp; omega
    clear hc h
    go_enter Try.func5, Try.ntmps5
    go_wp2_with (first | (go_at_call 9; (with_reducible refine ((HD _).out).mono ?_); rintro e w1 ⟨rfl, hb⟩; have K1 := sat.grown (by repeat (first | exact K.out | apply sat.alloc_any | apply sat.drew | apply sat.drewN)) hb; clear hb; have K2 := Lib.hid K1; clear K1 K; (try clear a0); (try clear l0); (try clear a1); (try clear l1); (try clear a2); (try clear l2); have K := K2; clear K2))
    go_ret
    exact ⟨rfl, K.out.below⟩
  · exact newest_calls words a cap b W hc hwf h60
end Go.Proofs.Ytjnckolidgbckaa
