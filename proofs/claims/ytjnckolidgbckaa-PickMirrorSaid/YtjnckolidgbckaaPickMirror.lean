/- With all ends changed about the row stands the other way round (PickMirror answers true at every input). No condition beyond the row's own. -/
import Derived.Test.YtjnckolidgbckaaPickU
import Derived.Test.YtjnckolidgbckaaPickLess
namespace Go.Proofs.Ytjnckolidgbckaa
open Go.RowKit Go.SepYtjnckolidgbckaa
set_option linter.unusedSimpArgs false
set_option linter.unusedVariables false
set_option maxRecDepth 100000
set_option maxHeartbeats 4000000
attribute [local go_sem] field_state field_end field_stamp
theorem other_calls (e : Int) (w : World) : Tells 20 #[.int .i64 e] w (.int .i64 (otherM e)) := by
  unfold otherM
  by_cases h : e = 0
  · have c : (e == 0) = true := by simpa using h
    rw [if_pos h]
    clear h
    go_enter Try.func20, Try.ntmps20
    go_wp2
    go_ret
    exact ⟨rfl, Below.refl _ _⟩
  · have c : (e == 0) = false := by simpa using h
    rw [if_neg h]
    clear h
    go_enter Try.func20, Try.ntmps20
    go_wp2
    go_ret
    exact ⟨rfl, Below.refl _ _⟩
def mirRel (w0 : World) (words : List Int) (gk : Nat) (t i : Value) (w' : World) : Prop :=
  ∃ n : Nat, n + gk = words.length ∧ i = .int .i64 n ∧ sat w0 w' [rowA t 29 1 n (((turnedM words).take n).map (Value.int .u64))]
def mirRel2 (w0 : World) (X Y : SA) (m : Nat) (gk : Nat) (i : Value) (w' : World) : Prop :=
  ∃ n : Nat, n + gk = m ∧ i = .int .i64 n ∧ sat w0 w' [X, Y]
def mirRel3 (w0 : World) (X Y Z : SA) (m : Nat) (gk : Nat) (i : Value) (w' : World) : Prop :=
  ∃ n : Nat, n + gk = m ∧ i = .int .i64 n ∧ sat w0 w' [X, Y, Z]
theorem mir_calls (words : List Int) (p : Option Addr) (cap : Nat) (w : World) (hc : OldU w p words) (hwf : ∀ x ∈ words, 0 ≤ x ∧ x < 18446744073709551616) (h60 : ¬ words.length > 60) (hcap : words.length ≤ cap) :
    Tells 8 #[.slice p words.length cap] w (.bool true) := by
  have HD := fun w => Lib.hid (head_calls w)
  have K := Lib.hid (sat.start w)
  have c0 : decide ((words.length : Int) > 60) = false := by simp; omega
  have H := Lib.hid hc
  clear hc
  go_enter Try.func8, Try.ntmps8
  go_wp2_with (first | (go_at_call 9; (with_reducible refine ((HD _).out).mono ?_); rintro e w1 ⟨rfl, hb⟩; have K1 := sat.grown (by repeat (first | exact K.out | apply sat.alloc_any | apply sat.drew | apply sat.drewN)) hb; clear hb; have K2 := Lib.hid K1; clear K1 K; (try clear a0); (try clear l0); (try clear a1); (try clear l1); (try clear a2); (try clear l2); have K := K2; clear K2))
  clear HD
  go_loopg [3, 21] words.length (fun gk t i w' => mirRel w words gk t i w')
  case atStart => exact ⟨0, by simp, rfl, sat.row_empty K.out⟩
  case round =>
    obtain ⟨n, hn, rfl, hs⟩ := hrel
    clear K
    have K := Lib.hid hs
    clear hs
    by_cases hlt : n < words.length
    · have d0 : decide (n < words.length) = true := by simpa using hlt
      obtain ⟨bw, off, rfl, hb, hx0⟩ := H.out n hlt
      have hx : wr.cell? ⟨bw, off + n, none⟩ = some (.int .u64 words[n]) := (K.out.below.cell (p := ⟨bw, off + n, none⟩) hb).trans hx0
      clear hx0
      have hxw := hwf words[n] (List.getElem_mem hlt)
      have U := fun w => Lib.hid (unpack_calls words[n] hxw.1 hxw.2 w)
      have E1 : (turnedM words).take (n + 1) = (turnedM words).take n ++ [(unpack words[n]).turned.pack] := by
        rw [List.take_succ_eq_append_getElem (by simp [turnedM]; exact hlt)]
        simp [turnedM]
      have EE := Lib.hid E1
      have HN := Lib.hid hn
      have UV := fun m (hm : m < words.length) w => Lib.hid (unpack_calls words[m] (hwf words[m] (List.getElem_mem hm)).1 (hwf words[m] (List.getElem_mem hm)).2 w)
      clear hn hxw E1
      obtain ⟨gk0, rfl⟩ : ∃ g', gk = g' + 1 := ⟨gk - 1, by have := HN.out; omega⟩
      obtain ⟨p1, c1, rfl⟩ := row_any K.out
      have n60 : n < 61 := by omega
      have ncap : (n : Int) ≤ (cap : Int) := by omega
      generalize unpack words[n] = x at *
      generalize words[n] = xn at *
      unfold WordM.v at U
      by_cases hs1 : x.state = 1
      · have c1' : (x.state != 1) = false := by simpa using hs1
        have c2' : (x.state == 1) = true := by simpa using hs1
        have tv : x.turned = ⟨x.state, otherM x.fin, x.gen, x.stamp⟩ := by unfold WordM.turned; rw [if_pos hs1]
        rw [tv] at EE
        have OT := fun w => Lib.hid (other_calls x.fin w)
        have PK := fun w => Lib.hid (pack_calls ⟨x.state, otherM x.fin, x.gen, x.stamp⟩ w)
        generalize otherM x.fin = of at *
        generalize (WordM.mk x.state of x.gen x.stamp).pack = tp at *
        dsimp only at PK
        clear hs1 tv
        go_wp2_with (first | (go_at_call 13; (with_reducible refine ((U _).out).mono ?_); rintro e w1 ⟨rfl, hb⟩; have K1 := sat.grown (by repeat (first | exact K.out | apply sat.alloc_any | apply sat.drew | apply sat.drewN)) hb; clear hb; have K2 := Lib.hid K1; clear K1 K; (try clear a0); (try clear l0); (try clear a1); (try clear l1); (try clear a2); (try clear l2); have K := K2; clear K2) | ((with_reducible refine at_alloc ?_); refine st_alloc K.out (fun _ => rfl) ?_; intro gx w1 K1; simp only [List.cons_append, List.nil_append] at K1; have K2 := Lib.hid K1; clear K1 K; (try clear a0); (try clear l0); (try clear a1); (try clear l1); (try clear a2); (try clear l2); have K := K2; clear K2; have a1 := K.out.rd 1 rfl; have l1 := K.out.ltp 1 rfl) | ((with_reducible refine at_store ?_); refine st_store 1 K.out rfl rfl rfl rfl ?_ ?_ ?_ ?_; (· kernel_rfl); (· simp); (· simp [Value.oneCell']); intro w1 K1; simp only [List.set, putL] at K1; have K2 := Lib.hid K1; clear K1 K; (try clear a0); (try clear l0); (try clear a1); (try clear l1); (try clear a2); (try clear l2); have K := K2; clear K2; have a1 := K.out.rd 1 rfl; have l1 := K.out.ltp 1 rfl))
        go_loopg [36] n (fun gk i w' => mirRel2 w (rowA (.slice p1 n c1) 29 1 n (((turnedM words).take n).map (Value.int .u64))) (pt gx (.cells [.int .i64 x.state, .int .i64 x.fin, .int .i64 x.gen, .int .i64 x.stamp.lo, .int .i64 x.stamp.hi].toArray 34 (0, 0))) n gk i w')
        case atStart => exact ⟨0, by simp, rfl, K.out⟩
        case round =>
          obtain ⟨m, hm, rfl, hs⟩ := hrel
          clear K
          have K := Lib.hid hs
          clear hs
          have a1 := K.out.rd 1 rfl; have l1 := K.out.ltp 1 rfl
          by_cases hlt2 : m < n
          · have d1 : decide (m < n) = true := by simpa using hlt2
            have HM := Lib.hid hm
            obtain ⟨gk1, rfl⟩ : ∃ g', gk = g' + 1 := ⟨gk - 1, by omega⟩
            have hmw : m < words.length := by omega
            obtain ⟨bw', off', e', -, hy0⟩ := H.out m hmw
            simp only [Option.some.injEq, Addr.mk.injEq, and_true] at e'
            obtain ⟨rfl, rfl⟩ := e'
            have hy : wr.cell? ⟨bw, off + m, none⟩ = some (.int .u64 words[m]) := (K.out.below.cell (p := ⟨bw, off + m, none⟩) hb).trans hy0
            have V := fun w => UV m hmw w
            unfold WordM.v at V
            generalize unpack words[m] = y at *
            generalize words[m] = yn at *
            clear hm hy0
            have cs : (y.state == 1) = false ∨ ((y.state == 1) = true ∧ ((y.stamp.lo == x.stamp.lo) = false ∨ ((y.stamp.lo == x.stamp.lo) = true ∧ ((y.stamp.hi == x.stamp.hi) = false ∨ (y.stamp.hi == x.stamp.hi) = true)))) := by
              cases (y.state == 1) <;> cases (y.stamp.lo == x.stamp.lo) <;> cases (y.stamp.hi == x.stamp.hi) <;> simp
            rcases cs with e1 | ⟨e1, e2 | ⟨e2, e3 | e3⟩⟩
            · go_wp2_with (first | (go_at_call 13; (with_reducible refine ((V _).out).mono ?_); rintro e w1 ⟨rfl, hb⟩; have K1 := sat.grown (by repeat (first | exact K.out | apply sat.alloc_any | apply sat.drew | apply sat.drewN)) hb; clear hb; have K2 := Lib.hid K1; clear K1 K; (try clear a0); (try clear l0); (try clear a1); (try clear l1); (try clear a2); (try clear l2); have K := K2; clear K2; have a1 := K.out.rd 1 rfl; have l1 := K.out.ltp 1 rfl) | ((with_reducible refine at_alloc ?_); refine st_alloc K.out (fun _ => rfl) ?_; intro gy w1 K1; simp only [List.cons_append, List.nil_append] at K1; have K2 := Lib.hid K1; clear K1 K; (try clear a0); (try clear l0); (try clear a1); (try clear l1); (try clear a2); (try clear l2); have K := K2; clear K2; have a1 := K.out.rd 1 rfl; have l1 := K.out.ltp 1 rfl; have a2 := K.out.rd 2 rfl; have l2 := K.out.ltp 2 rfl) | ((with_reducible refine at_store ?_); refine st_store 2 K.out rfl rfl rfl rfl ?_ ?_ ?_ ?_; (· kernel_rfl); (· simp); (· simp [Value.oneCell']); intro w1 K1; simp only [List.set, putL] at K1; have K2 := Lib.hid K1; clear K1 K; (try clear a0); (try clear l0); (try clear a1); (try clear l1); (try clear a2); (try clear l2); have K := K2; clear K2; have a1 := K.out.rd 1 rfl; have l1 := K.out.ltp 1 rfl; have a2 := K.out.rd 2 rfl; have l2 := K.out.ltp 2 rfl))
              go_roundg gk1
              case measure => omega
              case rel => exact ⟨m + 1, by have := HM.out; omega, by simp, (K.out.pick 2 rfl).drop⟩
            · go_wp2_with (first | (go_at_call 13; (with_reducible refine ((V _).out).mono ?_); rintro e w1 ⟨rfl, hb⟩; have K1 := sat.grown (by repeat (first | exact K.out | apply sat.alloc_any | apply sat.drew | apply sat.drewN)) hb; clear hb; have K2 := Lib.hid K1; clear K1 K; (try clear a0); (try clear l0); (try clear a1); (try clear l1); (try clear a2); (try clear l2); have K := K2; clear K2; have a1 := K.out.rd 1 rfl; have l1 := K.out.ltp 1 rfl) | ((with_reducible refine at_alloc ?_); refine st_alloc K.out (fun _ => rfl) ?_; intro gy w1 K1; simp only [List.cons_append, List.nil_append] at K1; have K2 := Lib.hid K1; clear K1 K; (try clear a0); (try clear l0); (try clear a1); (try clear l1); (try clear a2); (try clear l2); have K := K2; clear K2; have a1 := K.out.rd 1 rfl; have l1 := K.out.ltp 1 rfl; have a2 := K.out.rd 2 rfl; have l2 := K.out.ltp 2 rfl) | ((with_reducible refine at_store ?_); refine st_store 2 K.out rfl rfl rfl rfl ?_ ?_ ?_ ?_; (· kernel_rfl); (· simp); (· simp [Value.oneCell']); intro w1 K1; simp only [List.set, putL] at K1; have K2 := Lib.hid K1; clear K1 K; (try clear a0); (try clear l0); (try clear a1); (try clear l1); (try clear a2); (try clear l2); have K := K2; clear K2; have a1 := K.out.rd 1 rfl; have l1 := K.out.ltp 1 rfl; have a2 := K.out.rd 2 rfl; have l2 := K.out.ltp 2 rfl))
              go_roundg gk1
              case measure => omega
              case rel => exact ⟨m + 1, by have := HM.out; omega, by simp, (K.out.pick 2 rfl).drop⟩
            · go_wp2_with (first | (go_at_call 13; (with_reducible refine ((V _).out).mono ?_); rintro e w1 ⟨rfl, hb⟩; have K1 := sat.grown (by repeat (first | exact K.out | apply sat.alloc_any | apply sat.drew | apply sat.drewN)) hb; clear hb; have K2 := Lib.hid K1; clear K1 K; (try clear a0); (try clear l0); (try clear a1); (try clear l1); (try clear a2); (try clear l2); have K := K2; clear K2; have a1 := K.out.rd 1 rfl; have l1 := K.out.ltp 1 rfl) | ((with_reducible refine at_alloc ?_); refine st_alloc K.out (fun _ => rfl) ?_; intro gy w1 K1; simp only [List.cons_append, List.nil_append] at K1; have K2 := Lib.hid K1; clear K1 K; (try clear a0); (try clear l0); (try clear a1); (try clear l1); (try clear a2); (try clear l2); have K := K2; clear K2; have a1 := K.out.rd 1 rfl; have l1 := K.out.ltp 1 rfl; have a2 := K.out.rd 2 rfl; have l2 := K.out.ltp 2 rfl) | ((with_reducible refine at_store ?_); refine st_store 2 K.out rfl rfl rfl rfl ?_ ?_ ?_ ?_; (· kernel_rfl); (· simp); (· simp [Value.oneCell']); intro w1 K1; simp only [List.set, putL] at K1; have K2 := Lib.hid K1; clear K1 K; (try clear a0); (try clear l0); (try clear a1); (try clear l1); (try clear a2); (try clear l2); have K := K2; clear K2; have a1 := K.out.rd 1 rfl; have l1 := K.out.ltp 1 rfl; have a2 := K.out.rd 2 rfl; have l2 := K.out.ltp 2 rfl))
              go_roundg gk1
              case measure => omega
              case rel => exact ⟨m + 1, by have := HM.out; omega, by simp, (K.out.pick 2 rfl).drop⟩
            · go_wp2_with (first | (go_at_call 13; (with_reducible refine ((V _).out).mono ?_); rintro e w1 ⟨rfl, hb⟩; have K1 := sat.grown (by repeat (first | exact K.out | apply sat.alloc_any | apply sat.drew | apply sat.drewN)) hb; clear hb; have K2 := Lib.hid K1; clear K1 K; (try clear a0); (try clear l0); (try clear a1); (try clear l1); (try clear a2); (try clear l2); have K := K2; clear K2; have a1 := K.out.rd 1 rfl; have l1 := K.out.ltp 1 rfl) | ((with_reducible refine at_alloc ?_); refine st_alloc K.out (fun _ => rfl) ?_; intro gy w1 K1; simp only [List.cons_append, List.nil_append] at K1; have K2 := Lib.hid K1; clear K1 K; (try clear a0); (try clear l0); (try clear a1); (try clear l1); (try clear a2); (try clear l2); have K := K2; clear K2; have a1 := K.out.rd 1 rfl; have l1 := K.out.ltp 1 rfl; have a2 := K.out.rd 2 rfl; have l2 := K.out.ltp 2 rfl) | ((with_reducible refine at_store ?_); refine st_store 2 K.out rfl rfl rfl rfl ?_ ?_ ?_ ?_; (· kernel_rfl); (· simp); (· simp [Value.oneCell']); intro w1 K1; simp only [List.set, putL] at K1; have K2 := Lib.hid K1; clear K1 K; (try clear a0); (try clear l0); (try clear a1); (try clear l1); (try clear a2); (try clear l2); have K := K2; clear K2; have a1 := K.out.rd 1 rfl; have l1 := K.out.ltp 1 rfl; have a2 := K.out.rd 2 rfl; have l2 := K.out.ltp 2 rfl))
              go_ret
              exact ⟨rfl, K.out.below⟩
          · have hmn : m = n := by omega
            subst hmn
            have d1 : decide (m < m) = false := by simp
            clear hm hlt2 UV
            go_wp2_with (first | (go_at_call 20; (with_reducible refine ((OT _).out).mono ?_); rintro e w1 ⟨rfl, hb⟩; have K1 := sat.grown (by repeat (first | exact K.out | apply sat.alloc_any | apply sat.drew | apply sat.drewN)) hb; clear hb; have K2 := Lib.hid K1; clear K1 K; (try clear a0); (try clear l0); (try clear a1); (try clear l1); (try clear a2); (try clear l2); have K := K2; clear K2; have a1 := K.out.rd 1 rfl; have l1 := K.out.ltp 1 rfl) | ((with_reducible refine at_store ?_); refine st_store 1 K.out rfl rfl rfl rfl ?_ ?_ ?_ ?_; (· kernel_rfl); (· simp); (· simp [Value.oneCell']); intro w1 K1; simp only [List.set, putL] at K1; have K2 := Lib.hid K1; clear K1 K; (try clear a0); (try clear l0); (try clear a1); (try clear l1); (try clear a2); (try clear l2); have K := K2; clear K2; have a1 := K.out.rd 1 rfl; have l1 := K.out.ltp 1 rfl) | (go_at_call 19; (with_reducible refine ((PK _).out).mono ?_); rintro e w1 ⟨rfl, hb⟩; have K1 := sat.grown (by repeat (first | exact K.out | apply sat.alloc_any | apply sat.drew | apply sat.drewN)) hb; clear hb; have K2 := Lib.hid K1; clear K1 K; (try clear a0); (try clear l0); (try clear a1); (try clear l1); (try clear a2); (try clear l2); have K := K2; clear K2; have a1 := K.out.rd 1 rfl; have l1 := K.out.ltp 1 rfl) | ((with_reducible refine at_append ?_); refine st_append 0 29 1 8 Try.underlying22 u64Info (by repeat (first | exact K.out | apply sat.alloc_any | apply sat.drew | apply sat.drewN)) rfl rfl rfl rfl (box1_at' _ [_] _) ?_ Nat.one_pos ?_ ?_ ?_; (· simp [Value.oneCell']); (· simp only [maxLen]; omega); (· omega); intro p2 n2 c2 w1 K1; simp only [List.set] at K1; have K2 := Lib.hid K1; clear K1 K; have K := K2; clear K2))
            go_roundg gk0
            case measure => omega
            case rel =>
              refine ⟨m + 1, by have := HN.out; omega, by simp, ?_⟩
              have K1 := K.out.swap.drop
              rw [EE.out, List.map_append]
              exact K1
      · have c1' : (x.state != 1) = true := by simpa using hs1
        have tv : x.turned = ⟨0, 1, 0, ⟨0, 0⟩⟩ := by unfold WordM.turned; rw [if_neg hs1]
        rw [tv] at EE
        have OT := fun w => Lib.hid (show Tells 20 #[.int .i64 0] w (.int .i64 1) from other_calls 0 w)
        have PK := fun w => Lib.hid (pack_calls ⟨0, 1, 0, ⟨0, 0⟩⟩ w)
        generalize (WordM.mk 0 1 0 ⟨0, 0⟩).pack = tp at *
        dsimp only at PK
        clear hs1 tv
        go_wp2_with (first | (go_at_call 13; (with_reducible refine ((U _).out).mono ?_); rintro e w1 ⟨rfl, hb⟩; have K1 := sat.grown (by repeat (first | exact K.out | apply sat.alloc_any | apply sat.drew | apply sat.drewN)) hb; clear hb; have K2 := Lib.hid K1; clear K1 K; (try clear a0); (try clear l0); (try clear a1); (try clear l1); (try clear a2); (try clear l2); have K := K2; clear K2) | ((with_reducible refine at_alloc ?_); refine st_alloc K.out (fun _ => rfl) ?_; intro gx w1 K1; simp only [List.cons_append, List.nil_append] at K1; have K2 := Lib.hid K1; clear K1 K; (try clear a0); (try clear l0); (try clear a1); (try clear l1); (try clear a2); (try clear l2); have K := K2; clear K2; have a1 := K.out.rd 1 rfl; have l1 := K.out.ltp 1 rfl) | ((with_reducible refine at_store ?_); refine st_store 1 K.out rfl rfl rfl rfl ?_ ?_ ?_ ?_; (· kernel_rfl); (· simp); (· simp [Value.oneCell']); intro w1 K1; simp only [List.set, putL] at K1; have K2 := Lib.hid K1; clear K1 K; (try clear a0); (try clear l0); (try clear a1); (try clear l1); (try clear a2); (try clear l2); have K := K2; clear K2; have a1 := K.out.rd 1 rfl; have l1 := K.out.ltp 1 rfl))
        go_loopg [36] n (fun gk i w' => mirRel2 w (rowA (.slice p1 n c1) 29 1 n (((turnedM words).take n).map (Value.int .u64))) (pt gx (.cells [.int .i64 0, .int .i64 0, .int .i64 0, .int .i64 0, .int .i64 0].toArray 34 (0, 0))) n gk i w')
        case atStart => exact ⟨0, by simp, rfl, K.out⟩
        case round =>
          obtain ⟨m, hm, rfl, hs⟩ := hrel
          clear K
          have K := Lib.hid hs
          clear hs
          have a1 := K.out.rd 1 rfl; have l1 := K.out.ltp 1 rfl
          by_cases hlt2 : m < n
          · have d1 : decide (m < n) = true := by simpa using hlt2
            have HM := Lib.hid hm
            obtain ⟨gk1, rfl⟩ : ∃ g', gk = g' + 1 := ⟨gk - 1, by omega⟩
            have hmw : m < words.length := by omega
            obtain ⟨bw', off', e', -, hy0⟩ := H.out m hmw
            simp only [Option.some.injEq, Addr.mk.injEq, and_true] at e'
            obtain ⟨rfl, rfl⟩ := e'
            have hy : wr.cell? ⟨bw, off + m, none⟩ = some (.int .u64 words[m]) := (K.out.below.cell (p := ⟨bw, off + m, none⟩) hb).trans hy0
            have V := fun w => UV m hmw w
            unfold WordM.v at V
            generalize unpack words[m] = y at *
            generalize words[m] = yn at *
            clear hm hy0
            go_wp2_with (first | (go_at_call 13; (with_reducible refine ((V _).out).mono ?_); rintro e w1 ⟨rfl, hb⟩; have K1 := sat.grown (by repeat (first | exact K.out | apply sat.alloc_any | apply sat.drew | apply sat.drewN)) hb; clear hb; have K2 := Lib.hid K1; clear K1 K; (try clear a0); (try clear l0); (try clear a1); (try clear l1); (try clear a2); (try clear l2); have K := K2; clear K2; have a1 := K.out.rd 1 rfl; have l1 := K.out.ltp 1 rfl) | ((with_reducible refine at_alloc ?_); refine st_alloc K.out (fun _ => rfl) ?_; intro gy w1 K1; simp only [List.cons_append, List.nil_append] at K1; have K2 := Lib.hid K1; clear K1 K; (try clear a0); (try clear l0); (try clear a1); (try clear l1); (try clear a2); (try clear l2); have K := K2; clear K2; have a1 := K.out.rd 1 rfl; have l1 := K.out.ltp 1 rfl; have a2 := K.out.rd 2 rfl; have l2 := K.out.ltp 2 rfl) | ((with_reducible refine at_store ?_); refine st_store 2 K.out rfl rfl rfl rfl ?_ ?_ ?_ ?_; (· kernel_rfl); (· simp); (· simp [Value.oneCell']); intro w1 K1; simp only [List.set, putL] at K1; have K2 := Lib.hid K1; clear K1 K; (try clear a0); (try clear l0); (try clear a1); (try clear l1); (try clear a2); (try clear l2); have K := K2; clear K2; have a1 := K.out.rd 1 rfl; have l1 := K.out.ltp 1 rfl; have a2 := K.out.rd 2 rfl; have l2 := K.out.ltp 2 rfl))
            go_roundg gk1
            case measure => omega
            case rel => exact ⟨m + 1, by have := HM.out; omega, by simp, (K.out.pick 2 rfl).drop⟩
          · have hmn : m = n := by omega
            subst hmn
            have d1 : decide (m < m) = false := by simp
            clear hm hlt2 UV
            go_wp2_with (first | (go_at_call 20; (with_reducible refine ((OT _).out).mono ?_); rintro e w1 ⟨rfl, hb⟩; have K1 := sat.grown (by repeat (first | exact K.out | apply sat.alloc_any | apply sat.drew | apply sat.drewN)) hb; clear hb; have K2 := Lib.hid K1; clear K1 K; (try clear a0); (try clear l0); (try clear a1); (try clear l1); (try clear a2); (try clear l2); have K := K2; clear K2; have a1 := K.out.rd 1 rfl; have l1 := K.out.ltp 1 rfl) | ((with_reducible refine at_store ?_); refine st_store 1 K.out rfl rfl rfl rfl ?_ ?_ ?_ ?_; (· kernel_rfl); (· simp); (· simp [Value.oneCell']); intro w1 K1; simp only [List.set, putL] at K1; have K2 := Lib.hid K1; clear K1 K; (try clear a0); (try clear l0); (try clear a1); (try clear l1); (try clear a2); (try clear l2); have K := K2; clear K2; have a1 := K.out.rd 1 rfl; have l1 := K.out.ltp 1 rfl) | (go_at_call 19; (with_reducible refine ((PK _).out).mono ?_); rintro e w1 ⟨rfl, hb⟩; have K1 := sat.grown (by repeat (first | exact K.out | apply sat.alloc_any | apply sat.drew | apply sat.drewN)) hb; clear hb; have K2 := Lib.hid K1; clear K1 K; (try clear a0); (try clear l0); (try clear a1); (try clear l1); (try clear a2); (try clear l2); have K := K2; clear K2; have a1 := K.out.rd 1 rfl; have l1 := K.out.ltp 1 rfl) | ((with_reducible refine at_append ?_); refine st_append 0 29 1 8 Try.underlying22 u64Info (by repeat (first | exact K.out | apply sat.alloc_any | apply sat.drew | apply sat.drewN)) rfl rfl rfl rfl (box1_at' _ [_] _) ?_ Nat.one_pos ?_ ?_ ?_; (· simp [Value.oneCell']); (· simp only [maxLen]; omega); (· omega); intro p2 n2 c2 w1 K1; simp only [List.set] at K1; have K2 := Lib.hid K1; clear K1 K; have K := K2; clear K2))
            go_roundg gk0
            case measure => omega
            case rel =>
              refine ⟨m + 1, by have := HN.out; omega, by simp, ?_⟩
              have K1 := K.out.swap.drop
              rw [EE.out, List.map_append]
              exact K1
    · have hnl : n = words.length := by omega
      subst hnl
      have d0 : decide (words.length < words.length) = false := by simp
      have K1 := K.out
      rw [List.take_of_length_le (by simp [turnedM])] at K1
      clear K hn hlt
      have K := Lib.hid K1
      clear K1
      obtain ⟨p1, c1, rfl⟩ := row_any K.out
      have O := fun w' (b : Below w.heap.size w w') => Lib.hid (order_any words p cap w' (H.out.grown b) hwf (by omega))
      have tl : (turnedM words).length = words.length := by simp [turnedM]
      have hwf' : ∀ z ∈ turnedM words, 0 ≤ z ∧ z < 18446744073709551616 := fun z hz => by
        obtain ⟨y, _, rfl⟩ := List.mem_map.1 hz
        exact pack_bd _
      have O2 := fun w' (p3 : Option Addr) (c3 n3 : Nat) (hn3 : n3 = words.length) (h : OldU w' p3 (turnedM words)) => Lib.hid (show Calls Try.prog 10 #[.slice p3 n3 c3] w' (fun e w'' => ∃ v, e = .returned v ∧ sat w' w'' [rowA v 3 1 (orderM (turnedM words)).length ((orderM (turnedM words)).map (Value.int .i64))]) from by
        have h2 := order_any (turnedM words) p3 c3 w' h hwf' (by rw [tl]; omega)
        rw [tl, ← hn3] at h2
        exact h2)
      rw [orderM_turned] at O2
      have q := orderM_len words
      generalize orderM words = l at *
      have hrl : l.reverse.length = l.length := by simp
      have hget : ∀ i : Nat, i < l.length → l.reverse[l.length - 1 - i]? = l[i]? := fun i hi => by
        rw [List.getElem?_reverse (by omega)]
        congr 1
        omega
      generalize l.reverse = r at *
      have e2 : ((l.length : Int) != (r.length : Int)) = false := by simp; omega
      have GT := Lib.hid (And.intro hget hrl)
      clear hget hrl tl hwf' hwf
      go_wp2_with (first | (go_at_call 10; (with_reducible refine (O _ K.out.below).out.mono ?_); rintro e w1 ⟨v, rfl, K1⟩; obtain ⟨p2, c2, rfl⟩ := row_any K1; have K2 := Lib.hid ((K.out.join K1).swap); clear K1 K; have K := K2; clear K2) | (go_at_call 10; (with_reducible refine (O2 _ _ _ _ rfl (oldU_row (RowKit.Hid.out K) rfl)).out.mono ?_); rintro e w1 ⟨v, rfl, K1⟩; obtain ⟨p3, c3, rfl⟩ := row_any K1; have K2 := Lib.hid (K.out.join K1); clear K1 K; have K := K2; clear K2))
      clear O O2
      go_loopg [79] l.length (fun gk i w' => mirRel3 w (rowA (.slice p3 r.length c3) 3 1 r.length (r.map (Value.int .i64))) (rowA (.slice p1 words.length c1) 29 1 words.length ((turnedM words).map (Value.int .u64))) (rowA (.slice p2 l.length c2) 3 1 l.length (l.map (Value.int .i64))) l.length gk i w')
      case atStart => exact ⟨0, by simp, rfl, K.out⟩
      case round =>
        obtain ⟨n, hn, rfl, hs⟩ := hrel
        clear K
        have K := Lib.hid hs
        clear hs
        by_cases hlt : n < l.length
        · have d1 : decide (n < l.length) = true := by simpa using hlt
          have rl := GT.out.2
          obtain ⟨g3, rfl, -⟩ := row_some K.out (by omega)
          obtain ⟨g2, rfl, -⟩ := row_some (K.out.pick 2 rfl) (by omega)
          obtain ⟨k, hk⟩ : ∃ k : Nat, k = l.length - 1 - n := ⟨_, rfl⟩
          have hkr : k < r.length := by omega
          have hx : l[n]? = some l[n] := List.getElem?_eq_getElem hlt
          have hy : r[k]? = some l[n] := by rw [hk, GT.out.1 n hlt]; exact hx
          have F : ∀ w', sat w w' [rowA (.slice (some ⟨g3, 0, none⟩) r.length c3) 3 1 r.length (r.map (Value.int .i64)), rowA (.slice p1 words.length c1) 29 1 words.length ((turnedM words).map (Value.int .u64)), rowA (.slice (some ⟨g2, 0, none⟩) l.length c2) 3 1 l.length (l.map (Value.int .i64))] → w'.cell? ⟨g3, k, none⟩ = some (.int .i64 l[n]) ∧ w'.cell? ⟨g2, n, none⟩ = some (.int .i64 l[n]) := fun w' h => ⟨h.row_rd 0 rfl k _ (by rw [List.getElem?_map, hy]; rfl), h.row_rd 2 rfl n _ (by rw [List.getElem?_map, hx]; rfl)⟩
          have FX := Lib.hid F
          clear F hx hy
          obtain ⟨gk', rfl⟩ : ∃ g', gk = g' + 1 := ⟨gk - 1, by omega⟩
          have HN := Lib.hid hn
          have hn60 : n < 1000 := by omega
          have ew1 : IntKind.i64.wrap ((r.length : Int) - 1) = (r.length : Int) - 1 := by rw [IntKind.wrap_i64]; omega
          have ew2 : IntKind.i64.wrap ((r.length : Int) - 1 - (n : Int)) = (k : Int) := by rw [IntKind.wrap_i64]; omega
          clear hn hk rl
          generalize l[n] = x at *
          have cx : (x != x) = false := by simp
          go_wp2
          go_region_held3 (fun w' => w'.cell? ⟨g3, k, none⟩ = some (.int .i64 x) ∧ w'.cell? ⟨g2, n, none⟩ = some (.int .i64 x)) (first | exact FX.out _ (by repeat (first | exact K.out | apply sat.alloc_any | apply sat.drew | apply sat.drewN)) | go_keep) (fail)
          all_goals go_wp2
          all_goals go_roundg gk'
          case measure => omega
          case rel => exact ⟨n + 1, by have := HN.out; omega, (by first | (simp; done) | (simp; exact w64 (by omega) (by omega))), (by repeat (first | exact K.out | apply sat.alloc_any | apply sat.drew | apply sat.drewN))⟩
        · have d1 : decide (n < l.length) = false := by simpa using hlt
          clear hn
          go_wp2
          go_ret
          exact ⟨rfl, K.out.below⟩
theorem pickMirror_calls (W : World) (a : Option Addr) (len cap : Nat) (rows : List (List Value)) (h : RowsAt W [.int .u64] a len cap rows) :
    Calls Try.prog 8 #[.slice a len cap] W fun e W' => e = .returned (.bool true) ∧ Below W.heap.size W W' := by
  have hle := h.le
  obtain ⟨words, rfl, hwf, hc⟩ := oldU_of h
  by_cases h60 : words.length > 60
  · have HD := fun w => Lib.hid (head_calls w)
    have K := Lib.hid (sat.start W)
    have c0 : decide ((words.length : Int) > 60) = true := by simp; omega
    clear hc h
    go_enter Try.func8, Try.ntmps8
    go_wp2_with (first | (go_at_call 9; (with_reducible refine ((HD _).out).mono ?_); rintro e w1 ⟨rfl, hb⟩; have K1 := sat.grown (by repeat (first | exact K.out | apply sat.alloc_any | apply sat.drew | apply sat.drewN)) hb; clear hb; have K2 := Lib.hid K1; clear K1 K; (try clear a0); (try clear l0); (try clear a1); (try clear l1); (try clear a2); (try clear l2); have K := K2; clear K2))
    go_ret
    exact ⟨rfl, K.out.below⟩
  · exact mir_calls words a cap W hc hwf h60 hle
end Go.Proofs.Ytjnckolidgbckaa
