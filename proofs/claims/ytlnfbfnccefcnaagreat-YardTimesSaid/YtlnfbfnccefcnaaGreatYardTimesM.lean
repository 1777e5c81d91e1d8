/- Time goes by, and stays at the last one (YardTimes answers true at every input). No condition beyond the row's own. -/
import Derived.Test.YtlnfbfnccefcnaaGreatYardE
import Derived.Test.YtlnfbfnccefcnaaGreatYardF
import Derived.Test.YtlnfbfnccefcnaaGreatYardN
namespace Go.Proofs.YtlnfbfnccefcnaaGreat
open Go.RowKit Go.SepYtlnfbfnccefcnaaGreat
set_option linter.unusedSimpArgs false
set_option linter.unusedVariables false
set_option maxRecDepth 100000
set_option maxHeartbeats 4000000
def YardM.stepN (who : Int) (y : YardM) : Nat → YardM
  | 0 => y
  | n + 1 => ((YardM.stepN who y n).step who).1
theorem YardM.stepN_okn {n : Nat} {y : YardM} (h : y.okn n) (who : Int) : ∀ k : Nat, n + k ≤ 100000 → (YardM.stepN who y k).okn (n + k)
  | 0, _ => h
  | k + 1, hk => YardM.step_okn (YardM.stepN_okn h who k (by omega)) (by omega) who
abbrev confY : ConfM := ⟨1, 1, 0, 0⟩
theorem confY_ok : confY.ok := by constructor <;> decide
def yardY1 : YardM := ((YardM.new confY).call 0 ⟨0, 0, 7, 0⟩).1
def yardY2 : YardM := ((YardM.stepN 0 yardY1 4).call 0 ⟨1, 0, 0, 0⟩).1
theorem yardY1_okn : yardY1.okn 1 := YardM.call_okn (YardM.new_okn confY_ok) 0 (by unfold CallM.wf; decide)
theorem yardY2_okn : yardY2.okn 6 := YardM.call_okn (YardM.stepN_okn yardY1_okn 0 4 (by omega)) 0 (by unfold CallM.wf; decide)
def dY0 : DeedM := ⟨0, ⟨0, 0, 7, 0⟩, 0, 4, ⟨true, 0, ⟨0, 0⟩⟩⟩
def dY1 : DeedM := ⟨0, ⟨1, 0, 0, 0⟩, 5, 12, ⟨true, 7, ⟨0, 0⟩⟩⟩
theorem headY : (YardM.new confY).call 0 ⟨0, 0, 7, 0⟩ = (yardY1, 0) := rfl
theorem headY_facts : (YardM.stepN 0 yardY1 4).busy 0 = false ∧ ((YardM.stepN 0 yardY1 4).call 0 ⟨1, 0, 0, 0⟩).2 = 0 ∧ (YardM.stepN 0 yardY2 7).busy 0 = false ∧ (YardM.stepN 0 yardY2 7).deeds = [dY0, dY1] ∧ (YardM.stepN 0 yardY2 7).now = 11 := by decide
theorem ysteps_calls {E w : World} {L : List SA} {n : Nat} {y : YardM} (h : y.okn n) (who : Int) (b k : Nat) (hk : n + k < 100000) (hs : sat E w (yardA b (YardM.stepN who y k) :: L)) :
    Calls Tryz.prog 9 #[.pointer (some ⟨b, 0, none⟩), .int .i64 who] w fun e w' => e = .returned (.bool ((YardM.stepN who y k).step who).2) ∧ sat E w' (yardA b (YardM.stepN who y (k + 1)) :: L) := by
  have hk' := YardM.stepN_okn h who k (by omega)
  exact ystep_calls b _ (hk'.ok (by omega)) who (by have := hk'.m1; omega) (by have := hk'.log; omega) hs
theorem head13_calls (E : World) : Tells 5 #[] E (.bool true) := by
  have K := Lib.hid (sat.start E)
  have NW := fun w' (L : List SA) (h : sat E w' L) => Lib.hid (ynew_calls confY confY_ok h)
  have C1 := fun w' b (L : List SA) (h : sat E w' (yardA b (YardM.new confY) :: L)) => Lib.hid (ycall_calls b (YardM.new confY) ((YardM.new_okn confY_ok).ok (by omega)) 0 ⟨0, 0, 7, 0⟩ (by decide) (by decide) h)
  rw [headY] at C1
  have hf := headY_facts
  have o4 := YardM.stepN_okn yardY1_okn 0 4 (by omega)
  have o7 := YardM.stepN_okn yardY2_okn 0 7 (by omega)
  have S1 := fun w' b (L : List SA) k (hk : k ≤ 100) (h : sat E w' (yardA b (YardM.stepN 0 yardY1 k) :: L)) => Lib.hid (ysteps_calls yardY1_okn 0 b k (by omega) h)
  have S2 := fun w' b (L : List SA) k (hk : k ≤ 100) (h : sat E w' (yardA b (YardM.stepN 0 yardY2 k) :: L)) => Lib.hid (ysteps_calls yardY2_okn 0 b k (by omega) h)
  have C2 := fun w' b (L : List SA) (h : sat E w' (yardA b (YardM.stepN 0 yardY1 4) :: L)) => Lib.hid (ycall_calls b (YardM.stepN 0 yardY1 4) (o4.ok (by omega)) 0 ⟨1, 0, 0, 0⟩ (by have := o4.dl; omega) (by have := o4.m1; omega) h)
  rw [hf.2.1, show ((YardM.stepN 0 yardY1 4).call 0 ⟨1, 0, 0, 0⟩).1 = YardM.stepN 0 yardY2 0 from rfl] at C2
  have B1 := fun w' b (L : List SA) (h : sat E w' (yardA b (YardM.stepN 0 yardY1 4) :: L)) => Lib.hid (ybusy_calls b (YardM.stepN 0 yardY1 4) (o4.ok (by omega)) 0 h)
  rw [hf.1] at B1
  have B2 := fun w' b (L : List SA) (h : sat E w' (yardA b (YardM.stepN 0 yardY2 7) :: L)) => Lib.hid (ybusy_calls b (YardM.stepN 0 yardY2 7) (o7.ok (by omega)) 0 h)
  rw [hf.2.2.1] at B2
  have D2 := fun w' b (L : List SA) (h : sat E w' (yardA b (YardM.stepN 0 yardY2 7) :: L)) => Lib.hid (ydeeds_calls b (YardM.stepN 0 yardY2 7) (by have := o7.dl; omega) h)
  rw [hf.2.2.2.1] at D2
  have N2 := fun w' b (L : List SA) (h : sat E w' (yardA b (YardM.stepN 0 yardY2 7) :: L)) => Lib.hid (ynow_calls b (YardM.stepN 0 yardY2 7) h)
  rw [hf.2.2.2.2] at N2
  clear hf o4 o7
  go_enter Tryz.func5, Tryz.ntmps5
  go_wp2_with (first | (go_at_call 6; (with_reducible refine ((NW _ _ (show sat E _ _ from by iterate 6 (try (with_reducible first | exact K.out | apply sat.alloc_any | apply sat.drew | apply sat.drewN)))).out).mono ?_); rintro e w1 ⟨gy, rfl, K1⟩; have K2 := Lib.hid K1; clear K1 K; (try clear a0); (try clear l0); (try clear a1); (try clear l1); (try clear a2); (try clear l2); have K := K2; clear K2) | (go_at_call 10; (with_reducible refine ((C1 _ _ _ (show sat E _ _ from by iterate 6 (try (with_reducible first | exact K.out | apply sat.alloc_any | apply sat.drew | apply sat.drewN)))).out).mono ?_); rintro e w1 ⟨rfl, K1⟩; have K2 := Lib.hid K1; clear K1 K; (try clear a0); (try clear l0); (try clear a1); (try clear l1); (try clear a2); (try clear l2); have K := K2; clear K2))
  have K1 : sat E _ (yardA gy (YardM.stepN 0 yardY1 0) :: []) := K.out
  clear K
  have K := Lib.hid K1
  clear K1
  generalize YardM.stepN 0 yardY1 = R1 at *
  generalize YardM.stepN 0 yardY2 = R2 at *
  go_loopg [3] 4 (fun gk i w' => ∃ n : Nat, n + gk = 4 ∧ i = .int .i64 n ∧ sat E w' [yardA gy (R1 n)])
  case atStart => exact ⟨0, by simp, rfl, K.out⟩
  case round =>
    obtain ⟨n, hn, rfl, hs⟩ := hrel
    clear K
    have K := Lib.hid hs
    clear hs
    have HN := Lib.hid hn
    by_cases hlt : n < 4
    · have d0 : decide (n < 4) = true := by simpa using hlt
      have d1 : decide ((n : Int) < 4) = true := by simp; omega
      have S1' := fun w' (L : List SA) (h : sat E w' (yardA gy (R1 n) :: L)) => S1 w' gy L n (by omega) h
      obtain ⟨gk', rfl⟩ : ∃ g', gk = g' + 1 := ⟨gk - 1, by omega⟩
      clear hn
      go_wp2_with (first | (go_at_call 9; (with_reducible refine ((S1' _ _ (show sat E _ _ from by iterate 6 (try (with_reducible first | exact K.out | apply sat.alloc_any | apply sat.drew | apply sat.drewN)))).out).mono ?_); rintro e w1 ⟨rfl, K1⟩; have K2 := Lib.hid K1; clear K1 K; (try clear a0); (try clear l0); (try clear a1); (try clear l1); (try clear a2); (try clear l2); have K := K2; clear K2))
      go_roundg gk'
      case measure => omega
      case rel => exact ⟨n + 1, by have := HN.out; omega, by first | (simp; done) | (simp; exact w64 (by omega) (by omega)), K.out⟩
    · have hn4 : 4 = n := by omega
      subst hn4
      clear hn hlt
      go_wp2_with (first | (go_at_call 16; (with_reducible refine (B1 _ _ _ K.out).out.mono ?_); rintro e w1 ⟨rfl, rfl⟩) | (go_at_call 10; (with_reducible refine ((C2 _ _ _ (show sat E _ _ from by iterate 6 (try (with_reducible first | exact K.out | apply sat.alloc_any | apply sat.drew | apply sat.drewN)))).out).mono ?_); rintro e w1 ⟨rfl, K1⟩; have K2 := Lib.hid K1; clear K1 K; (try clear a0); (try clear l0); (try clear a1); (try clear l1); (try clear a2); (try clear l2); have K := K2; clear K2))
      go_loopg [4] 7 (fun gk i w' => ∃ n : Nat, n + gk = 7 ∧ i = .int .i64 n ∧ sat E w' [yardA gy (R2 n)])
      case atStart => exact ⟨0, by simp, rfl, K.out⟩
      case round =>
        obtain ⟨n, hn, rfl, hs⟩ := hrel
        clear K
        have K := Lib.hid hs
        clear hs
        have HN := Lib.hid hn
        by_cases hlt : n < 7
        · have d0 : decide (n < 7) = true := by simpa using hlt
          have d1 : decide ((n : Int) < 7) = true := by simp; omega
          have S2' := fun w' (L : List SA) (h : sat E w' (yardA gy (R2 n) :: L)) => S2 w' gy L n (by omega) h
          obtain ⟨gk', rfl⟩ : ∃ g', gk = g' + 1 := ⟨gk - 1, by omega⟩
          clear hn
          go_wp2_with (first | (go_at_call 9; (with_reducible refine ((S2' _ _ (show sat E _ _ from by iterate 6 (try (with_reducible first | exact K.out | apply sat.alloc_any | apply sat.drew | apply sat.drewN)))).out).mono ?_); rintro e w1 ⟨rfl, K1⟩; have K2 := Lib.hid K1; clear K1 K; (try clear a0); (try clear l0); (try clear a1); (try clear l1); (try clear a2); (try clear l2); have K := K2; clear K2))
          go_roundg gk'
          case measure => omega
          case rel => exact ⟨n + 1, by have := HN.out; omega, by first | (simp; done) | (simp; exact w64 (by omega) (by omega)), K.out⟩
        · have hn7 : 7 = n := by omega
          subst hn7
          clear hn hlt
          go_wp2_with (first | (go_at_call 12; (with_reducible refine (D2 _ _ _ K.out).out.mono ?_); rintro e w1 ⟨p1, k1, rfl, K1⟩; obtain ⟨g1, hg1, _⟩ := Go.SepYtlnfbfnccefcnaaGreat.row_some K1 (by decide); subst hg1; clear K; have K := Lib.hid K1; clear K1; have y5 := K.out.row_rd 0 rfl 16 _ rfl; have y6 := K.out.row_rd 0 rfl 17 _ rfl; have y7 := K.out.row_rd 0 rfl 18 _ rfl; have y8 := K.out.row_rd 0 rfl 19 _ rfl; have y9 := K.out.row_rd 0 rfl 20 _ rfl; have y10 := K.out.row_rd 0 rfl 21 _ rfl) | (go_at_call 16; (with_reducible refine (B2 _ _ _ (K.out.pick 1 rfl)).out.mono ?_); rintro e w1 ⟨rfl, rfl⟩) | (go_at_call 8; (with_reducible refine (N2 _ _ _ (K.out.pick 1 rfl)).out.mono ?_); rintro e w1 ⟨rfl, rfl⟩))
          go_ret
          exact ⟨rfl, K.out.below⟩
end Go.Proofs.YtlnfbfnccefcnaaGreat
namespace Go.Proofs.YtlnfbfnccefcnaaGreat
open Go.RowKit Go.SepYtlnfbfnccefcnaaGreat
set_option linter.unusedSimpArgs false
set_option linter.unusedVariables false
set_option maxRecDepth 100000
set_option maxHeartbeats 4000000
attribute [local go_sem] min2_w max2_w min_w max_w
def yardT (T : Int) : YardM := { YardM.new confY with now := T }
theorem yardT_okn {T : Int} (h0 : 0 ≤ T) (h1 : T ≤ MaxTime) : (yardT T).okn 0 := by
  have h := YardM.new_okn confY_ok
  exact ⟨h.conf, h.tl, h.ml, h.dl, h.m0, h.m1, h0, h1, h.wf, h.log, h.cells, h.task, h.mine⟩
def passT (T n : Int) : Int := if n > 0 then T + min n (MaxTime - T) else T
theorem yardT_pass (T n : Int) : (yardT T).pass n = yardT (passT T n) := by
  unfold YardM.pass passT
  split <;> rfl
theorem passT_bd {T : Int} (h0 : 0 ≤ T) (h1 : T ≤ MaxTime) (n : Int) : 0 ≤ passT T n ∧ passT T n ≤ MaxTime := by
  have h : T ≤ 1099511627776 := h1
  show 0 ≤ passT T n ∧ passT T n ≤ 1099511627776
  unfold passT
  split
  · show 0 ≤ T + min n (1099511627776 - T) ∧ T + min n (1099511627776 - T) ≤ 1099511627776; omega
  · omega
theorem YardM.step_now {y : YardM} {who : Int} (hb : y.busy who = true) : (y.step who).1.now = passT y.now 1 := by
  unfold YardM.step
  have hb' : (y.there who && (y.task who).isSome) = true := hb
  rw [Bool.and_eq_true] at hb'
  obtain ⟨t, hk⟩ := Option.isSome_iff_exists.1 hb'.2
  rw [hb, hk]
  simp only [Bool.not_true, Bool.false_eq_true, if_false]
  split <;> rfl
/-- The numbers of a slice, in memory that was there. -/
def OldI (w : World) (p : Option Addr) (l : List Int) : Prop := ∀ j, (hj : j < l.length) → ∃ b off, p = some ⟨b, off, none⟩ ∧ b < w.heap.size ∧ w.cell? ⟨b, off + j, none⟩ = some (.int .i64 l[j])
theorem oldI_of {W : World} {a : Option Addr} {len cap : Nat} {rows : List (List Value)} (h : RowsAt W [.int .i64] a len cap rows) : ∃ l : List Int, l.length = len ∧ (∀ e ∈ l, -9223372036854775808 ≤ e ∧ e < 9223372036854775808) ∧ OldI W a l := by
  obtain ⟨l, h1, h2, h3⟩ := oldS_of (fun n : Int => [.int .i64 n]) (fun n => -9223372036854775808 ≤ n ∧ n < 9223372036854775808) h (fun r hr => by
    obtain ⟨n0, v0, rfl, h0, k0⟩ := okAll_int hr
    obtain rfl := okAll_nil k0
    exact ⟨n0, rfl, lit_i64 h0⟩) (fun v => ⟨_, rfl⟩)
  refine ⟨l, h1, h2, fun j hj => ?_⟩
  obtain ⟨b, off, e1, e2, e3⟩ := h3 j hj
  have := e3 0 _ rfl
  simp only [List.length_cons, List.length_nil, Nat.zero_add, Nat.mul_one, Nat.add_zero] at this
  exact ⟨b, off, e1, e2, this⟩
theorem yardTimes_main (l : List Int) (p : Option Addr) (cap : Nat) (E : World) (hwf : ∀ e ∈ l, -9223372036854775808 ≤ e ∧ e < 9223372036854775808) (ho : OldI E p l) :
    Calls Tryz.prog 3 #[.slice p l.length cap] E fun e w' => e = .returned (.bool true) ∧ Below E.heap.size E w' := by
  have K := Lib.hid (sat.start E)
  have HD := fun w => Lib.hid (head13_calls w)
  by_cases h100 : (l.length : Int) > 100
  · have c0 : decide ((l.length : Int) > 100) = true := by simpa using h100
    go_enter Tryz.func3, Tryz.ntmps3
    go_wp2_with (first | (go_at_call 5; (with_reducible refine ((HD _).out).mono ?_); rintro e w1 ⟨rfl, hb⟩; have K1 := sat.grown (by repeat (with_reducible first | exact K.out | apply sat.alloc_any | apply sat.drew | apply sat.drewN)) hb; clear hb; have K2 := Lib.hid K1; clear K1 K; (try clear a0); (try clear l0); (try clear a1); (try clear l1); (try clear a2); (try clear l2); have K := K2; clear K2))
    go_ret
    exact ⟨rfl, K.out.below⟩
  · have c0 : decide ((l.length : Int) > 100) = false := by simpa using h100
    have NW := fun w' (L : List SA) (h : sat E w' L) => Lib.hid (ynew_calls confY confY_ok h)
    have H := Lib.hid ho
    have HW := Lib.hid hwf
    clear ho hwf
    go_enter Tryz.func3, Tryz.ntmps3
    go_wp2_with (first | (go_at_call 5; (with_reducible refine ((HD _).out).mono ?_); rintro e w1 ⟨rfl, hb⟩; have K1 := sat.grown (by repeat (with_reducible first | exact K.out | apply sat.alloc_any | apply sat.drew | apply sat.drewN)) hb; clear hb; have K2 := Lib.hid K1; clear K1 K; (try clear a0); (try clear l0); (try clear a1); (try clear l1); (try clear a2); (try clear l2); have K := K2; clear K2) | (go_at_call 6; (with_reducible refine ((NW _ _ (show sat E _ _ from by iterate 6 (try (with_reducible first | exact K.out | apply sat.alloc_any | apply sat.drew | apply sat.drewN)))).out).mono ?_); rintro e w1 ⟨gy, rfl, K1⟩; have K2 := Lib.hid K1; clear K1 K; (try clear a0); (try clear l0); (try clear a1); (try clear l1); (try clear a2); (try clear l2); have K := K2; clear K2))
    have K1 : sat E _ (yardA gy (yardT 0) :: []) := K.out
    clear K
    have K := Lib.hid K1
    clear K1
    go_loopg [5, 22] l.length (fun gk t i w' => ∃ (n : Nat) (T : Int), n + gk = l.length ∧ t = .int .i64 T ∧ i = .int .i64 n ∧ 0 ≤ T ∧ T ≤ MaxTime ∧ sat E w' [yardA gy (yardT T)])
    case atStart => exact ⟨0, 0, by simp, rfl, rfl, Int.le_refl _, by show (0 : Int) ≤ 1099511627776; omega, K.out⟩
    case round =>
      obtain ⟨n, T, hn, rfl, rfl, hT0, hT1, hs⟩ := hrel
      clear K
      have K := Lib.hid hs
      clear hs
      have HN := Lib.hid hn
      have hT2 : T ≤ 1099511627776 := hT1
      have HT := Lib.hid (And.intro hT0 hT1)
      by_cases hlt : n < l.length
      · have d0 : decide (n < l.length) = true := by simpa using hlt
        obtain ⟨b, off, rfl, hb0, hx0⟩ := H.out n hlt
        have x0 : wr.cell? ⟨b, off + n, none⟩ = some (.int .i64 l[n]) := (K.out.below.cell (p := ⟨b, off + n, none⟩) hb0).trans hx0
        have hwx := HW.out l[n] (List.getElem_mem hlt)
        generalize l[n] = x at *
        have PS := fun w' (L : List SA) (h : sat E w' (yardA gy (yardT T) :: L)) => Lib.hid (ypass_calls gy (yardT T) hT0 hT1 x h)
        have hb := passT_bd hT0 hT1 x
        rw [yardT_pass] at PS
        have hP : passT T x = if x ≤ 0 then T else if x > 1099511627776 - T then 1099511627776 else T + x := by
          show (if x > 0 then T + min x (1099511627776 - T) else T) = _
          (repeat' split) <;> omega
        have NO := fun w' (L : List SA) (h : sat E w' (yardA gy (yardT (passT T x)) :: L)) => Lib.hid (ynow_calls gy (yardT (passT T x)) h)
        have SO := fun w' (L : List SA) (h : sat E w' (yardA gy (yardT (passT T x)) :: L)) => Lib.hid (ystep_calls gy (yardT (passT T x)) ((yardT_okn hb.1 hb.2).ok (by omega)) 0 (by show (0 : Int) < _; omega) (by show (0 : Nat) < _; omega) h)
        rw [show (yardT (passT T x)).step 0 = (yardT (passT T x), false) from rfl] at SO
        rw [show (yardT (passT T x)).now = passT T x from rfl] at NO
        have HB := Lib.hid hb
        have v1 : wrap64 (1099511627776 - T) = 1099511627776 - T := w64 (by omega) (by omega)
        have HP := Lib.hid hP
        obtain ⟨gk', rfl⟩ : ∃ g', gk = g' + 1 := ⟨gk - 1, by have := HN.out; omega⟩
        clear hn hx0 hb
        generalize passT T x = T' at *
        clear hP hT1
        by_cases q1 : x ≤ 0
        · have e0 : decide (x ≤ 0) = true := by simpa using q1
          have e1 : T' = T := by rw [HP.out, if_pos q1]
          subst e1
          have e2 : (T' != T') = false := by simp
          clear q1
          go_wp2_with (first | (go_at_call 7; (with_reducible refine ((PS _ _ (show sat E _ _ from by iterate 6 (try (with_reducible first | exact K.out | apply sat.alloc_any | apply sat.drew | apply sat.drewN)))).out).mono ?_); rintro e w1 ⟨rfl, K1⟩; have K2 := Lib.hid K1; clear K1 K; (try clear a0); (try clear l0); (try clear a1); (try clear l1); (try clear a2); (try clear l2); have K := K2; clear K2) | (go_at_call 8; (with_reducible refine (NO _ _ K.out).out.mono ?_); rintro e w1 ⟨rfl, rfl⟩) | (go_at_call 9; (with_reducible refine ((SO _ _ (show sat E _ _ from by iterate 6 (try (with_reducible first | exact K.out | apply sat.alloc_any | apply sat.drew | apply sat.drewN)))).out).mono ?_); rintro e w1 ⟨rfl, K1⟩; have K2 := Lib.hid K1; clear K1 K; (try clear a0); (try clear l0); (try clear a1); (try clear l1); (try clear a2); (try clear l2); have K := K2; clear K2))
          go_roundg gk'
          case measure => omega
          case rel => exact ⟨n + 1, T', by have := HN.out; omega, rfl, by first | (simp; done) | (simp; exact w64 (by omega) (by omega)), HB.out.1, HB.out.2, K.out⟩
        · have e0 : decide (x ≤ 0) = false := by simpa using q1
          by_cases q2 : x > 1099511627776 - T
          · have e1 : decide (x > 1099511627776 - T) = true := by simpa using q2
            have e3 : T' = 1099511627776 := by rw [HP.out, if_neg q1, if_pos q2]
            subst e3
            clear q1 q2
            go_wp2_with (first | (go_at_call 7; (with_reducible refine ((PS _ _ (show sat E _ _ from by iterate 6 (try (with_reducible first | exact K.out | apply sat.alloc_any | apply sat.drew | apply sat.drewN)))).out).mono ?_); rintro e w1 ⟨rfl, K1⟩; have K2 := Lib.hid K1; clear K1 K; (try clear a0); (try clear l0); (try clear a1); (try clear l1); (try clear a2); (try clear l2); have K := K2; clear K2) | (go_at_call 8; (with_reducible refine (NO _ _ K.out).out.mono ?_); rintro e w1 ⟨rfl, rfl⟩) | (go_at_call 9; (with_reducible refine ((SO _ _ (show sat E _ _ from by iterate 6 (try (with_reducible first | exact K.out | apply sat.alloc_any | apply sat.drew | apply sat.drewN)))).out).mono ?_); rintro e w1 ⟨rfl, K1⟩; have K2 := Lib.hid K1; clear K1 K; (try clear a0); (try clear l0); (try clear a1); (try clear l1); (try clear a2); (try clear l2); have K := K2; clear K2))
            go_roundg gk'
            case measure => omega
            case rel => exact ⟨n + 1, _, by have := HN.out; omega, rfl, by first | (simp; done) | (simp; exact w64 (by omega) (by omega)), HB.out.1, HB.out.2, K.out⟩
          · have e1 : decide (x > 1099511627776 - T) = false := by simpa using q2
            have e3 : T + x = T' := by rw [HP.out, if_neg q1, if_neg q2]
            have v2 : wrap64 (T + x) = T' := by rw [w64 (by omega) (by omega)]; exact e3
            have e2 : (T' != T') = false := by simp
            clear q1 q2 e3
            go_wp2_with (first | (go_at_call 7; (with_reducible refine ((PS _ _ (show sat E _ _ from by iterate 6 (try (with_reducible first | exact K.out | apply sat.alloc_any | apply sat.drew | apply sat.drewN)))).out).mono ?_); rintro e w1 ⟨rfl, K1⟩; have K2 := Lib.hid K1; clear K1 K; (try clear a0); (try clear l0); (try clear a1); (try clear l1); (try clear a2); (try clear l2); have K := K2; clear K2) | (go_at_call 8; (with_reducible refine (NO _ _ K.out).out.mono ?_); rintro e w1 ⟨rfl, rfl⟩) | (go_at_call 9; (with_reducible refine ((SO _ _ (show sat E _ _ from by iterate 6 (try (with_reducible first | exact K.out | apply sat.alloc_any | apply sat.drew | apply sat.drewN)))).out).mono ?_); rintro e w1 ⟨rfl, K1⟩; have K2 := Lib.hid K1; clear K1 K; (try clear a0); (try clear l0); (try clear a1); (try clear l1); (try clear a2); (try clear l2); have K := K2; clear K2))
            go_roundg gk'
            case measure => omega
            case rel => exact ⟨n + 1, T', by have := HN.out; omega, rfl, by first | (simp; done) | (simp; exact w64 (by omega) (by omega)), HB.out.1, HB.out.2, K.out⟩
      · have d0 : decide (n < l.length) = false := by simpa using hlt
        have oT := yardT_okn hT0 hT1
        have CC := fun w' (L : List SA) (h : sat E w' (yardA gy (yardT T) :: L)) => Lib.hid (ycall_calls gy (yardT T) (oT.ok (by omega)) 0 ⟨0, 0, 0, 0⟩ (by show (0 : Nat) < _; omega) (by show (0 : Int) < _; omega) h)
        rw [show ((yardT T).call 0 ⟨0, 0, 0, 0⟩).2 = 0 from rfl] at CC
        have o2 := YardM.call_okn oT 0 (k := ⟨0, 0, 0, 0⟩) (by unfold CallM.wf; decide)
        have hbz : ((yardT T).call 0 ⟨0, 0, 0, 0⟩).1.busy 0 = true := rfl
        have hnw := YardM.step_now hbz
        rw [show ((yardT T).call 0 ⟨0, 0, 0, 0⟩).1.now = T from rfl] at hnw
        have SS := fun w' (L : List SA) (h : sat E w' (yardA gy ((yardT T).call 0 ⟨0, 0, 0, 0⟩).1 :: L)) => Lib.hid (ystep_calls gy _ (o2.ok (by omega)) 0 (by have := o2.m1; omega) (by have := o2.log; omega) h)
        have NN := fun w' (L : List SA) (h : sat E w' (yardA gy (((yardT T).call 0 ⟨0, 0, 0, 0⟩).1.step 0).1 :: L)) => Lib.hid (ynow_calls gy _ h)
        rw [hnw] at NN
        have hpt : passT T 1 = min (T + 1) 1099511627776 := by
          show (if (1 : Int) > 0 then T + min 1 (1099511627776 - T) else T) = _
          rw [if_pos (by decide)]; omega
        have v1 : wrap64 (T + 1) = T + 1 := w64 (by omega) (by omega)
        have e2 : (passT T 1 == min (T + 1) 1099511627776) = true := by rw [hpt]; simp
        clear hn hlt hbz hnw o2 oT hpt
        generalize (((yardT T).call 0 ⟨0, 0, 0, 0⟩).1.step 0) = y3 at *
        generalize ((yardT T).call 0 ⟨0, 0, 0, 0⟩).1 = y2 at *
        go_wp2_with (first | (go_at_call 10; (with_reducible refine ((CC _ _ (show sat E _ _ from by iterate 6 (try (with_reducible first | exact K.out | apply sat.alloc_any | apply sat.drew | apply sat.drewN)))).out).mono ?_); rintro e w1 ⟨rfl, K1⟩; have K2 := Lib.hid K1; clear K1 K; (try clear a0); (try clear l0); (try clear a1); (try clear l1); (try clear a2); (try clear l2); have K := K2; clear K2) | (go_at_call 9; (with_reducible refine ((SS _ _ (show sat E _ _ from by iterate 6 (try (with_reducible first | exact K.out | apply sat.alloc_any | apply sat.drew | apply sat.drewN)))).out).mono ?_); rintro e w1 ⟨rfl, K1⟩; have K2 := Lib.hid K1; clear K1 K; (try clear a0); (try clear l0); (try clear a1); (try clear l1); (try clear a2); (try clear l2); have K := K2; clear K2) | (go_at_call 8; (with_reducible refine (NN _ _ K.out).out.mono ?_); rintro e w1 ⟨rfl, rfl⟩))
        go_ret
        exact ⟨rfl, K.out.below⟩
theorem yardTimes_calls (W : World) (a : Option Addr) (len cap : Nat) (rows : List (List Value)) (h : RowsAt W [.int .i64] a len cap rows) :
    Calls Tryz.prog 3 #[.slice a len cap] W fun e W' => e = .returned (.bool true) ∧ Below W.heap.size W W' := by
  obtain ⟨l, rfl, hwf, ho⟩ := oldI_of h
  exact yardTimes_main l a cap W hwf ho
end Go.Proofs.YtlnfbfnccefcnaaGreat
