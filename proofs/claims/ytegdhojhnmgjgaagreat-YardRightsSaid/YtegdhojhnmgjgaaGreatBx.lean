/- Several texts in one: YardH. Each says ahead of it what it shows. -/
import Derived.Test.YtegdhojhnmgjgaaGreatBb
import Derived.Test.YtegdhojhnmgjgaaGreatBc
set_option linter.unusedVariables false
set_option linter.unusedSimpArgs false
/- The example that stands ahead of each statement of yard (head). No condition. -/
namespace Go.Proofs.YtegdhojhnmgjgaaGreat
open Go.RowKit Go.SepYtegdhojhnmgjgaaGreat
set_option maxRecDepth 100000
set_option maxHeartbeats 4000000
def YardM.stepN (who : Int) (y : YardM) : Nat → YardM
  | 0 => y
  | n + 1 => ((YardM.stepN who y n).step who).1
theorem YardM.stepN_okn {n : Nat} {y : YardM} (h : y.okn n) (who : Int) : ∀ k : Nat, n + k ≤ 100000 → (YardM.stepN who y k).okn (n + k)
  | 0, _ => h
  | k + 1, hk => YardM.step_okn (YardM.stepN_okn h who k (by omega)) (by omega) who
abbrev confY : ConfM := ⟨1, 1, 0, 0⟩
theorem confY_ok : confY.ok := by constructor <;> decide
def yardY1 : YardM := ((YardM.new confY).call 0 ⟨0, 0, 7, 0⟩).1
def yardY2 : YardM := ((YardM.stepN 0 yardY1 4).call 0 ⟨1, 0, 0, 0⟩).1
theorem yardY1_okn : yardY1.okn 1 := YardM.call_okn (YardM.new_okn confY_ok) 0 (by unfold CallM.wf; decide)
theorem yardY2_okn : yardY2.okn 6 := YardM.call_okn (YardM.stepN_okn yardY1_okn 0 4 (by omega)) 0 (by unfold CallM.wf; decide)
def dY0 : DeedM := ⟨0, ⟨0, 0, 7, 0⟩, 0, 4, ⟨true, 0, ⟨0, 0⟩⟩⟩
def dY1 : DeedM := ⟨0, ⟨1, 0, 0, 0⟩, 5, 12, ⟨true, 7, ⟨0, 0⟩⟩⟩
theorem headY : (YardM.new confY).call 0 ⟨0, 0, 7, 0⟩ = (yardY1, 0) := rfl
theorem headY_facts : (YardM.stepN 0 yardY1 4).busy 0 = false ∧ ((YardM.stepN 0 yardY1 4).call 0 ⟨1, 0, 0, 0⟩).2 = 0 ∧ (YardM.stepN 0 yardY2 7).busy 0 = false ∧ (YardM.stepN 0 yardY2 7).deeds = [dY0, dY1] ∧ (YardM.stepN 0 yardY2 7).now = 11 := by decide
theorem ysteps_calls {E w : World} {L : List SA} {n : Nat} {y : YardM} (h : y.okn n) (who : Int) (b k : Nat) (hk : n + k < 100000) (hs : sat E w (yardA b (YardM.stepN who y k) :: L)) :
    Calls Tryz.prog 23 #[.pointer (some ⟨b, 0, none⟩), .int .i64 who] w fun e w' => e = .returned (.bool ((YardM.stepN who y k).step who).2) ∧ sat E w' (yardA b (YardM.stepN who y (k + 1)) :: L) := by
  have hk' := YardM.stepN_okn h who k (by omega)
  exact ystep_calls b _ (hk'.ok (by omega)) who (by have := hk'.m1; omega) (by have := hk'.log; omega) hs
theorem head13_calls (E : World) : Tells 9 #[] E (.bool true) := by
  have K := Lib.hid (sat.start E)
  have NW := fun w' (L : List SA) (h : sat E w' L) => Lib.hid (ynew_calls confY confY_ok h)
  have C1 := fun w' b (L : List SA) (h : sat E w' (yardA b (YardM.new confY) :: L)) => Lib.hid (ycall_calls b (YardM.new confY) ((YardM.new_okn confY_ok).ok (by omega)) 0 ⟨0, 0, 7, 0⟩ (by decide) (by decide) h)
  rw [headY] at C1
  have hf := headY_facts
  have o4 := YardM.stepN_okn yardY1_okn 0 4 (by omega)
  have o7 := YardM.stepN_okn yardY2_okn 0 7 (by omega)
  have S1 := fun w' b (L : List SA) k (hk : k ≤ 100) (h : sat E w' (yardA b (YardM.stepN 0 yardY1 k) :: L)) => Lib.hid (ysteps_calls yardY1_okn 0 b k (by omega) h)
  have S2 := fun w' b (L : List SA) k (hk : k ≤ 100) (h : sat E w' (yardA b (YardM.stepN 0 yardY2 k) :: L)) => Lib.hid (ysteps_calls yardY2_okn 0 b k (by omega) h)
  have C2 := fun w' b (L : List SA) (h : sat E w' (yardA b (YardM.stepN 0 yardY1 4) :: L)) => Lib.hid (ycall_calls b (YardM.stepN 0 yardY1 4) (o4.ok (by omega)) 0 ⟨1, 0, 0, 0⟩ (by have := o4.dl; omega) (by have := o4.m1; omega) h)
  rw [hf.2.1, show ((YardM.stepN 0 yardY1 4).call 0 ⟨1, 0, 0, 0⟩).1 = YardM.stepN 0 yardY2 0 from rfl] at C2
  have B1 := fun w' b (L : List SA) (h : sat E w' (yardA b (YardM.stepN 0 yardY1 4) :: L)) => Lib.hid (ybusy_calls b (YardM.stepN 0 yardY1 4) (o4.ok (by omega)) 0 h)
  rw [hf.1] at B1
  have B2 := fun w' b (L : List SA) (h : sat E w' (yardA b (YardM.stepN 0 yardY2 7) :: L)) => Lib.hid (ybusy_calls b (YardM.stepN 0 yardY2 7) (o7.ok (by omega)) 0 h)
  rw [hf.2.2.1] at B2
  have D2 := fun w' b (L : List SA) (h : sat E w' (yardA b (YardM.stepN 0 yardY2 7) :: L)) => Lib.hid (ydeeds_calls b (YardM.stepN 0 yardY2 7) (by have := o7.dl; omega) h)
  rw [hf.2.2.2.1] at D2
  have N2 := fun w' b (L : List SA) (h : sat E w' (yardA b (YardM.stepN 0 yardY2 7) :: L)) => Lib.hid (ynow_calls b (YardM.stepN 0 yardY2 7) h)
  rw [hf.2.2.2.2] at N2
  clear hf o4 o7
  go_enter Tryz.func9, Tryz.ntmps9
  go_wp2_with (first | (go_at_call 11; (with_reducible refine ((NW _ _ (show sat E _ _ from by iterate 6 (try (with_reducible first | exact K.out | apply sat.alloc_any | apply sat.drew | apply sat.drewN)))).out).mono ?_); rintro e w1 ⟨gy, rfl, K1⟩; have K2 := Lib.hid K1; clear K1 K; (try clear a0); (try clear l0); (try clear a1); (try clear l1); (try clear a2); (try clear l2); have K := K2; clear K2) | (go_at_call 19; (with_reducible refine ((C1 _ _ _ (show sat E _ _ from by iterate 6 (try (with_reducible first | exact K.out | apply sat.alloc_any | apply sat.drew | apply sat.drewN)))).out).mono ?_); rintro e w1 ⟨rfl, K1⟩; have K2 := Lib.hid K1; clear K1 K; (try clear a0); (try clear l0); (try clear a1); (try clear l1); (try clear a2); (try clear l2); have K := K2; clear K2))
  have K1 : sat E _ (yardA gy (YardM.stepN 0 yardY1 0) :: []) := K.out
  clear K
  have K := Lib.hid K1
  clear K1
  generalize YardM.stepN 0 yardY1 = R1 at *
  generalize YardM.stepN 0 yardY2 = R2 at *
  go_loopg [3] 4 (fun gk i w' => ∃ n : Nat, n + gk = 4 ∧ i = .int .i64 n ∧ sat E w' [yardA gy (R1 n)])
  case atStart => exact ⟨0, by simp, rfl, K.out⟩
  case round =>
    obtain ⟨n, hn, rfl, hs⟩ := hrel
    clear K
    have K := Lib.hid hs
    clear hs
    have HN := Lib.hid hn
    by_cases hlt : n < 4
    · have d0 : decide (n < 4) = true := by simpa using hlt
      have d1 : decide ((n : Int) < 4) = true := by simp; omega
      have S1' := fun w' (L : List SA) (h : sat E w' (yardA gy (R1 n) :: L)) => S1 w' gy L n (by omega) h
      obtain ⟨gk', rfl⟩ : ∃ g', gk = g' + 1 := ⟨gk - 1, by omega⟩
      clear hn
      go_wp2_with (first | (go_at_call 23; (with_reducible refine ((S1' _ _ (show sat E _ _ from by iterate 6 (try (with_reducible first | exact K.out | apply sat.alloc_any | apply sat.drew | apply sat.drewN)))).out).mono ?_); rintro e w1 ⟨rfl, K1⟩; have K2 := Lib.hid K1; clear K1 K; (try clear a0); (try clear l0); (try clear a1); (try clear l1); (try clear a2); (try clear l2); have K := K2; clear K2))
      go_roundg gk'
      case measure => omega
      case rel => exact ⟨n + 1, by have := HN.out; omega, by first | (simp; done) | (simp; exact w64 (by omega) (by omega)), K.out⟩
    · have hn4 : 4 = n := by omega
      subst hn4
      clear hn hlt
      go_wp2_with (first | (go_at_call 24; (with_reducible refine (B1 _ _ _ K.out).out.mono ?_); rintro e w1 ⟨rfl, rfl⟩) | (go_at_call 19; (with_reducible refine ((C2 _ _ _ (show sat E _ _ from by iterate 6 (try (with_reducible first | exact K.out | apply sat.alloc_any | apply sat.drew | apply sat.drewN)))).out).mono ?_); rintro e w1 ⟨rfl, K1⟩; have K2 := Lib.hid K1; clear K1 K; (try clear a0); (try clear l0); (try clear a1); (try clear l1); (try clear a2); (try clear l2); have K := K2; clear K2))
      go_loopg [4] 7 (fun gk i w' => ∃ n : Nat, n + gk = 7 ∧ i = .int .i64 n ∧ sat E w' [yardA gy (R2 n)])
      case atStart => exact ⟨0, by simp, rfl, K.out⟩
      case round =>
        obtain ⟨n, hn, rfl, hs⟩ := hrel
        clear K
        have K := Lib.hid hs
        clear hs
        have HN := Lib.hid hn
        by_cases hlt : n < 7
        · have d0 : decide (n < 7) = true := by simpa using hlt
          have d1 : decide ((n : Int) < 7) = true := by simp; omega
          have S2' := fun w' (L : List SA) (h : sat E w' (yardA gy (R2 n) :: L)) => S2 w' gy L n (by omega) h
          obtain ⟨gk', rfl⟩ : ∃ g', gk = g' + 1 := ⟨gk - 1, by omega⟩
          clear hn
          go_wp2_with (first | (go_at_call 23; (with_reducible refine ((S2' _ _ (show sat E _ _ from by iterate 6 (try (with_reducible first | exact K.out | apply sat.alloc_any | apply sat.drew | apply sat.drewN)))).out).mono ?_); rintro e w1 ⟨rfl, K1⟩; have K2 := Lib.hid K1; clear K1 K; (try clear a0); (try clear l0); (try clear a1); (try clear l1); (try clear a2); (try clear l2); have K := K2; clear K2))
          go_roundg gk'
          case measure => omega
          case rel => exact ⟨n + 1, by have := HN.out; omega, by first | (simp; done) | (simp; exact w64 (by omega) (by omega)), K.out⟩
        · have hn7 : 7 = n := by omega
          subst hn7
          clear hn hlt
          go_wp2_with (first | (go_at_call 13; (with_reducible refine (D2 _ _ _ K.out).out.mono ?_); rintro e w1 ⟨p1, k1, rfl, K1⟩; obtain ⟨g1, hg1, _⟩ := Go.SepYtegdhojhnmgjgaaGreat.row_some K1 (by decide); subst hg1; clear K; have K := Lib.hid K1; clear K1; have y5 := K.out.row_rd 0 rfl 16 _ rfl; have y6 := K.out.row_rd 0 rfl 17 _ rfl; have y7 := K.out.row_rd 0 rfl 18 _ rfl; have y8 := K.out.row_rd 0 rfl 19 _ rfl; have y9 := K.out.row_rd 0 rfl 20 _ rfl; have y10 := K.out.row_rd 0 rfl 21 _ rfl) | (go_at_call 24; (with_reducible refine (B2 _ _ _ (K.out.pick 1 rfl)).out.mono ?_); rintro e w1 ⟨rfl, rfl⟩) | (go_at_call 27; (with_reducible refine (N2 _ _ _ (K.out.pick 1 rfl)).out.mono ?_); rintro e w1 ⟨rfl, rfl⟩))
          go_ret
          exact ⟨rfl, K.out.below⟩
end Go.Proofs.YtegdhojhnmgjgaaGreat
