/- Which of two calls was over ahead of the other; how many are under way at one time (hist.Before, hist.Most). Conditions: the deeds lie in memory as told; at most a million deeds. -/
import Derived.Test.YthlipcejeeoacabDeed
namespace Go.Proofs.Ythlipcejeeoacab
open Go.RowKit Go.SepYthlipcejeeoacab Go.Maps
set_option linter.unusedSimpArgs false
set_option linter.unusedVariables false
set_option maxRecDepth 100000
set_option maxHeartbeats 4000000
attribute [local go_sem] min2_w max2_w min_w max_w
def beforeD (a b : DeedM) : Bool := decide (a.stop ≥ 0) && decide (a.stop < b.start)
abbrev deedV (d : DeedM) : Value := .agg #[.int .i64 d.who, .int .i64 d.call.kind, .int .i64 d.call.fin, .int .u64 d.call.value, .int .i64 d.call.start, .int .i64 d.start, .int .i64 d.stop, .bool d.reply.ok, .int .u64 d.reply.value, .int .i64 d.reply.stamp.lo, .int .i64 d.reply.stamp.hi]
def underB (d o : DeedM) : Bool := decide (o.start ≤ d.start) && !beforeD o d
def underN (L : List DeedM) (d : DeedM) : Nat := (L.filter (underB d)).length
def mostM (L : List DeedM) : List DeedM → Int
  | [] => 0
  | d :: l => max (mostM L l) (underN L d)
theorem mostM_snoc (L : List DeedM) (d : DeedM) : ∀ l : List DeedM, mostM L (l ++ [d]) = max (mostM L l) (underN L d)
  | [] => by simp [mostM]
  | x :: l => by
    rw [List.cons_append, mostM, mostM_snoc L d l, mostM]
    omega
theorem underN_le (L : List DeedM) (d : DeedM) : underN L d ≤ L.length := List.length_filter_le _ _
theorem mostM_bd (L : List DeedM) : ∀ l : List DeedM, 0 ≤ mostM L l ∧ mostM L l ≤ L.length
  | [] => by simp [mostM]
  | d :: l => by
    have := mostM_bd L l
    have := underN_le L d
    rw [mostM]
    omega
theorem underN_snoc (l : List DeedM) (d o : DeedM) : underN (l ++ [o]) d = underN l d + if underB d o then 1 else 0 := by
  unfold underN
  rw [List.filter_append, List.length_append]
  cases h : underB d o <;> simp [h]
theorem before_calls (x y : DeedM) (w : World) : Tells 10 #[deedV x, deedV y] w (.bool (beforeD x y)) := by
  have K := Lib.hid (sat.start w)
  unfold beforeD
  go_enter Try.func10, Try.ntmps10
  go_wp2_with (first | (have _hp := gx; ((with_reducible refine at_box ?_); refine st_boxf K.out rfl rfl (fun _ => rfl) ?_; intro gy w1 K1; have K2 := Lib.hid K1; clear K1 K; (try clear a0); (try clear l0); (try clear a1); (try clear l1); (try clear a2); (try clear l2); have K := K2; clear K2; have a0 := K.out.rd 0 rfl; have l0 := K.out.ltp 0 rfl; have a1 := K.out.rd 1 rfl; have l1 := K.out.ltp 1 rfl)) | ((with_reducible refine at_box ?_); refine st_boxf K.out rfl rfl (fun _ => rfl) ?_; intro gx w1 K1; have K2 := Lib.hid K1; clear K1 K; (try clear a0); (try clear l0); (try clear a1); (try clear l1); (try clear a2); (try clear l2); have K := K2; clear K2; have a0 := K.out.rd 0 rfl; have l0 := K.out.ltp 0 rfl))
  all_goals (go_ret; exact ⟨ret_b (by simp_all <;> omega), K.out.below⟩)
theorem lbefore_calls (x y : DeedM) (w : World) : Tells 15 #[deedV x, deedV y] w (.bool (beforeD x y)) := by
  have K := Lib.hid (sat.start w)
  unfold beforeD
  go_enter Try.func15, Try.ntmps15
  go_wp2_with (first | (have _hp := gx; ((with_reducible refine at_box ?_); refine st_boxf K.out rfl rfl (fun _ => rfl) ?_; intro gy w1 K1; have K2 := Lib.hid K1; clear K1 K; (try clear a0); (try clear l0); (try clear a1); (try clear l1); (try clear a2); (try clear l2); have K := K2; clear K2; have a0 := K.out.rd 0 rfl; have l0 := K.out.ltp 0 rfl; have a1 := K.out.rd 1 rfl; have l1 := K.out.ltp 1 rfl)) | ((with_reducible refine at_box ?_); refine st_boxf K.out rfl rfl (fun _ => rfl) ?_; intro gx w1 K1; have K2 := Lib.hid K1; clear K1 K; (try clear a0); (try clear l0); (try clear a1); (try clear l1); (try clear a2); (try clear l2); have K := K2; clear K2; have a0 := K.out.rd 0 rfl; have l0 := K.out.ltp 0 rfl))
  all_goals (go_ret; exact ⟨ret_b (by simp_all <;> omega), K.out.below⟩)
theorem most_calls (p : Option Addr) (l : List DeedM) (cap : Nat) (w : World) (hl : l.length ≤ 1000000) (h : OldD w p l) :
    Tells 9 #[.slice p l.length cap] w (.int .i64 (mostM l l)) := by
  have K := Lib.hid (sat.start w)
  have H := Lib.hid h
  clear h
  go_enter Try.func9, Try.ntmps9
  go_wp2
  go_loopg [11, 3] l.length (fun gk i m w' => ∃ n : Nat, n + gk = l.length ∧ i = .int .i64 n ∧ m = .int .i64 (mostM l (l.take n)) ∧ Below w.heap.size w w')
  case atStart => exact ⟨0, by simp, rfl, rfl, Below.refl _ _⟩
  case round =>
    obtain ⟨n, hn, rfl, rfl, hb⟩ := hrel
    have K1 : sat w wr [] := sat.nil hb
    clear K hb
    have K := Lib.hid K1
    clear K1
    by_cases hlt : n < l.length
    · have d0 : decide (n < l.length) = true := by simpa using hlt
      obtain ⟨b, off, rfl, hb0, hx0⟩ := H.out n hlt; have hx : ∀ i u, (DeedM.v l[n])[i]? = some u → wr.cell? ⟨b, off + n * 11 + i, none⟩ = some u := fun i u hi => (K.out.below.cell (p := ⟨b, off + n * 11 + i, none⟩) hb0).trans (hx0 i u hi); have y0 : wr.cell? ⟨b, off + n * 11, none⟩ = _ := hx 0 _ rfl; have y1 := hx 1 _ rfl; have y2 := hx 2 _ rfl; have y3 := hx 3 _ rfl; have y4 := hx 4 _ rfl; have y5 := hx 5 _ rfl; have y6 := hx 6 _ rfl; have y7 := hx 7 _ rfl; have y8 := hx 8 _ rfl; have y9 := hx 9 _ rfl; have y10 := hx 10 _ rfl; clear hx hx0 hb0
      have E1 := Lib.hid (show mostM l (l.take (n + 1)) = max (mostM l (l.take n)) (underN l l[n]) from by rw [List.take_succ_eq_append_getElem hlt, mostM_snoc])
      have HN := Lib.hid hn
      have hm := mostM_bd l (l.take n)
      generalize mostM l (l.take n) = m0 at *
      clear hn
      generalize l[n] = d at *
      obtain ⟨gk', rfl⟩ : ∃ g', gk = g' + 1 := ⟨gk - 1, by have := HN.out; omega⟩
      go_wp2_with (first | ((with_reducible refine at_alloc ?_); refine st_allocf K.out (fun _ => rfl) ?_; intro gd w1 K1; have K2 := Lib.hid K1; clear K1 K; (try clear a0); (try clear l0); (try clear a1); (try clear l1); (try clear a2); (try clear l2); have K := K2; clear K2; have a0 := K.out.rd 0 rfl; have l0 := K.out.ltp 0 rfl) | ((with_reducible refine at_store ?_); refine st_store 0 K.out rfl rfl rfl rfl ?_ ?_ ?_ ?_; (· kernel_rfl); (· simp); (· simp [Value.oneCell']); intro w1 K1; simp only [List.set, putL] at K1; have K2 := Lib.hid K1; clear K1 K; (try clear a0); (try clear l0); (try clear a1); (try clear l1); (try clear a2); (try clear l2); have K := K2; clear K2; have a0 := K.out.rd 0 rfl; have l0 := K.out.ltp 0 rfl))
      clear y0 y1 y2 y3 y4 y5 y6 y7 y8 y9 y10
      have hn0 : n < 1000000 := by omega
      go_loopg [17, 6] l.length (fun gk i m w' => ∃ k : Nat, k + gk = l.length ∧ i = .int .i64 k ∧ m = .int .i64 (underN (l.take k) d : Nat) ∧ sat w w' [deedA gd d])
      case atStart => exact ⟨0, by simp, rfl, rfl, K.out⟩
      case round =>
        obtain ⟨k, hk, rfl, rfl, hs⟩ := hrel
        clear K a0 l0
        have K := Lib.hid hs
        clear hs
        have a0 := K.out.rd 0 rfl
        have l0 := K.out.ltp 0 rfl
        clear hlt d0
        by_cases hlt : k < l.length
        · have d0 : decide (k < l.length) = true := by simpa using hlt
          obtain ⟨b_2, o_2, he_, hb0, hx0⟩ := H.out k hlt; simp only [Option.some.injEq, Addr.mk.injEq, and_true] at he_; obtain ⟨rfl, rfl⟩ := he_; have hx : ∀ i u, (DeedM.v l[k])[i]? = some u → wr.cell? ⟨b, off + k * 11 + i, none⟩ = some u := fun i u hi => (K.out.below.cell (p := ⟨b, off + k * 11 + i, none⟩) hb0).trans (hx0 i u hi); have y0 : wr.cell? ⟨b, off + k * 11, none⟩ = _ := hx 0 _ rfl; have y1 := hx 1 _ rfl; have y2 := hx 2 _ rfl; have y3 := hx 3 _ rfl; have y4 := hx 4 _ rfl; have y5 := hx 5 _ rfl; have y6 := hx 6 _ rfl; have y7 := hx 7 _ rfl; have y8 := hx 8 _ rfl; have y9 := hx 9 _ rfl; have y10 := hx 10 _ rfl; clear hx hx0 hb0
          have E2 := Lib.hid (show underN (l.take (k + 1)) d = underN (l.take k) d + if underB d l[k] then 1 else 0 from by rw [List.take_succ_eq_append_getElem hlt, underN_snoc])
          have hu : underN (l.take k) d ≤ k := by have := underN_le (l.take k) d; rw [List.length_take] at this; omega
          have HK := Lib.hid hk
          clear hk
          generalize underN (l.take k) d = u0 at *
          have BF := fun w' => Lib.hid (before_calls l[k] d w')
          unfold underB at E2
          generalize l[k] = o at *
          generalize beforeD o d = bf at *
          obtain ⟨gk2', rfl⟩ : ∃ g', gk = g' + 1 := ⟨gk - 1, by have := HK.out; omega⟩
          by_cases c0 : o.start ≤ d.start
          · have t0 : decide (o.start ≤ d.start) = true := by simpa using c0
            rw [t0, Bool.true_and] at E2
            clear c0
            cases bf
            all_goals
              go_wp2_with (first | ((with_reducible refine at_alloc ?_); refine st_allocf K.out (fun _ => rfl) ?_; intro go w1 K1; have K2 := Lib.hid K1; clear K1 K; (try clear a0); (try clear l0); (try clear a1); (try clear l1); (try clear a2); (try clear l2); have K := K2; clear K2; have a0 := K.out.rd 0 rfl; have l0 := K.out.ltp 0 rfl; have a1 := K.out.rd 1 rfl; have l1 := K.out.ltp 1 rfl) | ((with_reducible refine at_store ?_); refine st_store 0 K.out rfl rfl rfl rfl ?_ ?_ ?_ ?_; (· kernel_rfl); (· simp); (· simp [Value.oneCell']); intro w1 K1; simp only [List.set, putL] at K1; have K2 := Lib.hid K1; clear K1 K; (try clear a0); (try clear l0); (try clear a1); (try clear l1); (try clear a2); (try clear l2); have K := K2; clear K2; have a0 := K.out.rd 0 rfl; have l0 := K.out.ltp 0 rfl; have a1 := K.out.rd 1 rfl; have l1 := K.out.ltp 1 rfl) | (go_at_call 10; (with_reducible refine ((BF _).out).mono ?_); rintro e w1 ⟨rfl, hb⟩; have K1 := sat.grown (by repeat (with_reducible first | exact K.out | apply sat.alloc_any | apply sat.drew | apply sat.drewN)) hb; clear hb; have K2 := Lib.hid K1; clear K1 K; (try clear a0); (try clear l0); (try clear a1); (try clear l1); (try clear a2); (try clear l2); have K := K2; clear K2; have a0 := K.out.rd 0 rfl; have l0 := K.out.ltp 0 rfl; have a1 := K.out.rd 1 rfl; have l1 := K.out.ltp 1 rfl))
              go_roundg gk2'
              case measure => omega
              case rel => exact ⟨k + 1, by have := HK.out; omega, by simp, by rw [E2.out]; simp, K.out.drop⟩
          · have t0 : decide (o.start ≤ d.start) = false := by simpa using c0
            rw [t0, Bool.false_and] at E2
            clear c0
            go_wp2_with (first | ((with_reducible refine at_alloc ?_); refine st_allocf K.out (fun _ => rfl) ?_; intro go w1 K1; have K2 := Lib.hid K1; clear K1 K; (try clear a0); (try clear l0); (try clear a1); (try clear l1); (try clear a2); (try clear l2); have K := K2; clear K2; have a0 := K.out.rd 0 rfl; have l0 := K.out.ltp 0 rfl; have a1 := K.out.rd 1 rfl; have l1 := K.out.ltp 1 rfl) | ((with_reducible refine at_store ?_); refine st_store 0 K.out rfl rfl rfl rfl ?_ ?_ ?_ ?_; (· kernel_rfl); (· simp); (· simp [Value.oneCell']); intro w1 K1; simp only [List.set, putL] at K1; have K2 := Lib.hid K1; clear K1 K; (try clear a0); (try clear l0); (try clear a1); (try clear l1); (try clear a2); (try clear l2); have K := K2; clear K2; have a0 := K.out.rd 0 rfl; have l0 := K.out.ltp 0 rfl; have a1 := K.out.rd 1 rfl; have l1 := K.out.ltp 1 rfl))
            go_roundg gk2'
            case measure => omega
            case rel => exact ⟨k + 1, by have := HK.out; omega, by simp, by rw [E2.out]; simp, K.out.drop⟩
        · have hkl : k = l.length := by omega
          subst hkl
          have d0 : decide (l.length < l.length) = false := by simp
          clear hlt hk
          rw [List.take_length]
          have hu := underN_le l d
          generalize underN l d = u0 at *
          go_wp2
          go_roundg gk'
          case measure => omega
          case rel => exact ⟨n + 1, by have := HN.out; omega, by simp, by rw [E1.out], K.out.below⟩
    · have hnl : n = l.length := by omega
      subst hnl
      have d0 : decide (l.length < l.length) = false := by simp
      rw [List.take_length]
      go_wp2
      go_ret
      exact ⟨rfl, K.out.below⟩
/-- Two deeds of one's own. -/
theorem oldD_two {E w : World} {L : List SA} {g t : Nat} {f : Nat × Nat} {x y : DeedM} (h : sat E w (pt g (.cells (x.v ++ y.v).toArray t f) :: L)) : OldD w (some ⟨g, 0, none⟩) [x, y] := fun j hj => by
  have hr := h.rd 0 rfl
  match j, hj with
  | 0, _ =>
    refine ⟨g, 0, rfl, h.lt, fun i u hi => ?_⟩
    rw [show 0 + 0 * 11 + i = i by omega, hr i, List.getElem?_append_left (by
      have := (List.getElem?_eq_some_iff.1 hi).1
      simpa using this)]
    exact hi
  | 1, _ =>
    refine ⟨g, 0, rfl, h.lt, fun i u hi => ?_⟩
    rw [show 0 + 1 * 11 + i = 11 + i by omega, hr (11 + i), List.getElem?_append_right (by simp)]
    simpa using hi
def dz (a b : Int) : DeedM := ⟨0, ⟨0, 0, 0, 0⟩, a, b, ⟨false, 0, ⟨0, 0⟩⟩⟩
theorem head14_calls (w : World) : Tells 5 #[] w (.bool true) := by
  have K := Lib.hid (sat.start w)
  have B1 := fun w' => Lib.hid (show Tells 10 #[(.agg #[.int .i64 0, .int .i64 0, .int .i64 0, .int .u64 0, .int .i64 0, .int .i64 0, .int .i64 4, .bool false, .int .u64 0, .int .i64 0, .int .i64 0]), (.agg #[.int .i64 0, .int .i64 0, .int .i64 0, .int .u64 0, .int .i64 0, .int .i64 5, .int .i64 (-1), .bool false, .int .u64 0, .int .i64 0, .int .i64 0])] w' (.bool true) from before_calls (dz 0 4) (dz 5 (-1)) w')
  have B2 := fun w' => Lib.hid (show Tells 10 #[(.agg #[.int .i64 0, .int .i64 0, .int .i64 0, .int .u64 0, .int .i64 0, .int .i64 0, .int .i64 4, .bool false, .int .u64 0, .int .i64 0, .int .i64 0]), (.agg #[.int .i64 0, .int .i64 0, .int .i64 0, .int .u64 0, .int .i64 0, .int .i64 3, .int .i64 7, .bool false, .int .u64 0, .int .i64 0, .int .i64 0])] w' (.bool false) from before_calls (dz 0 4) (dz 3 7) w')
  have M1 := fun w' p (h : OldD w' p [dz 0 4, dz 0 4]) => Lib.hid (show Tells 9 #[.slice p 2 2] w' (.int .i64 2) from most_calls p [dz 0 4, dz 0 4] 2 w' (by decide) h)
  go_enter Try.func5, Try.ntmps5
  go_wp2_with (first | ((with_reducible refine at_alloc ?_); refine st_allocf K.out (fun _ => rfl) ?_; intro gd w1 K1; have K2 := Lib.hid K1; clear K1 K; (try clear a0); (try clear l0); (try clear a1); (try clear l1); (try clear a2); (try clear l2); have K := K2; clear K2; have a0 := K.out.rd 0 rfl; have l0 := K.out.ltp 0 rfl) | ((with_reducible refine at_store ?_); refine st_store 0 K.out rfl rfl rfl rfl ?_ ?_ ?_ ?_; (· kernel_rfl); (· simp); (· simp [Value.oneCell']); intro w1 K1; simp only [List.set, putL] at K1; have K2 := Lib.hid K1; clear K1 K; (try clear a0); (try clear l0); (try clear a1); (try clear l1); (try clear a2); (try clear l2); have K := K2; clear K2; have a0 := K.out.rd 0 rfl; have l0 := K.out.ltp 0 rfl) | (go_at_call 10; (with_reducible refine ((B1 _).out).mono ?_); rintro e w1 ⟨rfl, hb⟩; have K1 := sat.grown (by repeat (with_reducible first | exact K.out | apply sat.alloc_any | apply sat.drew | apply sat.drewN)) hb; clear hb; have K2 := Lib.hid K1; clear K1 K; (try clear a0); (try clear l0); (try clear a1); (try clear l1); (try clear a2); (try clear l2); have K := K2; clear K2; have a0 := K.out.rd 0 rfl; have l0 := K.out.ltp 0 rfl) | (go_at_call 10; (with_reducible refine ((B2 _).out).mono ?_); rintro e w1 ⟨rfl, hb⟩; have K1 := sat.grown (by repeat (with_reducible first | exact K.out | apply sat.alloc_any | apply sat.drew | apply sat.drewN)) hb; clear hb; have K2 := Lib.hid K1; clear K1 K; (try clear a0); (try clear l0); (try clear a1); (try clear l1); (try clear a2); (try clear l2); have K := K2; clear K2; have a0 := K.out.rd 0 rfl; have l0 := K.out.ltp 0 rfl) | (have KA : sat w (World.alloc _ (.cells #[.int .i64 0, .int .i64 0, .int .i64 0, .int .u64 0, .int .i64 0, .int .i64 0, .int .i64 4, .bool false, .int .u64 0, .int .i64 0, .int .i64 0, .int .i64 0, .int .i64 0, .int .i64 0, .int .u64 0, .int .i64 0, .int .i64 0, .int .i64 4, .bool false, .int .u64 0, .int .i64 0, .int .i64 0] 35)) _ := K.out.alloc _; have o1 := oldD_two (x := dz 0 4) (y := dz 0 4) KA; go_at_call 9; (with_reducible refine ((M1 _ _ o1).out).mono ?_); rintro r w1 ⟨rfl, hb⟩; have K1 := (sat.grown KA hb).drop; clear KA o1 hb; have K2 := Lib.hid K1; clear K1 K; (try clear a0); (try clear l0); (try clear a1); (try clear l1); (try clear a2); (try clear l2); have K := K2; clear K2; have a0 := K.out.rd 0 rfl; have l0 := K.out.ltp 0 rfl))
  go_ret
  exact ⟨rfl, K.out.below⟩
end Go.Proofs.Ythlipcejeeoacab
