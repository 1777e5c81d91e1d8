/- Of two that came at one end, of which the one's stamp is before the other's, the other one stands nearer to that end (PickBefore answers true at every input). No condition beyond the row's own. -/
import Derived.Test.YtjnckolidgbckaaPickU
import Derived.Test.YtjnckolidgbckaaPickLess
namespace Go.Proofs.Ytjnckolidgbckaa
open Go.RowKit Go.SepYtjnckolidgbckaa
set_option linter.unusedSimpArgs false
set_option linter.unusedVariables false
set_option maxRecDepth 100000
set_option maxHeartbeats 4000000
attribute [local go_sem] field_state field_end field_stamp
theorem before_calls (s o : StampM) (w : World) : Tells 16 #[.agg #[.int .i64 s.lo, .int .i64 s.hi], .agg #[.int .i64 o.lo, .int .i64 o.hi]] w (.bool (s.before o)) := by
  unfold StampM.before
  have K := Lib.hid (sat.start w)
  go_enter Try.func16, Try.ntmps16
  go_wp2
  go_ret
  exact ⟨rfl, (show sat w _ [] from (by repeat (first | exact K.out | apply sat.alloc_any | apply sat.drew | apply sat.drewN))).below⟩
def befRel (w0 : World) (l : List Int) (v : Value) (gk : Nat) (i : Value) (w' : World) : Prop :=
  ∃ n : Nat, n + gk = l.length ∧ i = .int .i64 n ∧ sat w0 w' [rowA v 3 1 l.length (l.map (Value.int .i64))]
def befRel2 (w0 : World) (l : List Int) (v : Value) (m : Nat) (gk : Nat) (i : Value) (w' : World) : Prop :=
  ∃ n : Nat, n + gk = m ∧ i = .int .i64 n ∧ sat w0 w' [rowA v 3 1 l.length (l.map (Value.int .i64))]
theorem bef_calls (words : List Int) (p : Option Addr) (cap : Nat) (w : World) (hc : OldU w p words) (hwf : ∀ x ∈ words, 0 ≤ x ∧ x < 18446744073709551616) (h60 : ¬ words.length > 60) :
    Tells 6 #[.slice p words.length cap] w (.bool true) := by
  have HD := fun w => Lib.hid (head_calls w)
  have K := Lib.hid (sat.start w)
  have c0 : decide ((words.length : Int) > 60) = false := by simp; omega
  have O := fun w' (b : Below w.heap.size w w') => Lib.hid (order_any words p cap w' (hc.grown b) hwf (by omega))
  have H := Lib.hid hc
  have q := orderM_len words
  have SO := Lib.hid (List.pairwise_iff_getElem.1 (orderM_sorted words))
  have MO := Lib.hid (fun a (h : a ∈ orderM words) => (mem_orderM words a).1 h)
  clear hc
  generalize orderM words = l at *
  go_enter Try.func6, Try.ntmps6
  go_wp2_with (first | (go_at_call 9; (with_reducible refine ((HD _).out).mono ?_); rintro e w1 ⟨rfl, hb⟩; have K1 := sat.grown (by repeat (first | exact K.out | apply sat.alloc_any | apply sat.drew | apply sat.drewN)) hb; clear hb; have K2 := Lib.hid K1; clear K1 K; (try clear a0); (try clear l0); (try clear a1); (try clear l1); (try clear a2); (try clear l2); have K := K2; clear K2) | (go_at_call 10; (with_reducible refine (O _ K.out.below).out.mono ?_); rintro e w1 ⟨v, rfl, K1⟩; obtain ⟨p1, c1, rfl⟩ := row_any K1; have K2 := Lib.hid (K.out.join K1); clear K1 K; have K := K2; clear K2))
  obtain ⟨hcap, hcm⟩ := row_cap K.out
  clear HD O
  go_loopg [19] l.length (fun gk i w' => befRel w l (.slice p1 l.length c1) gk i w')
  case atStart => exact ⟨0, by simp, rfl, K.out⟩
  case round =>
    obtain ⟨n, hn, rfl, hs⟩ := hrel
    clear K
    have K := Lib.hid hs
    clear hs
    by_cases hlt : n < l.length
    · have d0 : decide (n < l.length) = true := by simpa using hlt
      obtain ⟨g, rfl, -⟩ := row_some K.out (by omega)
      obtain ⟨a0, a1, -⟩ := MO.out l[n] (List.getElem_mem hlt)
      obtain ⟨a, ea⟩ : ∃ a : Nat, l[n] = (a : Int) := ⟨l[n].toNat, by omega⟩
      have ya := K.out.row_rd 0 rfl n (.int .i64 a) (by rw [List.getElem?_map, List.getElem?_eq_getElem hlt, ea]; rfl)
      have ha : a < words.length := by omega
      have LA := Lib.hid ea
      have HN := Lib.hid hn
      obtain ⟨gk0, rfl⟩ : ∃ g', gk = g' + 1 := ⟨gk - 1, by omega⟩
      clear hn ea a0 a1
      have n60 : n + 1 ≤ 61 := by omega
      rcases Nat.lt_or_ge (n + 1) c1 with hc1 | hc1
      · go_wp2
        go_loopg [29] (l.length - (n + 1)) (fun gk i w' => befRel2 w l (.slice (some ⟨g, 0, none⟩) l.length c1) (l.length - (n + 1)) gk i w')
        case atStart => exact ⟨0, by simp, rfl, K.out⟩
        case round =>
          obtain ⟨m, hm, rfl, hs⟩ := hrel
          clear K
          have K := Lib.hid hs
          clear hs
          by_cases hlt2 : m < l.length - (n + 1)
          · have d1 : decide (m < l.length - (n + 1)) = true := by simpa using hlt2
            have hnm : n + 1 + m < l.length := by omega
            obtain ⟨b0, b1, -⟩ := MO.out l[n + 1 + m] (List.getElem_mem hnm)
            obtain ⟨b, eb⟩ : ∃ b : Nat, l[n + 1 + m] = (b : Int) := ⟨l[n + 1 + m].toNat, by omega⟩
            have yb := K.out.row_rd 0 rfl (n + 1 + m) (.int .i64 b) (by rw [List.getElem?_map, List.getElem?_eq_getElem hnm, eb]; rfl)
            have hb : b < words.length := by omega
            have hA : aheadB words a b = true := by
              have := SO.out n (n + 1 + m) hlt hnm (by omega)
              rw [LA.out, eb] at this
              exact this
            have HM := Lib.hid hm
            obtain ⟨gk1, rfl⟩ : ∃ g', gk = g' + 1 := ⟨gk - 1, by omega⟩
            clear hm eb b0 b1
            obtain ⟨bw, off, rfl, hbw, hxa⟩ := H.out a ha
            obtain ⟨bw', off', e', -, hxb⟩ := H.out b hb
            simp only [Option.some.injEq, Addr.mk.injEq, and_true] at e'
            obtain ⟨rfl, rfl⟩ := e'
            have HA := Lib.hid (fun w' (h : Below w.heap.size w w') => (h.cell (p := ⟨bw, off + a, none⟩) hbw).trans hxa)
            have HB := Lib.hid (fun w' (h : Below w.heap.size w w') => (h.cell (p := ⟨bw, off + b, none⟩) hbw).trans hxb)
            have xaw := hwf words[a] (List.getElem_mem ha)
            have xbw := hwf words[b] (List.getElem_mem hb)
            have U := fun w => Lib.hid (unpack_calls words[a] xaw.1 xaw.2 w)
            have V := fun w => Lib.hid (unpack_calls words[b] xbw.1 xbw.2 w)
            have ga : getI words a = words[a] := by simp [getI, ha]
            have gb : getI words b = words[b] := by simp [getI, hb]
            unfold aheadB at hA
            dsimp only at hA
            simp only [ga, gb, laterB_iff] at hA
            have fx : (unpack words[a]).fin = 0 ∨ (unpack words[a]).fin = 1 := by simp only [unpack]; omega
            have fy : (unpack words[b]).fin = 0 ∨ (unpack words[b]).fin = 1 := by simp only [unpack]; omega
            have t1 : decide ((a : Int) < 0) = false := by simp
            have t2 : decide ((a : Int) ≥ (words.length : Int)) = false := by simp; omega
            have t3 : decide ((b : Int) < 0) = false := by simp
            have t4 : decide ((b : Int) ≥ (words.length : Int)) = false := by simp; omega
            generalize unpack words[a] = x at *
            generalize unpack words[b] = y at *
            generalize words[a] = xa' at *
            generalize words[b] = xb' at *
            have B1 := fun w => Lib.hid (before_calls x.stamp y.stamp w)
            have B2 := fun w => Lib.hid (before_calls y.stamp x.stamp w)
            have R1 := fun w => Lib.hid (sright_calls x.stamp w)
            have R2 := fun w => Lib.hid (sright_calls y.stamp w)
            unfold WordM.v at U V
            have fa := HA.out _ K.out.below
            clear ga gb xaw xbw hxa hxb hwf
            rcases fx with fx | fx <;> rcases fy with fy | fy
            · have LT : y.stamp.lo < x.stamp.lo ∨ y.stamp.lo = x.stamp.lo ∧ (y.stamp.hi < x.stamp.hi ∨ y.stamp.hi = x.stamp.hi ∧ (b : Int) < a) := by simpa [fx, fy] using hA
              have c1 : (x.fin == 1) = false := by simp [fx]
              have c2 : (x.fin == y.fin) = true := by simp [fx, fy]
              have c3 : (x.fin == 0) = true := by simp [fx]
              cases hb1 : x.stamp.before y.stamp
              · rw [hb1] at B1
                clear hb1 fx fy hA LT
                go_wp2_with (first | ((go_at_call 13; (with_reducible refine ((U _).out).mono ?_); rintro e w1 ⟨rfl, hb⟩; have K1 := sat.grown (by repeat (first | exact K.out | apply sat.alloc_any | apply sat.drew | apply sat.drewN)) hb; clear hb; have K2 := Lib.hid K1; clear K1 K; (try clear a0); (try clear l0); (try clear a1); (try clear l1); (try clear a2); (try clear l2); have K := K2; clear K2)) | ((go_at_call 13; (with_reducible refine ((V _).out).mono ?_); rintro e w1 ⟨rfl, hb⟩; have K1 := sat.grown (by repeat (first | exact K.out | apply sat.alloc_any | apply sat.drew | apply sat.drewN)) hb; clear hb; have K2 := Lib.hid K1; clear K1 K; (try clear a0); (try clear l0); (try clear a1); (try clear l1); (try clear a2); (try clear l2); have K := K2; clear K2; have a1 := K.out.rd 1 rfl; have l1 := K.out.ltp 1 rfl)) | ((with_reducible refine at_alloc ?_); refine st_alloc K.out (fun _ => rfl) ?_; intro gy w1 K1; simp only [List.cons_append, List.nil_append] at K1; have K2 := Lib.hid K1; clear K1 K; (try clear a0); (try clear l0); (try clear a1); (try clear l1); (try clear a2); (try clear l2); have K := K2; clear K2; have a1 := K.out.rd 1 rfl; have l1 := K.out.ltp 1 rfl; have a2 := K.out.rd 2 rfl; have l2 := K.out.ltp 2 rfl) | ((with_reducible refine at_alloc ?_); refine st_alloc K.out (fun _ => rfl) ?_; intro gx w1 K1; simp only [List.cons_append, List.nil_append] at K1; have K2 := Lib.hid K1; clear K1 K; (try clear a0); (try clear l0); (try clear a1); (try clear l1); (try clear a2); (try clear l2); have K := K2; clear K2; have a1 := K.out.rd 1 rfl; have l1 := K.out.ltp 1 rfl) | ((with_reducible refine at_store ?_); refine st_store 2 K.out rfl rfl rfl rfl ?_ ?_ ?_ ?_; (· kernel_rfl); (· simp); (· simp [Value.oneCell']); intro w1 K1; simp only [List.set, putL] at K1; have K2 := Lib.hid K1; clear K1 K; (try clear a0); (try clear l0); (try clear a1); (try clear l1); (try clear a2); (try clear l2); have K := K2; clear K2; have a1 := K.out.rd 1 rfl; have l1 := K.out.ltp 1 rfl; have a2 := K.out.rd 2 rfl; have l2 := K.out.ltp 2 rfl) | (((with_reducible refine at_store ?_); refine st_store 1 K.out rfl rfl rfl rfl ?_ ?_ ?_ ?_; (· kernel_rfl); (· simp); (· simp [Value.oneCell']); intro w1 K1; simp only [List.set, putL] at K1; have K2 := Lib.hid K1; clear K1 K; (try clear a0); (try clear l0); (try clear a1); (try clear l1); (try clear a2); (try clear l2); have K := K2; clear K2; have a1 := K.out.rd 1 rfl; have l1 := K.out.ltp 1 rfl); have fb := HB.out _ K.out.below) | (go_at_call 16; (with_reducible refine ((B1 _).out).mono ?_); rintro e w1 ⟨rfl, hb⟩; have K1 := sat.grown (by repeat (first | exact K.out | apply sat.alloc_any | apply sat.drew | apply sat.drewN)) hb; clear hb; have K2 := Lib.hid K1; clear K1 K; (try clear a0); (try clear l0); (try clear a1); (try clear l1); (try clear a2); (try clear l2); have K := K2; clear K2; have a1 := K.out.rd 1 rfl; have l1 := K.out.ltp 1 rfl; have a2 := K.out.rd 2 rfl; have l2 := K.out.ltp 2 rfl) | (go_at_call 16; (with_reducible refine ((B2 _).out).mono ?_); rintro e w1 ⟨rfl, hb⟩; have K1 := sat.grown (by repeat (first | exact K.out | apply sat.alloc_any | apply sat.drew | apply sat.drewN)) hb; clear hb; have K2 := Lib.hid K1; clear K1 K; (try clear a0); (try clear l0); (try clear a1); (try clear l1); (try clear a2); (try clear l2); have K := K2; clear K2; have a1 := K.out.rd 1 rfl; have l1 := K.out.ltp 1 rfl; have a2 := K.out.rd 2 rfl; have l2 := K.out.ltp 2 rfl) | (go_at_call 17; (with_reducible refine ((R1 _).out).mono ?_); rintro e w1 ⟨rfl, hb⟩; have K1 := sat.grown (by repeat (first | exact K.out | apply sat.alloc_any | apply sat.drew | apply sat.drewN)) hb; clear hb; have K2 := Lib.hid K1; clear K1 K; (try clear a0); (try clear l0); (try clear a1); (try clear l1); (try clear a2); (try clear l2); have K := K2; clear K2; have a1 := K.out.rd 1 rfl; have l1 := K.out.ltp 1 rfl; have a2 := K.out.rd 2 rfl; have l2 := K.out.ltp 2 rfl) | (go_at_call 17; (with_reducible refine ((R2 _).out).mono ?_); rintro e w1 ⟨rfl, hb⟩; have K1 := sat.grown (by repeat (first | exact K.out | apply sat.alloc_any | apply sat.drew | apply sat.drewN)) hb; clear hb; have K2 := Lib.hid K1; clear K1 K; (try clear a0); (try clear l0); (try clear a1); (try clear l1); (try clear a2); (try clear l2); have K := K2; clear K2; have a1 := K.out.rd 1 rfl; have l1 := K.out.ltp 1 rfl; have a2 := K.out.rd 2 rfl; have l2 := K.out.ltp 2 rfl))
                go_roundg gk1
                case measure => omega
                case rel => exact ⟨m + 1, by have := HM.out; omega, by simp, K.out.swap.drop.swap.drop⟩
              · cases hr1 : x.stamp.right
                · rw [hb1] at B1
                  rw [hr1] at R1
                  clear hb1 hr1 fx fy hA LT
                  go_wp2_with (first | ((go_at_call 13; (with_reducible refine ((U _).out).mono ?_); rintro e w1 ⟨rfl, hb⟩; have K1 := sat.grown (by repeat (first | exact K.out | apply sat.alloc_any | apply sat.drew | apply sat.drewN)) hb; clear hb; have K2 := Lib.hid K1; clear K1 K; (try clear a0); (try clear l0); (try clear a1); (try clear l1); (try clear a2); (try clear l2); have K := K2; clear K2)) | ((go_at_call 13; (with_reducible refine ((V _).out).mono ?_); rintro e w1 ⟨rfl, hb⟩; have K1 := sat.grown (by repeat (first | exact K.out | apply sat.alloc_any | apply sat.drew | apply sat.drewN)) hb; clear hb; have K2 := Lib.hid K1; clear K1 K; (try clear a0); (try clear l0); (try clear a1); (try clear l1); (try clear a2); (try clear l2); have K := K2; clear K2; have a1 := K.out.rd 1 rfl; have l1 := K.out.ltp 1 rfl)) | ((with_reducible refine at_alloc ?_); refine st_alloc K.out (fun _ => rfl) ?_; intro gy w1 K1; simp only [List.cons_append, List.nil_append] at K1; have K2 := Lib.hid K1; clear K1 K; (try clear a0); (try clear l0); (try clear a1); (try clear l1); (try clear a2); (try clear l2); have K := K2; clear K2; have a1 := K.out.rd 1 rfl; have l1 := K.out.ltp 1 rfl; have a2 := K.out.rd 2 rfl; have l2 := K.out.ltp 2 rfl) | ((with_reducible refine at_alloc ?_); refine st_alloc K.out (fun _ => rfl) ?_; intro gx w1 K1; simp only [List.cons_append, List.nil_append] at K1; have K2 := Lib.hid K1; clear K1 K; (try clear a0); (try clear l0); (try clear a1); (try clear l1); (try clear a2); (try clear l2); have K := K2; clear K2; have a1 := K.out.rd 1 rfl; have l1 := K.out.ltp 1 rfl) | ((with_reducible refine at_store ?_); refine st_store 2 K.out rfl rfl rfl rfl ?_ ?_ ?_ ?_; (· kernel_rfl); (· simp); (· simp [Value.oneCell']); intro w1 K1; simp only [List.set, putL] at K1; have K2 := Lib.hid K1; clear K1 K; (try clear a0); (try clear l0); (try clear a1); (try clear l1); (try clear a2); (try clear l2); have K := K2; clear K2; have a1 := K.out.rd 1 rfl; have l1 := K.out.ltp 1 rfl; have a2 := K.out.rd 2 rfl; have l2 := K.out.ltp 2 rfl) | (((with_reducible refine at_store ?_); refine st_store 1 K.out rfl rfl rfl rfl ?_ ?_ ?_ ?_; (· kernel_rfl); (· simp); (· simp [Value.oneCell']); intro w1 K1; simp only [List.set, putL] at K1; have K2 := Lib.hid K1; clear K1 K; (try clear a0); (try clear l0); (try clear a1); (try clear l1); (try clear a2); (try clear l2); have K := K2; clear K2; have a1 := K.out.rd 1 rfl; have l1 := K.out.ltp 1 rfl); have fb := HB.out _ K.out.below) | (go_at_call 16; (with_reducible refine ((B1 _).out).mono ?_); rintro e w1 ⟨rfl, hb⟩; have K1 := sat.grown (by repeat (first | exact K.out | apply sat.alloc_any | apply sat.drew | apply sat.drewN)) hb; clear hb; have K2 := Lib.hid K1; clear K1 K; (try clear a0); (try clear l0); (try clear a1); (try clear l1); (try clear a2); (try clear l2); have K := K2; clear K2; have a1 := K.out.rd 1 rfl; have l1 := K.out.ltp 1 rfl; have a2 := K.out.rd 2 rfl; have l2 := K.out.ltp 2 rfl) | (go_at_call 16; (with_reducible refine ((B2 _).out).mono ?_); rintro e w1 ⟨rfl, hb⟩; have K1 := sat.grown (by repeat (first | exact K.out | apply sat.alloc_any | apply sat.drew | apply sat.drewN)) hb; clear hb; have K2 := Lib.hid K1; clear K1 K; (try clear a0); (try clear l0); (try clear a1); (try clear l1); (try clear a2); (try clear l2); have K := K2; clear K2; have a1 := K.out.rd 1 rfl; have l1 := K.out.ltp 1 rfl; have a2 := K.out.rd 2 rfl; have l2 := K.out.ltp 2 rfl) | (go_at_call 17; (with_reducible refine ((R1 _).out).mono ?_); rintro e w1 ⟨rfl, hb⟩; have K1 := sat.grown (by repeat (first | exact K.out | apply sat.alloc_any | apply sat.drew | apply sat.drewN)) hb; clear hb; have K2 := Lib.hid K1; clear K1 K; (try clear a0); (try clear l0); (try clear a1); (try clear l1); (try clear a2); (try clear l2); have K := K2; clear K2; have a1 := K.out.rd 1 rfl; have l1 := K.out.ltp 1 rfl; have a2 := K.out.rd 2 rfl; have l2 := K.out.ltp 2 rfl) | (go_at_call 17; (with_reducible refine ((R2 _).out).mono ?_); rintro e w1 ⟨rfl, hb⟩; have K1 := sat.grown (by repeat (first | exact K.out | apply sat.alloc_any | apply sat.drew | apply sat.drewN)) hb; clear hb; have K2 := Lib.hid K1; clear K1 K; (try clear a0); (try clear l0); (try clear a1); (try clear l1); (try clear a2); (try clear l2); have K := K2; clear K2; have a1 := K.out.rd 1 rfl; have l1 := K.out.ltp 1 rfl; have a2 := K.out.rd 2 rfl; have l2 := K.out.ltp 2 rfl))
                  go_roundg gk1
                  case measure => omega
                  case rel => exact ⟨m + 1, by have := HM.out; omega, by simp, K.out.swap.drop.swap.drop⟩
                · have hr2 : y.stamp.right = false := by
                    cases h : y.stamp.right
                    · rfl
                    · simp only [StampM.before, StampM.right, Bool.and_eq_true, decide_eq_true_eq] at hb1 hr1 h; omega
                  rw [hb1] at B1
                  rw [hr1] at R1
                  rw [hr2] at R2
                  clear hb1 hr1 hr2 fx fy hA LT
                  go_wp2_with (first | ((go_at_call 13; (with_reducible refine ((U _).out).mono ?_); rintro e w1 ⟨rfl, hb⟩; have K1 := sat.grown (by repeat (first | exact K.out | apply sat.alloc_any | apply sat.drew | apply sat.drewN)) hb; clear hb; have K2 := Lib.hid K1; clear K1 K; (try clear a0); (try clear l0); (try clear a1); (try clear l1); (try clear a2); (try clear l2); have K := K2; clear K2)) | ((go_at_call 13; (with_reducible refine ((V _).out).mono ?_); rintro e w1 ⟨rfl, hb⟩; have K1 := sat.grown (by repeat (first | exact K.out | apply sat.alloc_any | apply sat.drew | apply sat.drewN)) hb; clear hb; have K2 := Lib.hid K1; clear K1 K; (try clear a0); (try clear l0); (try clear a1); (try clear l1); (try clear a2); (try clear l2); have K := K2; clear K2; have a1 := K.out.rd 1 rfl; have l1 := K.out.ltp 1 rfl)) | ((with_reducible refine at_alloc ?_); refine st_alloc K.out (fun _ => rfl) ?_; intro gy w1 K1; simp only [List.cons_append, List.nil_append] at K1; have K2 := Lib.hid K1; clear K1 K; (try clear a0); (try clear l0); (try clear a1); (try clear l1); (try clear a2); (try clear l2); have K := K2; clear K2; have a1 := K.out.rd 1 rfl; have l1 := K.out.ltp 1 rfl; have a2 := K.out.rd 2 rfl; have l2 := K.out.ltp 2 rfl) | ((with_reducible refine at_alloc ?_); refine st_alloc K.out (fun _ => rfl) ?_; intro gx w1 K1; simp only [List.cons_append, List.nil_append] at K1; have K2 := Lib.hid K1; clear K1 K; (try clear a0); (try clear l0); (try clear a1); (try clear l1); (try clear a2); (try clear l2); have K := K2; clear K2; have a1 := K.out.rd 1 rfl; have l1 := K.out.ltp 1 rfl) | ((with_reducible refine at_store ?_); refine st_store 2 K.out rfl rfl rfl rfl ?_ ?_ ?_ ?_; (· kernel_rfl); (· simp); (· simp [Value.oneCell']); intro w1 K1; simp only [List.set, putL] at K1; have K2 := Lib.hid K1; clear K1 K; (try clear a0); (try clear l0); (try clear a1); (try clear l1); (try clear a2); (try clear l2); have K := K2; clear K2; have a1 := K.out.rd 1 rfl; have l1 := K.out.ltp 1 rfl; have a2 := K.out.rd 2 rfl; have l2 := K.out.ltp 2 rfl) | (((with_reducible refine at_store ?_); refine st_store 1 K.out rfl rfl rfl rfl ?_ ?_ ?_ ?_; (· kernel_rfl); (· simp); (· simp [Value.oneCell']); intro w1 K1; simp only [List.set, putL] at K1; have K2 := Lib.hid K1; clear K1 K; (try clear a0); (try clear l0); (try clear a1); (try clear l1); (try clear a2); (try clear l2); have K := K2; clear K2; have a1 := K.out.rd 1 rfl; have l1 := K.out.ltp 1 rfl); have fb := HB.out _ K.out.below) | (go_at_call 16; (with_reducible refine ((B1 _).out).mono ?_); rintro e w1 ⟨rfl, hb⟩; have K1 := sat.grown (by repeat (first | exact K.out | apply sat.alloc_any | apply sat.drew | apply sat.drewN)) hb; clear hb; have K2 := Lib.hid K1; clear K1 K; (try clear a0); (try clear l0); (try clear a1); (try clear l1); (try clear a2); (try clear l2); have K := K2; clear K2; have a1 := K.out.rd 1 rfl; have l1 := K.out.ltp 1 rfl; have a2 := K.out.rd 2 rfl; have l2 := K.out.ltp 2 rfl) | (go_at_call 16; (with_reducible refine ((B2 _).out).mono ?_); rintro e w1 ⟨rfl, hb⟩; have K1 := sat.grown (by repeat (first | exact K.out | apply sat.alloc_any | apply sat.drew | apply sat.drewN)) hb; clear hb; have K2 := Lib.hid K1; clear K1 K; (try clear a0); (try clear l0); (try clear a1); (try clear l1); (try clear a2); (try clear l2); have K := K2; clear K2; have a1 := K.out.rd 1 rfl; have l1 := K.out.ltp 1 rfl; have a2 := K.out.rd 2 rfl; have l2 := K.out.ltp 2 rfl) | (go_at_call 17; (with_reducible refine ((R1 _).out).mono ?_); rintro e w1 ⟨rfl, hb⟩; have K1 := sat.grown (by repeat (first | exact K.out | apply sat.alloc_any | apply sat.drew | apply sat.drewN)) hb; clear hb; have K2 := Lib.hid K1; clear K1 K; (try clear a0); (try clear l0); (try clear a1); (try clear l1); (try clear a2); (try clear l2); have K := K2; clear K2; have a1 := K.out.rd 1 rfl; have l1 := K.out.ltp 1 rfl; have a2 := K.out.rd 2 rfl; have l2 := K.out.ltp 2 rfl) | (go_at_call 17; (with_reducible refine ((R2 _).out).mono ?_); rintro e w1 ⟨rfl, hb⟩; have K1 := sat.grown (by repeat (first | exact K.out | apply sat.alloc_any | apply sat.drew | apply sat.drewN)) hb; clear hb; have K2 := Lib.hid K1; clear K1 K; (try clear a0); (try clear l0); (try clear a1); (try clear l1); (try clear a2); (try clear l2); have K := K2; clear K2; have a1 := K.out.rd 1 rfl; have l1 := K.out.ltp 1 rfl; have a2 := K.out.rd 2 rfl; have l2 := K.out.ltp 2 rfl))
                  go_roundg gk1
                  case measure => omega
                  case rel => exact ⟨m + 1, by have := HM.out; omega, by simp, K.out.swap.drop.swap.drop⟩
            · have c1 : (x.fin == 1) = false := by simp [fx]
              have c2 : (x.fin == y.fin) = false := by simp [fx, fy]
              clear fx fy hA
              go_wp2_with (first | ((go_at_call 13; (with_reducible refine ((U _).out).mono ?_); rintro e w1 ⟨rfl, hb⟩; have K1 := sat.grown (by repeat (first | exact K.out | apply sat.alloc_any | apply sat.drew | apply sat.drewN)) hb; clear hb; have K2 := Lib.hid K1; clear K1 K; (try clear a0); (try clear l0); (try clear a1); (try clear l1); (try clear a2); (try clear l2); have K := K2; clear K2)) | ((go_at_call 13; (with_reducible refine ((V _).out).mono ?_); rintro e w1 ⟨rfl, hb⟩; have K1 := sat.grown (by repeat (first | exact K.out | apply sat.alloc_any | apply sat.drew | apply sat.drewN)) hb; clear hb; have K2 := Lib.hid K1; clear K1 K; (try clear a0); (try clear l0); (try clear a1); (try clear l1); (try clear a2); (try clear l2); have K := K2; clear K2; have a1 := K.out.rd 1 rfl; have l1 := K.out.ltp 1 rfl)) | ((with_reducible refine at_alloc ?_); refine st_alloc K.out (fun _ => rfl) ?_; intro gy w1 K1; simp only [List.cons_append, List.nil_append] at K1; have K2 := Lib.hid K1; clear K1 K; (try clear a0); (try clear l0); (try clear a1); (try clear l1); (try clear a2); (try clear l2); have K := K2; clear K2; have a1 := K.out.rd 1 rfl; have l1 := K.out.ltp 1 rfl; have a2 := K.out.rd 2 rfl; have l2 := K.out.ltp 2 rfl) | ((with_reducible refine at_alloc ?_); refine st_alloc K.out (fun _ => rfl) ?_; intro gx w1 K1; simp only [List.cons_append, List.nil_append] at K1; have K2 := Lib.hid K1; clear K1 K; (try clear a0); (try clear l0); (try clear a1); (try clear l1); (try clear a2); (try clear l2); have K := K2; clear K2; have a1 := K.out.rd 1 rfl; have l1 := K.out.ltp 1 rfl) | ((with_reducible refine at_store ?_); refine st_store 2 K.out rfl rfl rfl rfl ?_ ?_ ?_ ?_; (· kernel_rfl); (· simp); (· simp [Value.oneCell']); intro w1 K1; simp only [List.set, putL] at K1; have K2 := Lib.hid K1; clear K1 K; (try clear a0); (try clear l0); (try clear a1); (try clear l1); (try clear a2); (try clear l2); have K := K2; clear K2; have a1 := K.out.rd 1 rfl; have l1 := K.out.ltp 1 rfl; have a2 := K.out.rd 2 rfl; have l2 := K.out.ltp 2 rfl) | (((with_reducible refine at_store ?_); refine st_store 1 K.out rfl rfl rfl rfl ?_ ?_ ?_ ?_; (· kernel_rfl); (· simp); (· simp [Value.oneCell']); intro w1 K1; simp only [List.set, putL] at K1; have K2 := Lib.hid K1; clear K1 K; (try clear a0); (try clear l0); (try clear a1); (try clear l1); (try clear a2); (try clear l2); have K := K2; clear K2; have a1 := K.out.rd 1 rfl; have l1 := K.out.ltp 1 rfl); have fb := HB.out _ K.out.below) | (go_at_call 16; (with_reducible refine ((B1 _).out).mono ?_); rintro e w1 ⟨rfl, hb⟩; have K1 := sat.grown (by repeat (first | exact K.out | apply sat.alloc_any | apply sat.drew | apply sat.drewN)) hb; clear hb; have K2 := Lib.hid K1; clear K1 K; (try clear a0); (try clear l0); (try clear a1); (try clear l1); (try clear a2); (try clear l2); have K := K2; clear K2; have a1 := K.out.rd 1 rfl; have l1 := K.out.ltp 1 rfl; have a2 := K.out.rd 2 rfl; have l2 := K.out.ltp 2 rfl) | (go_at_call 16; (with_reducible refine ((B2 _).out).mono ?_); rintro e w1 ⟨rfl, hb⟩; have K1 := sat.grown (by repeat (first | exact K.out | apply sat.alloc_any | apply sat.drew | apply sat.drewN)) hb; clear hb; have K2 := Lib.hid K1; clear K1 K; (try clear a0); (try clear l0); (try clear a1); (try clear l1); (try clear a2); (try clear l2); have K := K2; clear K2; have a1 := K.out.rd 1 rfl; have l1 := K.out.ltp 1 rfl; have a2 := K.out.rd 2 rfl; have l2 := K.out.ltp 2 rfl) | (go_at_call 17; (with_reducible refine ((R1 _).out).mono ?_); rintro e w1 ⟨rfl, hb⟩; have K1 := sat.grown (by repeat (first | exact K.out | apply sat.alloc_any | apply sat.drew | apply sat.drewN)) hb; clear hb; have K2 := Lib.hid K1; clear K1 K; (try clear a0); (try clear l0); (try clear a1); (try clear l1); (try clear a2); (try clear l2); have K := K2; clear K2; have a1 := K.out.rd 1 rfl; have l1 := K.out.ltp 1 rfl; have a2 := K.out.rd 2 rfl; have l2 := K.out.ltp 2 rfl) | (go_at_call 17; (with_reducible refine ((R2 _).out).mono ?_); rintro e w1 ⟨rfl, hb⟩; have K1 := sat.grown (by repeat (first | exact K.out | apply sat.alloc_any | apply sat.drew | apply sat.drewN)) hb; clear hb; have K2 := Lib.hid K1; clear K1 K; (try clear a0); (try clear l0); (try clear a1); (try clear l1); (try clear a2); (try clear l2); have K := K2; clear K2; have a1 := K.out.rd 1 rfl; have l1 := K.out.ltp 1 rfl; have a2 := K.out.rd 2 rfl; have l2 := K.out.ltp 2 rfl))
              go_roundg gk1
              case measure => omega
              case rel => exact ⟨m + 1, by have := HM.out; omega, by simp, K.out.swap.drop.swap.drop⟩
            · exfalso
              simp [fx, fy] at hA
            · have LT : x.stamp.lo < y.stamp.lo ∨ x.stamp.lo = y.stamp.lo ∧ (x.stamp.hi < y.stamp.hi ∨ x.stamp.hi = y.stamp.hi ∧ (a : Int) < b) := by simpa [fx, fy] using hA
              have c1 : (x.fin == 1) = true := by simp [fx]
              have c2 : (x.fin == y.fin) = true := by simp [fx, fy]
              have c3 : (x.fin == 0) = false := by simp [fx]
              have c4 : (y.fin == 0) = false := by simp [fy]
              cases hb1 : y.stamp.before x.stamp
              · rw [hb1] at B2
                clear hb1 fx fy hA LT
                go_wp2_with (first | ((go_at_call 13; (with_reducible refine ((U _).out).mono ?_); rintro e w1 ⟨rfl, hb⟩; have K1 := sat.grown (by repeat (first | exact K.out | apply sat.alloc_any | apply sat.drew | apply sat.drewN)) hb; clear hb; have K2 := Lib.hid K1; clear K1 K; (try clear a0); (try clear l0); (try clear a1); (try clear l1); (try clear a2); (try clear l2); have K := K2; clear K2)) | ((go_at_call 13; (with_reducible refine ((V _).out).mono ?_); rintro e w1 ⟨rfl, hb⟩; have K1 := sat.grown (by repeat (first | exact K.out | apply sat.alloc_any | apply sat.drew | apply sat.drewN)) hb; clear hb; have K2 := Lib.hid K1; clear K1 K; (try clear a0); (try clear l0); (try clear a1); (try clear l1); (try clear a2); (try clear l2); have K := K2; clear K2; have a1 := K.out.rd 1 rfl; have l1 := K.out.ltp 1 rfl)) | ((with_reducible refine at_alloc ?_); refine st_alloc K.out (fun _ => rfl) ?_; intro gy w1 K1; simp only [List.cons_append, List.nil_append] at K1; have K2 := Lib.hid K1; clear K1 K; (try clear a0); (try clear l0); (try clear a1); (try clear l1); (try clear a2); (try clear l2); have K := K2; clear K2; have a1 := K.out.rd 1 rfl; have l1 := K.out.ltp 1 rfl; have a2 := K.out.rd 2 rfl; have l2 := K.out.ltp 2 rfl) | ((with_reducible refine at_alloc ?_); refine st_alloc K.out (fun _ => rfl) ?_; intro gx w1 K1; simp only [List.cons_append, List.nil_append] at K1; have K2 := Lib.hid K1; clear K1 K; (try clear a0); (try clear l0); (try clear a1); (try clear l1); (try clear a2); (try clear l2); have K := K2; clear K2; have a1 := K.out.rd 1 rfl; have l1 := K.out.ltp 1 rfl) | ((with_reducible refine at_store ?_); refine st_store 2 K.out rfl rfl rfl rfl ?_ ?_ ?_ ?_; (· kernel_rfl); (· simp); (· simp [Value.oneCell']); intro w1 K1; simp only [List.set, putL] at K1; have K2 := Lib.hid K1; clear K1 K; (try clear a0); (try clear l0); (try clear a1); (try clear l1); (try clear a2); (try clear l2); have K := K2; clear K2; have a1 := K.out.rd 1 rfl; have l1 := K.out.ltp 1 rfl; have a2 := K.out.rd 2 rfl; have l2 := K.out.ltp 2 rfl) | (((with_reducible refine at_store ?_); refine st_store 1 K.out rfl rfl rfl rfl ?_ ?_ ?_ ?_; (· kernel_rfl); (· simp); (· simp [Value.oneCell']); intro w1 K1; simp only [List.set, putL] at K1; have K2 := Lib.hid K1; clear K1 K; (try clear a0); (try clear l0); (try clear a1); (try clear l1); (try clear a2); (try clear l2); have K := K2; clear K2; have a1 := K.out.rd 1 rfl; have l1 := K.out.ltp 1 rfl); have fb := HB.out _ K.out.below) | (go_at_call 16; (with_reducible refine ((B1 _).out).mono ?_); rintro e w1 ⟨rfl, hb⟩; have K1 := sat.grown (by repeat (first | exact K.out | apply sat.alloc_any | apply sat.drew | apply sat.drewN)) hb; clear hb; have K2 := Lib.hid K1; clear K1 K; (try clear a0); (try clear l0); (try clear a1); (try clear l1); (try clear a2); (try clear l2); have K := K2; clear K2; have a1 := K.out.rd 1 rfl; have l1 := K.out.ltp 1 rfl; have a2 := K.out.rd 2 rfl; have l2 := K.out.ltp 2 rfl) | (go_at_call 16; (with_reducible refine ((B2 _).out).mono ?_); rintro e w1 ⟨rfl, hb⟩; have K1 := sat.grown (by repeat (first | exact K.out | apply sat.alloc_any | apply sat.drew | apply sat.drewN)) hb; clear hb; have K2 := Lib.hid K1; clear K1 K; (try clear a0); (try clear l0); (try clear a1); (try clear l1); (try clear a2); (try clear l2); have K := K2; clear K2; have a1 := K.out.rd 1 rfl; have l1 := K.out.ltp 1 rfl; have a2 := K.out.rd 2 rfl; have l2 := K.out.ltp 2 rfl) | (go_at_call 17; (with_reducible refine ((R1 _).out).mono ?_); rintro e w1 ⟨rfl, hb⟩; have K1 := sat.grown (by repeat (first | exact K.out | apply sat.alloc_any | apply sat.drew | apply sat.drewN)) hb; clear hb; have K2 := Lib.hid K1; clear K1 K; (try clear a0); (try clear l0); (try clear a1); (try clear l1); (try clear a2); (try clear l2); have K := K2; clear K2; have a1 := K.out.rd 1 rfl; have l1 := K.out.ltp 1 rfl; have a2 := K.out.rd 2 rfl; have l2 := K.out.ltp 2 rfl) | (go_at_call 17; (with_reducible refine ((R2 _).out).mono ?_); rintro e w1 ⟨rfl, hb⟩; have K1 := sat.grown (by repeat (first | exact K.out | apply sat.alloc_any | apply sat.drew | apply sat.drewN)) hb; clear hb; have K2 := Lib.hid K1; clear K1 K; (try clear a0); (try clear l0); (try clear a1); (try clear l1); (try clear a2); (try clear l2); have K := K2; clear K2; have a1 := K.out.rd 1 rfl; have l1 := K.out.ltp 1 rfl; have a2 := K.out.rd 2 rfl; have l2 := K.out.ltp 2 rfl))
                go_roundg gk1
                case measure => omega
                case rel => exact ⟨m + 1, by have := HM.out; omega, by simp, K.out.swap.drop.swap.drop⟩
              · cases hr1 : x.stamp.right
                · rw [hb1] at B2
                  rw [hr1] at R1
                  clear hb1 hr1 fx fy hA LT
                  go_wp2_with (first | ((go_at_call 13; (with_reducible refine ((U _).out).mono ?_); rintro e w1 ⟨rfl, hb⟩; have K1 := sat.grown (by repeat (first | exact K.out | apply sat.alloc_any | apply sat.drew | apply sat.drewN)) hb; clear hb; have K2 := Lib.hid K1; clear K1 K; (try clear a0); (try clear l0); (try clear a1); (try clear l1); (try clear a2); (try clear l2); have K := K2; clear K2)) | ((go_at_call 13; (with_reducible refine ((V _).out).mono ?_); rintro e w1 ⟨rfl, hb⟩; have K1 := sat.grown (by repeat (first | exact K.out | apply sat.alloc_any | apply sat.drew | apply sat.drewN)) hb; clear hb; have K2 := Lib.hid K1; clear K1 K; (try clear a0); (try clear l0); (try clear a1); (try clear l1); (try clear a2); (try clear l2); have K := K2; clear K2; have a1 := K.out.rd 1 rfl; have l1 := K.out.ltp 1 rfl)) | ((with_reducible refine at_alloc ?_); refine st_alloc K.out (fun _ => rfl) ?_; intro gy w1 K1; simp only [List.cons_append, List.nil_append] at K1; have K2 := Lib.hid K1; clear K1 K; (try clear a0); (try clear l0); (try clear a1); (try clear l1); (try clear a2); (try clear l2); have K := K2; clear K2; have a1 := K.out.rd 1 rfl; have l1 := K.out.ltp 1 rfl; have a2 := K.out.rd 2 rfl; have l2 := K.out.ltp 2 rfl) | ((with_reducible refine at_alloc ?_); refine st_alloc K.out (fun _ => rfl) ?_; intro gx w1 K1; simp only [List.cons_append, List.nil_append] at K1; have K2 := Lib.hid K1; clear K1 K; (try clear a0); (try clear l0); (try clear a1); (try clear l1); (try clear a2); (try clear l2); have K := K2; clear K2; have a1 := K.out.rd 1 rfl; have l1 := K.out.ltp 1 rfl) | ((with_reducible refine at_store ?_); refine st_store 2 K.out rfl rfl rfl rfl ?_ ?_ ?_ ?_; (· kernel_rfl); (· simp); (· simp [Value.oneCell']); intro w1 K1; simp only [List.set, putL] at K1; have K2 := Lib.hid K1; clear K1 K; (try clear a0); (try clear l0); (try clear a1); (try clear l1); (try clear a2); (try clear l2); have K := K2; clear K2; have a1 := K.out.rd 1 rfl; have l1 := K.out.ltp 1 rfl; have a2 := K.out.rd 2 rfl; have l2 := K.out.ltp 2 rfl) | (((with_reducible refine at_store ?_); refine st_store 1 K.out rfl rfl rfl rfl ?_ ?_ ?_ ?_; (· kernel_rfl); (· simp); (· simp [Value.oneCell']); intro w1 K1; simp only [List.set, putL] at K1; have K2 := Lib.hid K1; clear K1 K; (try clear a0); (try clear l0); (try clear a1); (try clear l1); (try clear a2); (try clear l2); have K := K2; clear K2; have a1 := K.out.rd 1 rfl; have l1 := K.out.ltp 1 rfl); have fb := HB.out _ K.out.below) | (go_at_call 16; (with_reducible refine ((B1 _).out).mono ?_); rintro e w1 ⟨rfl, hb⟩; have K1 := sat.grown (by repeat (first | exact K.out | apply sat.alloc_any | apply sat.drew | apply sat.drewN)) hb; clear hb; have K2 := Lib.hid K1; clear K1 K; (try clear a0); (try clear l0); (try clear a1); (try clear l1); (try clear a2); (try clear l2); have K := K2; clear K2; have a1 := K.out.rd 1 rfl; have l1 := K.out.ltp 1 rfl; have a2 := K.out.rd 2 rfl; have l2 := K.out.ltp 2 rfl) | (go_at_call 16; (with_reducible refine ((B2 _).out).mono ?_); rintro e w1 ⟨rfl, hb⟩; have K1 := sat.grown (by repeat (first | exact K.out | apply sat.alloc_any | apply sat.drew | apply sat.drewN)) hb; clear hb; have K2 := Lib.hid K1; clear K1 K; (try clear a0); (try clear l0); (try clear a1); (try clear l1); (try clear a2); (try clear l2); have K := K2; clear K2; have a1 := K.out.rd 1 rfl; have l1 := K.out.ltp 1 rfl; have a2 := K.out.rd 2 rfl; have l2 := K.out.ltp 2 rfl) | (go_at_call 17; (with_reducible refine ((R1 _).out).mono ?_); rintro e w1 ⟨rfl, hb⟩; have K1 := sat.grown (by repeat (first | exact K.out | apply sat.alloc_any | apply sat.drew | apply sat.drewN)) hb; clear hb; have K2 := Lib.hid K1; clear K1 K; (try clear a0); (try clear l0); (try clear a1); (try clear l1); (try clear a2); (try clear l2); have K := K2; clear K2; have a1 := K.out.rd 1 rfl; have l1 := K.out.ltp 1 rfl; have a2 := K.out.rd 2 rfl; have l2 := K.out.ltp 2 rfl) | (go_at_call 17; (with_reducible refine ((R2 _).out).mono ?_); rintro e w1 ⟨rfl, hb⟩; have K1 := sat.grown (by repeat (first | exact K.out | apply sat.alloc_any | apply sat.drew | apply sat.drewN)) hb; clear hb; have K2 := Lib.hid K1; clear K1 K; (try clear a0); (try clear l0); (try clear a1); (try clear l1); (try clear a2); (try clear l2); have K := K2; clear K2; have a1 := K.out.rd 1 rfl; have l1 := K.out.ltp 1 rfl; have a2 := K.out.rd 2 rfl; have l2 := K.out.ltp 2 rfl))
                  go_roundg gk1
                  case measure => omega
                  case rel => exact ⟨m + 1, by have := HM.out; omega, by simp, K.out.swap.drop.swap.drop⟩
                · have hr2 : y.stamp.right = false := by
                    cases h : y.stamp.right
                    · rfl
                    · simp only [StampM.before, StampM.right, Bool.and_eq_true, decide_eq_true_eq] at hb1 hr1 h; omega
                  rw [hb1] at B2
                  rw [hr1] at R1
                  rw [hr2] at R2
                  clear hb1 hr1 hr2 fx fy hA LT
                  go_wp2_with (first | ((go_at_call 13; (with_reducible refine ((U _).out).mono ?_); rintro e w1 ⟨rfl, hb⟩; have K1 := sat.grown (by repeat (first | exact K.out | apply sat.alloc_any | apply sat.drew | apply sat.drewN)) hb; clear hb; have K2 := Lib.hid K1; clear K1 K; (try clear a0); (try clear l0); (try clear a1); (try clear l1); (try clear a2); (try clear l2); have K := K2; clear K2)) | ((go_at_call 13; (with_reducible refine ((V _).out).mono ?_); rintro e w1 ⟨rfl, hb⟩; have K1 := sat.grown (by repeat (first | exact K.out | apply sat.alloc_any | apply sat.drew | apply sat.drewN)) hb; clear hb; have K2 := Lib.hid K1; clear K1 K; (try clear a0); (try clear l0); (try clear a1); (try clear l1); (try clear a2); (try clear l2); have K := K2; clear K2; have a1 := K.out.rd 1 rfl; have l1 := K.out.ltp 1 rfl)) | ((with_reducible refine at_alloc ?_); refine st_alloc K.out (fun _ => rfl) ?_; intro gy w1 K1; simp only [List.cons_append, List.nil_append] at K1; have K2 := Lib.hid K1; clear K1 K; (try clear a0); (try clear l0); (try clear a1); (try clear l1); (try clear a2); (try clear l2); have K := K2; clear K2; have a1 := K.out.rd 1 rfl; have l1 := K.out.ltp 1 rfl; have a2 := K.out.rd 2 rfl; have l2 := K.out.ltp 2 rfl) | ((with_reducible refine at_alloc ?_); refine st_alloc K.out (fun _ => rfl) ?_; intro gx w1 K1; simp only [List.cons_append, List.nil_append] at K1; have K2 := Lib.hid K1; clear K1 K; (try clear a0); (try clear l0); (try clear a1); (try clear l1); (try clear a2); (try clear l2); have K := K2; clear K2; have a1 := K.out.rd 1 rfl; have l1 := K.out.ltp 1 rfl) | ((with_reducible refine at_store ?_); refine st_store 2 K.out rfl rfl rfl rfl ?_ ?_ ?_ ?_; (· kernel_rfl); (· simp); (· simp [Value.oneCell']); intro w1 K1; simp only [List.set, putL] at K1; have K2 := Lib.hid K1; clear K1 K; (try clear a0); (try clear l0); (try clear a1); (try clear l1); (try clear a2); (try clear l2); have K := K2; clear K2; have a1 := K.out.rd 1 rfl; have l1 := K.out.ltp 1 rfl; have a2 := K.out.rd 2 rfl; have l2 := K.out.ltp 2 rfl) | (((with_reducible refine at_store ?_); refine st_store 1 K.out rfl rfl rfl rfl ?_ ?_ ?_ ?_; (· kernel_rfl); (· simp); (· simp [Value.oneCell']); intro w1 K1; simp only [List.set, putL] at K1; have K2 := Lib.hid K1; clear K1 K; (try clear a0); (try clear l0); (try clear a1); (try clear l1); (try clear a2); (try clear l2); have K := K2; clear K2; have a1 := K.out.rd 1 rfl; have l1 := K.out.ltp 1 rfl); have fb := HB.out _ K.out.below) | (go_at_call 16; (with_reducible refine ((B1 _).out).mono ?_); rintro e w1 ⟨rfl, hb⟩; have K1 := sat.grown (by repeat (first | exact K.out | apply sat.alloc_any | apply sat.drew | apply sat.drewN)) hb; clear hb; have K2 := Lib.hid K1; clear K1 K; (try clear a0); (try clear l0); (try clear a1); (try clear l1); (try clear a2); (try clear l2); have K := K2; clear K2; have a1 := K.out.rd 1 rfl; have l1 := K.out.ltp 1 rfl; have a2 := K.out.rd 2 rfl; have l2 := K.out.ltp 2 rfl) | (go_at_call 16; (with_reducible refine ((B2 _).out).mono ?_); rintro e w1 ⟨rfl, hb⟩; have K1 := sat.grown (by repeat (first | exact K.out | apply sat.alloc_any | apply sat.drew | apply sat.drewN)) hb; clear hb; have K2 := Lib.hid K1; clear K1 K; (try clear a0); (try clear l0); (try clear a1); (try clear l1); (try clear a2); (try clear l2); have K := K2; clear K2; have a1 := K.out.rd 1 rfl; have l1 := K.out.ltp 1 rfl; have a2 := K.out.rd 2 rfl; have l2 := K.out.ltp 2 rfl) | (go_at_call 17; (with_reducible refine ((R1 _).out).mono ?_); rintro e w1 ⟨rfl, hb⟩; have K1 := sat.grown (by repeat (first | exact K.out | apply sat.alloc_any | apply sat.drew | apply sat.drewN)) hb; clear hb; have K2 := Lib.hid K1; clear K1 K; (try clear a0); (try clear l0); (try clear a1); (try clear l1); (try clear a2); (try clear l2); have K := K2; clear K2; have a1 := K.out.rd 1 rfl; have l1 := K.out.ltp 1 rfl; have a2 := K.out.rd 2 rfl; have l2 := K.out.ltp 2 rfl) | (go_at_call 17; (with_reducible refine ((R2 _).out).mono ?_); rintro e w1 ⟨rfl, hb⟩; have K1 := sat.grown (by repeat (first | exact K.out | apply sat.alloc_any | apply sat.drew | apply sat.drewN)) hb; clear hb; have K2 := Lib.hid K1; clear K1 K; (try clear a0); (try clear l0); (try clear a1); (try clear l1); (try clear a2); (try clear l2); have K := K2; clear K2; have a1 := K.out.rd 1 rfl; have l1 := K.out.ltp 1 rfl; have a2 := K.out.rd 2 rfl; have l2 := K.out.ltp 2 rfl))
                  go_roundg gk1
                  case measure => omega
                  case rel => exact ⟨m + 1, by have := HM.out; omega, by simp, K.out.swap.drop.swap.drop⟩
          · have d1 : decide (m < l.length - (n + 1)) = false := by simpa using hlt2
            clear hm
            go_wp2
            go_roundg gk0
            case measure => omega
            case rel => exact ⟨n + 1, by have := HN.out; omega, by simp, K.out⟩
      · have z : l.length - (n + 1) = 0 := by omega
        go_wp2
        go_loopg [29] 0 (fun gk i w' => befRel2 w l (.slice (some ⟨g, 0, none⟩) l.length c1) 0 gk i w')
        case atStart => exact ⟨0, by simp, rfl, K.out⟩
        case round =>
          obtain ⟨m, hm, rfl, hs⟩ := hrel
          clear K
          have K := Lib.hid hs
          clear hs
          obtain rfl : m = 0 := by omega
          clear hm
          go_wp2
          go_roundg gk0
          case measure => omega
          case rel => exact ⟨n + 1, by have := HN.out; omega, by simp, K.out⟩
    · have d0 : decide (n < l.length) = false := by simpa using hlt
      clear hn
      go_wp2
      go_ret
      exact ⟨rfl, K.out.below⟩
theorem pickBefore_calls (W : World) (a : Option Addr) (len cap : Nat) (rows : List (List Value)) (h : RowsAt W [.int .u64] a len cap rows) :
    Calls Try.prog 6 #[.slice a len cap] W fun e W' => e = .returned (.bool true) ∧ Below W.heap.size W W' := by
  obtain ⟨words, rfl, hwf, hc⟩ := oldU_of h
  by_cases h60 : words.length > 60
  · have HD := fun w => Lib.hid (head_calls w)
    have K := Lib.hid (sat.start W)
    have c0 : decide ((words.length : Int) > 60) = true := by simp; omega
    clear hc h
    go_enter Try.func6, Try.ntmps6
    go_wp2_with (first | (go_at_call 9; (with_reducible refine ((HD _).out).mono ?_); rintro e w1 ⟨rfl, hb⟩; have K1 := sat.grown (by repeat (first | exact K.out | apply sat.alloc_any | apply sat.drew | apply sat.drewN)) hb; clear hb; have K2 := Lib.hid K1; clear K1 K; (try clear a0); (try clear l0); (try clear a1); (try clear l1); (try clear a2); (try clear l2); have K := K2; clear K2))
    go_ret
    exact ⟨rfl, K.out.below⟩
  · exact bef_calls words a cap W hc hwf h60
end Go.Proofs.Ytjnckolidgbckaa
