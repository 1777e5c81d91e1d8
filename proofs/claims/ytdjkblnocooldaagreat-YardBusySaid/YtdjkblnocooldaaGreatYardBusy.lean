/- From its call on until its reply a thread is busy, and asks for nothing else (YardBusy answers true at every input). No condition beyond the row's own. -/
import Derived.Test.YtdjkblnocooldaaGreatBc
import Derived.Test.YtdjkblnocooldaaGreatBn
import Derived.Test.YtdjkblnocooldaaGreatBe
namespace Go.Proofs.YtdjkblnocooldaaGreat
open Go.RowKit Go.SepYtdjkblnocooldaaGreat
set_option linter.unusedSimpArgs false
set_option linter.unusedVariables false
set_option maxRecDepth 100000
set_option maxHeartbeats 4000000
abbrev getK : CallM := ⟨1, 0, 0, 0⟩
/-- An element of a row of one's own. -/
theorem row_elem {α : Type} {V : α → List Value} {k : Nat} (hk : ∀ x, (V x).length = k) {E w : World} {L : List SA} {g n c t : Nat} {l : List α} (h : sat E w (rowA (.slice (some ⟨g, 0, none⟩) n c) t k l.length (l.flatMap V) :: L)) {j : Nat} (hj : j < l.length) (i : Nat) (u : Value) (hi : (V l[j])[i]? = some u) : w.cell? ⟨g, j * k + i, none⟩ = some u := by
  obtain ⟨hn, _⟩ := Go.SepYtdjkblnocooldaaGreat.row_len h
  subst hn
  refine h.row_rd 0 rfl (j * k + i) u ?_
  rw [fm_at hk l j hj i (by
    rcases Nat.lt_or_ge i k with q | q
    · exact q
    · rw [List.getElem?_eq_none (by rw [hk]; exact q)] at hi; cases hi)]
  exact hi
theorem askAll_okn {n : Nat} {y : YardM} (h : y.okn n) : ∀ k : Nat, (askAll getK y k).okn (n + k)
  | 0 => h
  | k + 1 => YardM.call_okn (askAll_okn h k) k (by unfold CallM.wf; decide)
theorem yardBusy_main (t s r : Int) (p : Option Addr) (l : List MoveM) (cap : Nat) (E : World) (hwf : ∀ v ∈ l, v.wf) (ho : OldS MoveM.v 7 E p l) :
    Calls Tryz.prog 3 #[.int .i64 t, .int .i64 s, .int .i64 r, .slice p l.length cap] E fun e w' => e = .returned (.bool true) ∧ Below E.heap.size E w' := by
  have K := Lib.hid (sat.start E)
  have HD := fun w => Lib.hid (head13_calls w)
  by_cases h300 : (l.length : Int) > 300
  · have c0 : decide ((l.length : Int) > 300) = true := by simpa using h300
    go_enter Tryz.func3, Tryz.ntmps3
    go_wp2_with (first | (go_at_call 15; (with_reducible refine ((HD _).out).mono ?_); rintro e w1 ⟨rfl, hb⟩; have K1 := sat.grown (by repeat (with_reducible first | exact K.out | apply sat.alloc_any | apply sat.drew | apply sat.drewN)) hb; clear hb; have K2 := Lib.hid K1; clear K1 K; (try clear a0); (try clear l0); (try clear a1); (try clear l1); (try clear a2); (try clear l2); have K := K2; clear K2))
    go_ret
    exact ⟨rfl, K.out.below⟩
  · have c0 : decide ((l.length : Int) > 300) = false := by simpa using h300
    have hl : l.length ≤ 300 := by omega
    have H := Lib.hid ho
    have CF := fun w => Lib.hid (conf_calls t s r 1 w)
    have hc := confS_ok t s r 1
    generalize confS t s r 1 = c at *
    have HO := Lib.hid (run_okn hc l hwf)
    have HI := Lib.hid (runsM_kept c.th l (YardM.new_oinv hc) (YardM.new_hinv hc)).hinv
    have NW := fun w' (M : List SA) (h : sat E w' M) => Lib.hid (ynew_calls c hc h)
    have hth1 := hc.th1
    have hth2 := hc.th2
    clear hwf ho
    go_enter Tryz.func3, Tryz.ntmps3
    go_wp2_with (first | (go_at_call 15; (with_reducible refine ((HD _).out).mono ?_); rintro e w1 ⟨rfl, hb⟩; have K1 := sat.grown (by repeat (with_reducible first | exact K.out | apply sat.alloc_any | apply sat.drew | apply sat.drewN)) hb; clear hb; have K2 := Lib.hid K1; clear K1 K; (try clear a0); (try clear l0); (try clear a1); (try clear l1); (try clear a2); (try clear l2); have K := K2; clear K2) | (go_at_call 16; (with_reducible refine ((CF _).out).mono ?_); rintro e w1 ⟨rfl, hb⟩; have K1 := sat.grown (by repeat (with_reducible first | exact K.out | apply sat.alloc_any | apply sat.drew | apply sat.drewN)) hb; clear hb; have K2 := Lib.hid K1; clear K1 K; (try clear a0); (try clear l0); (try clear a1); (try clear l1); (try clear a2); (try clear l2); have K := K2; clear K2) | ((with_reducible refine at_alloc ?_); refine st_allocf K.out (fun _ => rfl) ?_; intro gc w1 K1; have K2 := Lib.hid K1; clear K1 K; (try clear a0); (try clear l0); (try clear a1); (try clear l1); (try clear a2); (try clear l2); have K := K2; clear K2; have a0 := K.out.rd 0 rfl; have l0 := K.out.ltp 0 rfl) | ((with_reducible refine at_store ?_); refine st_store 0 K.out rfl rfl rfl rfl ?_ ?_ ?_ ?_; (· kernel_rfl); (· simp); (· simp [Value.oneCell']); intro w1 K1; simp only [List.set, putL] at K1; have K2 := Lib.hid K1; clear K1 K; (try clear a0); (try clear l0); (try clear a1); (try clear l1); (try clear a2); (try clear l2); have K := K2; clear K2; have a0 := K.out.rd 0 rfl; have l0 := K.out.ltp 0 rfl) | (go_at_call 17; (with_reducible refine ((NW _ _ (show sat E _ _ from by iterate 6 (try (with_reducible first | exact K.out | apply sat.alloc_any | apply sat.drew | apply sat.drewN)))).out).mono ?_); rintro e w1 ⟨gy, rfl, K1⟩; have K2 := Lib.hid K1; clear K1 K; (try clear a0); (try clear l0); (try clear a1); (try clear l1); (try clear a2); (try clear l2); have K := K2; clear K2; have a1 := K.out.rd 1 rfl; have l1 := K.out.ltp 1 rfl))
    go_loopg [39] l.length (fun GG i w' => ∃ n : Nat, n + GG = l.length ∧ i = .int .i64 n ∧ sat E w' [yardA gy (runsM c.th (YardM.new c) (l.take n)), confP gc c])
    case atStart => exact ⟨0, by simp, rfl, K.out⟩
    case round =>
      obtain ⟨n, hn, rfl, hs⟩ := hrel
      clear K
      have K := Lib.hid hs
      clear hs
      have a1 := K.out.rd 1 rfl
      have l1 := K.out.ltp 1 rfl
      have HN := Lib.hid hn
      by_cases hlt : n < l.length
      · have d0 : decide (n < l.length) = true := by simpa using hlt
        obtain ⟨b, off, rfl, hb0, hx0⟩ := H.out n hlt; have hx : ∀ i u, (MoveM.v l[n])[i]? = some u → wr.cell? ⟨b, off + n * 7 + i, none⟩ = some u := fun i u hi => (K.out.below.cell (p := ⟨b, off + n * 7 + i, none⟩) hb0).trans (hx0 i u hi); have y0 : wr.cell? ⟨b, off + n * 7, none⟩ = _ := hx 0 _ rfl; have y1 := hx 1 _ rfl; have y2 := hx 2 _ rfl; have y3 := hx 3 _ rfl; have y4 := hx 4 _ rfl; have y5 := hx 5 _ rfl; have y6 := hx 6 _ rfl; clear hx hx0 hb0
        have hok := HO.out n (by omega)
        have DO := fun w' (M : List SA) (h : sat E w' (yardA gy (runsM c.th (YardM.new c) (l.take n)) :: M)) => Lib.hid (do_calls gy _ hok.1 (by omega) c.th (by rw [hok.2]) l[n] h)
        rw [← runsM_take c.th _ l n hlt] at DO
        obtain ⟨gk', rfl⟩ : ∃ g', gk = g' + 1 := ⟨gk - 1, by omega⟩
        have hn300 : n < 1000 := by omega
        clear hn hok HO
        generalize l[n] = v at *
        generalize runsM c.th (YardM.new c) (l.take n) = Y at *
        go_wp2_with (first | ((with_reducible refine at_alloc ?_); refine st_allocf K.out (fun _ => rfl) ?_; intro gv w1 K1; have K2 := Lib.hid K1; clear K1 K; (try clear a0); (try clear l0); (try clear a1); (try clear l1); (try clear a2); (try clear l2); have K := K2; clear K2; have a0 := K.out.rd 0 rfl; have l0 := K.out.ltp 0 rfl; have a2 := K.out.rd 2 rfl; have l2 := K.out.ltp 2 rfl) | ((with_reducible refine at_store ?_); refine st_store 0 K.out rfl rfl rfl rfl ?_ ?_ ?_ ?_; (· kernel_rfl); (· simp); (· simp [Value.oneCell']); intro w1 K1; simp only [List.set, putL] at K1; have K2 := Lib.hid K1; clear K1 K; (try clear a0); (try clear l0); (try clear a1); (try clear l1); (try clear a2); (try clear l2); have K := K2; clear K2; have a0 := K.out.rd 0 rfl; have l0 := K.out.ltp 0 rfl; have a2 := K.out.rd 2 rfl; have l2 := K.out.ltp 2 rfl) | (go_at_call 18; (with_reducible refine ((DO _ _ (show sat E _ _ from by iterate 6 (try (with_reducible first | exact K.out | apply sat.alloc_any | apply sat.drew | apply sat.drewN))).swap).out).mono ?_); rintro e w1 ⟨rfl, K1⟩; replace K1 := K1.swap; have K2 := Lib.hid K1; clear K1 K; (try clear a0); (try clear l0); (try clear a1); (try clear l1); (try clear a2); (try clear l2); have K := K2; clear K2; have a0 := K.out.rd 0 rfl; have l0 := K.out.ltp 0 rfl; have a2 := K.out.rd 2 rfl; have l2 := K.out.ltp 2 rfl))
        go_roundg gk'
        case measure => omega
        case rel => exact ⟨n + 1, by have := HN.out; omega, by first | (simp; done) | (simp; exact w64 (by omega) (by omega)), K.out.drop⟩
      · have d0 : decide (n < l.length) = false := by simpa using hlt
        have hnl : n = l.length := by omega
        have HK := Lib.hid (show (runsM c.th (YardM.new c) l).okn 300 ∧ (runsM c.th (YardM.new c) l).conf = c from by
          have := HO.out l.length (by omega)
          rw [List.take_length] at this
          exact ⟨this.1.mono (by omega), this.2⟩)
        subst hnl
        rw [List.take_length] at K
        clear hn HO NW CF H HN hlt
        generalize runsM c.th (YardM.new c) l = Y at *
        have hconf := HK.out.2
        have hd300 := HK.out.1.dl
        have HA := Lib.hid (fun k : Nat => askAll_okn HK.out.1 k)
        have HV := Lib.hid (fun (k : Nat) (hk : (k : Int) ≤ Y.conf.th) => askAll_inv HI.out (k := getK) rfl k hk)
        have DC := fun w' (M : List SA) (h : sat E w' (yardA gy Y :: M)) => Lib.hid (ydeeds_calls gy Y (by omega) h)
        go_wp2_with (first | (go_at_call 19; (with_reducible refine ((DC _ _ (show sat E _ _ from by iterate 6 (try (with_reducible first | exact K.out | apply sat.alloc_any | apply sat.drew | apply sat.drewN)))).out).mono ?_); rintro e w1 ⟨p1, k1, rfl, K1⟩; have K2 := Lib.hid K1; clear K1 K; (try clear a0); (try clear l0); (try clear a1); (try clear l1); (try clear a2); (try clear l2); have K := K2; clear K2; have a2 := K.out.rd 2 rfl; have l2 := K.out.ltp 2 rfl))
        clear DC
        go_loopg [15] c.th.toNat (fun GG i w' => ∃ n : Nat, n + GG = c.th.toNat ∧ i = .int .i64 n ∧ sat E w' [rowA (.slice p1 Y.deeds.length k1) 47 11 Y.deeds.length (Y.deeds.flatMap DeedM.v), yardA gy (askAll getK Y n), confP gc c])
        case atStart => exact ⟨0, by simp, rfl, K.out⟩
        case round =>
          obtain ⟨n, hn, rfl, hs⟩ := hrel
          clear K
          have K := Lib.hid hs
          clear hs
          have a2 := K.out.rd 2 rfl
          have l2 := K.out.ltp 2 rfl
          have HN := Lib.hid hn
          by_cases hlt : (n : Int) < c.th
          · have d1 : decide ((n : Int) < c.th) = true := by simpa using hlt
            have hok := (HA.out n).ok (by omega)
            have hv := HV.out n (by rw [hconf]; omega)
            have htn : (askAll getK Y n).there n = true := by unfold YardM.there; rw [hv.2.1, hconf]; simp; omega
            obtain ⟨q2, q3, _, _⟩ := YardM.call_right hv.1.tl (k := getK) htn rfl
            rw [hv.2.2 n (by omega)] at q2
            have hop := hinv_open HI.out (w := (n : Int)) (by omega) (by rw [hconf]; exact hlt)
            have HS := Lib.hid (fun (j : Nat) (hj : j < Y.deeds.length) (e : Y.deeds[j].who = (n : Int)) => by
              have := hinv_scan HI.out (List.getElem?_eq_getElem hj)
              rw [e] at this
              exact this)
            have HB0 := fun w' (M : List SA) (h : sat E w' (yardA gy (askAll getK Y n) :: M)) => Lib.hid (ybusy_calls gy _ hok n h)
            rw [hv.2.2 n (by omega)] at HB0
            have CL := fun w' (M : List SA) (h : sat E w' (yardA gy (askAll getK Y n) :: M)) => Lib.hid (ycall_calls gy _ hok n getK (by have := (HA.out n).dl; omega) (by have := (HA.out n).m1; omega) h)
            rw [q2, show ((askAll getK Y n).call n getK).1 = askAll getK Y (n + 1) from rfl] at CL
            have HB1 := fun w' (M : List SA) (h : sat E w' (yardA gy (askAll getK Y (n + 1)) :: M)) => Lib.hid (ybusy_calls gy _ ((HA.out (n + 1)).ok (by omega)) n h)
            rw [show (askAll getK Y (n + 1)).busy n = true from q3] at HB1
            have hob := openP_bd (n : Int)
            obtain ⟨gk', rfl⟩ : ∃ g', gk = g' + 1 := ⟨gk - 1, by omega⟩
            clear hn hv htn q2 q3 hok HA HV
            generalize askAll getK Y n = Yn at *
            obtain ⟨Yn1, hY1⟩ : ∃ z, z = askAll getK Y (n + 1) := ⟨_, rfl⟩
            rw [← hY1] at CL HB1
            have HY1 := Lib.hid hY1
            clear hY1
            go_wp2_with fail
            go_loopg [59, 16, 17] Y.deeds.length (fun GG i o la w' => ∃ j : Nat, j + GG = Y.deeds.length ∧ i = .int .i64 j ∧ o = .int .i64 (openP n (Y.deeds.take j)) ∧ la = .int .i64 (lastP n (Y.deeds.take j)) ∧ sat E w' [rowA (.slice p1 Y.deeds.length k1) 47 11 Y.deeds.length (Y.deeds.flatMap DeedM.v), yardA gy Yn, confP gc c])
            case atStart => exact ⟨0, by simp, rfl, rfl, rfl, K.out⟩
            case round =>
              obtain ⟨j, hj, rfl, rfl, rfl, hs⟩ := hrel
              clear K
              have K := Lib.hid hs
              clear hs
              have a2 := K.out.rd 2 rfl
              have l2 := K.out.ltp 2 rfl
              have HJ := Lib.hid hj
              by_cases hjl : j < Y.deeds.length
              · have d2 : decide (j < Y.deeds.length) = true := by simpa using hjl
                obtain ⟨g1, hg1, _⟩ := Go.SepYtdjkblnocooldaaGreat.row_some K.out (by omega)
                subst hg1
                have hx := row_elem dv_len K.out hjl
                have y0 : wr.cell? ⟨g1, j * 11, none⟩ = _ := hx 0 _ rfl
                have y1 := hx 1 _ rfl; have y2 := hx 2 _ rfl; have y3 := hx 3 _ rfl; have y4 := hx 4 _ rfl; have y5 := hx 5 _ rfl; have y6 := hx 6 _ rfl; have y7 := hx 7 _ rfl; have y8 := hx 8 _ rfl; have y9 := hx 9 _ rfl; have y10 := hx 10 _ rfl
                have ET := Lib.hid (List.take_succ_eq_append_getElem hjl)
                have hsc := HS.out j hjl
                have hobj := hob (Y.deeds.take j)
                obtain ⟨gk2, rfl⟩ : ∃ g', gk = g' + 1 := ⟨gk - 1, by omega⟩
                have hj3 : j < 1000 := by omega
                clear hx hj
                generalize Y.deeds[j] = d at *
                by_cases hw : d.who = (n : Int)
                · have e0 : (d.who != (n : Int)) = false := by simpa using hw
                  obtain ⟨z0, z1⟩ := hsc hw
                  have e1 : decide (d.start ≤ lastP n (Y.deeds.take j)) = false := by simp; omega
                  have EO := Lib.hid (show openP n (Y.deeds.take (j + 1)) = (if d.stop < 0 then 1 else 0) from by rw [ET.out, openP_snoc, z0]; by_cases q : d.stop < 0 <;> simp [hw, q])
                  have EL := Lib.hid (show lastP n (Y.deeds.take (j + 1)) = d.stop from by rw [ET.out, lastP_snoc, if_pos hw])
                  rw [z0]
                  clear z0 z1 hsc hobj hw
                  generalize lastP n (Y.deeds.take j) = la at *
                  by_cases q : d.stop < 0
                  · have e2 : decide (d.stop < 0) = true := by simpa using q
                    rw [if_pos q] at EO
                    clear q
                    go_wp2_with (first | ((with_reducible refine at_alloc ?_); refine st_allocf K.out (fun _ => rfl) ?_; intro gd w1 K1; have K2 := Lib.hid K1; clear K1 K; (try clear a0); (try clear l0); (try clear a1); (try clear l1); (try clear a2); (try clear l2); have K := K2; clear K2; have a0 := K.out.rd 0 rfl; have l0 := K.out.ltp 0 rfl; have a3 := K.out.rd 3 rfl; have l3 := K.out.ltp 3 rfl) | ((with_reducible refine at_store ?_); refine st_store 0 K.out rfl rfl rfl rfl ?_ ?_ ?_ ?_; (· kernel_rfl); (· simp); (· simp [Value.oneCell']); intro w1 K1; simp only [List.set, putL] at K1; have K2 := Lib.hid K1; clear K1 K; (try clear a0); (try clear l0); (try clear a1); (try clear l1); (try clear a2); (try clear l2); have K := K2; clear K2; have a0 := K.out.rd 0 rfl; have l0 := K.out.ltp 0 rfl; have a3 := K.out.rd 3 rfl; have l3 := K.out.ltp 3 rfl))
                    go_roundg gk2
                    case measure => omega
                    case rel => exact ⟨j + 1, by have := HJ.out; omega, by first | (simp; done) | (simp; exact w64 (by omega) (by omega)), by rw [EO.out], by rw [EL.out], K.out.drop⟩
                  · have e2 : decide (d.stop < 0) = false := by simpa using q
                    rw [if_neg q] at EO
                    clear q
                    go_wp2_with (first | ((with_reducible refine at_alloc ?_); refine st_allocf K.out (fun _ => rfl) ?_; intro gd w1 K1; have K2 := Lib.hid K1; clear K1 K; (try clear a0); (try clear l0); (try clear a1); (try clear l1); (try clear a2); (try clear l2); have K := K2; clear K2; have a0 := K.out.rd 0 rfl; have l0 := K.out.ltp 0 rfl; have a3 := K.out.rd 3 rfl; have l3 := K.out.ltp 3 rfl) | ((with_reducible refine at_store ?_); refine st_store 0 K.out rfl rfl rfl rfl ?_ ?_ ?_ ?_; (· kernel_rfl); (· simp); (· simp [Value.oneCell']); intro w1 K1; simp only [List.set, putL] at K1; have K2 := Lib.hid K1; clear K1 K; (try clear a0); (try clear l0); (try clear a1); (try clear l1); (try clear a2); (try clear l2); have K := K2; clear K2; have a0 := K.out.rd 0 rfl; have l0 := K.out.ltp 0 rfl; have a3 := K.out.rd 3 rfl; have l3 := K.out.ltp 3 rfl))
                    go_roundg gk2
                    case measure => omega
                    case rel => exact ⟨j + 1, by have := HJ.out; omega, by first | (simp; done) | (simp; exact w64 (by omega) (by omega)), by rw [EO.out], by rw [EL.out], K.out.drop⟩
                · have e0 : (d.who != (n : Int)) = true := by simpa using hw
                  have EO := Lib.hid (show openP n (Y.deeds.take (j + 1)) = openP n (Y.deeds.take j) from by rw [ET.out, openP_snoc, if_neg (fun q => hw q.1)])
                  have EL := Lib.hid (show lastP n (Y.deeds.take (j + 1)) = lastP n (Y.deeds.take j) from by rw [ET.out, lastP_snoc, if_neg hw])
                  clear hw hsc hobj
                  go_wp2_with (first | ((with_reducible refine at_alloc ?_); refine st_allocf K.out (fun _ => rfl) ?_; intro gd w1 K1; have K2 := Lib.hid K1; clear K1 K; (try clear a0); (try clear l0); (try clear a1); (try clear l1); (try clear a2); (try clear l2); have K := K2; clear K2; have a0 := K.out.rd 0 rfl; have l0 := K.out.ltp 0 rfl; have a3 := K.out.rd 3 rfl; have l3 := K.out.ltp 3 rfl) | ((with_reducible refine at_store ?_); refine st_store 0 K.out rfl rfl rfl rfl ?_ ?_ ?_ ?_; (· kernel_rfl); (· simp); (· simp [Value.oneCell']); intro w1 K1; simp only [List.set, putL] at K1; have K2 := Lib.hid K1; clear K1 K; (try clear a0); (try clear l0); (try clear a1); (try clear l1); (try clear a2); (try clear l2); have K := K2; clear K2; have a0 := K.out.rd 0 rfl; have l0 := K.out.ltp 0 rfl; have a3 := K.out.rd 3 rfl; have l3 := K.out.ltp 3 rfl))
                  go_roundg gk2
                  case measure => omega
                  case rel => exact ⟨j + 1, by have := HJ.out; omega, by first | (simp; done) | (simp; exact w64 (by omega) (by omega)), by rw [EO.out], by rw [EL.out], K.out.drop⟩
              · have d2 : decide (j < Y.deeds.length) = false := by simpa using hjl
                have hjl' : j = Y.deeds.length := by omega
                subst hjl'
                rw [List.take_length]
                have hn300 : n < 1000 := by omega
                clear hj HS hob
                generalize openP (n : Int) Y.deeds = o at *
                generalize lastP (n : Int) Y.deeds = la at *
                cases hb : Y.busy n with
                | true =>
                  rw [hb] at hop HB0 CL
                  simp only [if_true] at CL
                  go_wp2_with (first | ((fail_if_success (have _h := Z1)); (go_at_call 20; (with_reducible refine (HB0 _ _ (K.out.pick 1 rfl)).out.mono ?_); rintro e w1 ⟨rfl, rfl⟩; have Z1 : True := trivial)) | (go_at_call 21; (with_reducible refine ((CL _ _ ((show sat E _ _ from by iterate 6 (try (with_reducible first | exact K.out | apply sat.alloc_any | apply sat.drew | apply sat.drewN))).pick 1 rfl)).out).mono ?_); rintro e w1 ⟨rfl, K1⟩; replace K1 := K1.pick 1 rfl; have K2 := Lib.hid K1; clear K1 K; (try clear a0); (try clear l0); (try clear a1); (try clear l1); (try clear a2); (try clear l2); have K := K2; clear K2; have a2 := K.out.rd 2 rfl; have l2 := K.out.ltp 2 rfl) | (go_at_call 20; (with_reducible refine (HB1 _ _ (K.out.pick 1 rfl)).out.mono ?_); rintro e w1 ⟨rfl, rfl⟩))
                  go_roundg gk'
                  case measure => omega
                  case rel => exact ⟨n + 1, by have := HN.out; omega, by first | (simp; done) | (simp; exact w64 (by omega) (by omega)), by rw [← HY1.out]; exact K.out⟩
                | false =>
                  rw [hb] at hop HB0 CL
                  simp only [Bool.false_eq_true, if_false] at CL
                  go_wp2_with (first | ((fail_if_success (have _h := Z1)); (go_at_call 20; (with_reducible refine (HB0 _ _ (K.out.pick 1 rfl)).out.mono ?_); rintro e w1 ⟨rfl, rfl⟩; have Z1 : True := trivial)) | (go_at_call 21; (with_reducible refine ((CL _ _ ((show sat E _ _ from by iterate 6 (try (with_reducible first | exact K.out | apply sat.alloc_any | apply sat.drew | apply sat.drewN))).pick 1 rfl)).out).mono ?_); rintro e w1 ⟨rfl, K1⟩; replace K1 := K1.pick 1 rfl; have K2 := Lib.hid K1; clear K1 K; (try clear a0); (try clear l0); (try clear a1); (try clear l1); (try clear a2); (try clear l2); have K := K2; clear K2; have a2 := K.out.rd 2 rfl; have l2 := K.out.ltp 2 rfl) | (go_at_call 20; (with_reducible refine (HB1 _ _ (K.out.pick 1 rfl)).out.mono ?_); rintro e w1 ⟨rfl, rfl⟩))
                  go_roundg gk'
                  case measure => omega
                  case rel => exact ⟨n + 1, by have := HN.out; omega, by first | (simp; done) | (simp; exact w64 (by omega) (by omega)), by rw [← HY1.out]; exact K.out⟩
          · have d1 : decide ((n : Int) < c.th) = false := by simpa using hlt
            clear hn
            go_wp2_with fail
            go_ret
            exact ⟨rfl, K.out.below⟩
theorem yardBusy_calls (W : World) (t : Int) (_ : (Lit.int .i64 t).wf = true) (s : Int) (_ : (Lit.int .i64 s).wf = true) (r : Int) (_ : (Lit.int .i64 r).wf = true) (a : Option Addr) (len cap : Nat) (rows : List (List Value)) (h : RowsAt W [.int .i64, .int .i64, .bool, .bool, .int .u64, .int .i64, .int .i64] a len cap rows) :
    Calls Tryz.prog 3 #[.int .i64 t, .int .i64 s, .int .i64 r, .slice a len cap] W fun e W' => e = .returned (.bool true) ∧ Below W.heap.size W W' := by
  obtain ⟨l, rfl, hwf, ho⟩ := oldM_of h
  exact yardBusy_main t s r a l cap W hwf ho
end Go.Proofs.YtdjkblnocooldaaGreat
