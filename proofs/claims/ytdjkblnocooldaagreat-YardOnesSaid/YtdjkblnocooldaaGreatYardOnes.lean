/- Each step touches one cell at most, by its own thread; what isn't a step touches none (YardOnes answers true at every input). No condition beyond the row's own. -/
import Derived.Test.YtdjkblnocooldaaGreatBc
import Derived.Test.YtdjkblnocooldaaGreatBe
namespace Go.Proofs.YtdjkblnocooldaaGreat
open Go.RowKit Go.SepYtdjkblnocooldaaGreat
set_option linter.unusedSimpArgs false
set_option linter.unusedVariables false
set_option maxRecDepth 100000
set_option maxHeartbeats 4000000
theorem run_oinv {c : ConfM} (hc : c.ok) (l : List MoveM) (n : Nat) : (runsM c.th (YardM.new c) (l.take n)).oinv := (runsM_kept c.th (l.take n) (YardM.new_oinv hc) (YardM.new_hinv hc)).oinv
/-- An event of a row of one's own: its thread. -/
theorem ev_who {E w : World} {L : List SA} {g n c t : Nat} {l : List Ev} {e : Ev} (h : sat E w (rowA (.slice (some ⟨g, 0, none⟩) n c) t 6 (l ++ [e]).length (evCells (l ++ [e])) :: L)) : w.cell? ⟨g, l.length * 6, none⟩ = some (.int .i64 e.who) := by
  obtain ⟨hn, _⟩ := Go.SepYtdjkblnocooldaaGreat.row_len h
  subst hn
  have := h.row_rd 0 rfl (l.length * 6 + 0) (.int .i64 e.who) (by
    show ((l ++ [e]).flatMap Ev.cells)[l.length * 6 + 0]? = _
    rw [fm_at ev_sz (l ++ [e]) l.length (by simp) 0 (by decide)]
    simp [Ev.cells])
  simpa using this
theorem yardOnes_main (t s r : Int) (p : Option Addr) (l : List MoveM) (cap : Nat) (E : World) (hwf : ∀ v ∈ l, v.wf) (ho : OldS MoveM.v 7 E p l) :
    Calls Tryz.prog 4 #[.int .i64 t, .int .i64 s, .int .i64 r, .slice p l.length cap] E fun e w' => e = .returned (.bool true) ∧ Below E.heap.size E w' := by
  have K := Lib.hid (sat.start E)
  have HD := fun w => Lib.hid (head13_calls w)
  by_cases h300 : (l.length : Int) > 300
  · have c0 : decide ((l.length : Int) > 300) = true := by simpa using h300
    go_enter Tryz.func4, Tryz.ntmps4
    go_wp2_with (first | (go_at_call 15; (with_reducible refine ((HD _).out).mono ?_); rintro e w1 ⟨rfl, hb⟩; have K1 := sat.grown (by repeat (with_reducible first | exact K.out | apply sat.alloc_any | apply sat.drew | apply sat.drewN)) hb; clear hb; have K2 := Lib.hid K1; clear K1 K; (try clear a0); (try clear l0); (try clear a1); (try clear l1); (try clear a2); (try clear l2); have K := K2; clear K2))
    go_ret
    exact ⟨rfl, K.out.below⟩
  · have c0 : decide ((l.length : Int) > 300) = false := by simpa using h300
    have hl : l.length ≤ 300 := by omega
    have H := Lib.hid ho
    have CF := fun w => Lib.hid (conf_calls t s r 2 w)
    have hc := confS_ok t s r 2
    generalize confS t s r 2 = c at *
    have HO := Lib.hid (run_okn hc l hwf)
    have HI := Lib.hid (run_oinv hc l)
    have NW := fun w' (M : List SA) (h : sat E w' M) => Lib.hid (ynew_calls c hc h)
    have hth1 := hc.th1
    have hth2 := hc.th2
    have HW := Lib.hid hwf
    clear hwf ho
    go_enter Tryz.func4, Tryz.ntmps4
    go_wp2_with (first | (go_at_call 15; (with_reducible refine ((HD _).out).mono ?_); rintro e w1 ⟨rfl, hb⟩; have K1 := sat.grown (by repeat (with_reducible first | exact K.out | apply sat.alloc_any | apply sat.drew | apply sat.drewN)) hb; clear hb; have K2 := Lib.hid K1; clear K1 K; (try clear a0); (try clear l0); (try clear a1); (try clear l1); (try clear a2); (try clear l2); have K := K2; clear K2) | (go_at_call 16; (with_reducible refine ((CF _).out).mono ?_); rintro e w1 ⟨rfl, hb⟩; have K1 := sat.grown (by repeat (with_reducible first | exact K.out | apply sat.alloc_any | apply sat.drew | apply sat.drewN)) hb; clear hb; have K2 := Lib.hid K1; clear K1 K; (try clear a0); (try clear l0); (try clear a1); (try clear l1); (try clear a2); (try clear l2); have K := K2; clear K2) | ((with_reducible refine at_alloc ?_); refine st_allocf K.out (fun _ => rfl) ?_; intro gc w1 K1; have K2 := Lib.hid K1; clear K1 K; (try clear a0); (try clear l0); (try clear a1); (try clear l1); (try clear a2); (try clear l2); have K := K2; clear K2; have a0 := K.out.rd 0 rfl; have l0 := K.out.ltp 0 rfl) | ((with_reducible refine at_store ?_); refine st_store 0 K.out rfl rfl rfl rfl ?_ ?_ ?_ ?_; (· kernel_rfl); (· simp); (· simp [Value.oneCell']); intro w1 K1; simp only [List.set, putL] at K1; have K2 := Lib.hid K1; clear K1 K; (try clear a0); (try clear l0); (try clear a1); (try clear l1); (try clear a2); (try clear l2); have K := K2; clear K2; have a0 := K.out.rd 0 rfl; have l0 := K.out.ltp 0 rfl) | (go_at_call 17; (with_reducible refine ((NW _ _ (show sat E _ _ from by iterate 6 (try (with_reducible first | exact K.out | apply sat.alloc_any | apply sat.drew | apply sat.drewN)))).out).mono ?_); rintro e w1 ⟨gy, rfl, K1⟩; have K2 := Lib.hid K1; clear K1 K; (try clear a0); (try clear l0); (try clear a1); (try clear l1); (try clear a2); (try clear l2); have K := K2; clear K2; have a1 := K.out.rd 1 rfl; have l1 := K.out.ltp 1 rfl))
    go_loopg [36, 12] l.length (fun GG i m w' => ∃ (n : Nat) (x : Int), n + GG = l.length ∧ i = .int .i64 n ∧ m = .int .i64 x ∧ x = ((runsM c.th (YardM.new c) (l.take n)).mem.log.length : Nat) ∧ sat E w' [yardA gy (runsM c.th (YardM.new c) (l.take n)), confP gc c])
    case atStart => exact ⟨0, 0, by simp, rfl, rfl, rfl, K.out⟩
    case round =>
      obtain ⟨n, x, hn, rfl, rfl, hx0, hs⟩ := hrel
      clear K
      have K := Lib.hid hs
      clear hs
      have a1 := K.out.rd 1 rfl
      have l1 := K.out.ltp 1 rfl
      have HN := Lib.hid hn
      by_cases hlt : n < l.length
      · have d0 : decide (n < l.length) = true := by simpa using hlt
        obtain ⟨b, off, rfl, hb0, hx0⟩ := H.out n hlt; have hx : ∀ i u, (MoveM.v l[n])[i]? = some u → wr.cell? ⟨b, off + n * 7 + i, none⟩ = some u := fun i u hi => (K.out.below.cell (p := ⟨b, off + n * 7 + i, none⟩) hb0).trans (hx0 i u hi); have y0 : wr.cell? ⟨b, off + n * 7, none⟩ = _ := hx 0 _ rfl; have y1 := hx 1 _ rfl; have y2 := hx 2 _ rfl; have y3 := hx 3 _ rfl; have y4 := hx 4 _ rfl; have y5 := hx 5 _ rfl; have y6 := hx 6 _ rfl; clear hx hx0 hb0
        have hok := HO.out n (by omega)
        have hok2 := HO.out (n + 1) (by omega)
        have hlg := hok.1.log
        have hrl := MoveM.run_log (HI.out n) c.th l[n]
        have DO := fun w' (M : List SA) (h : sat E w' (yardA gy (runsM c.th (YardM.new c) (l.take n)) :: M)) => Lib.hid (do_calls gy _ hok.1 (by omega) c.th (by rw [hok.2]) l[n] h)
        have LC := fun w' (M : List SA) (h : sat E w' (yardA gy (runsM c.th (YardM.new c) (l.take (n + 1))) :: M)) => Lib.hid (ylog_calls gy (runsM c.th (YardM.new c) (l.take (n + 1))) (by have := hok2.1.log; omega) h)
        rw [← runsM_take c.th _ l n hlt] at DO hrl
        have e0 := and7 l[n].kind
        have e1 := and16 l[n].who
        have e3 : Int.tmod (l[n].who % 65536) c.th = l[n].at_ c.th := by unfold MoveM.at_; rw [Int.tmod_eq_emod_of_nonneg (by omega)]
        have hat := atM_bd hth1 l[n]
        have e4 : IntKind.i64.wrap (l[n].at_ c.th) = l[n].at_ c.th := wi (by omega) (by omega)
        have z1 : (c.th == 0) = false := by simp; omega
        have z2 : ¬ c.th = 0 := by omega
        obtain ⟨gk', rfl⟩ : ∃ g', gk = g' + 1 := ⟨gk - 1, by omega⟩
        have hn300 : n < 1000 := by omega
        clear hn hok hok2 HO HI hat
        generalize l[n].at_ c.th = at_ at *
        generalize l[n] = v at *
        generalize runsM c.th (YardM.new c) (l.take n) = Y at *
        obtain ⟨Y2, hY2⟩ : ∃ z, z = runsM c.th (YardM.new c) (l.take (n + 1)) := ⟨_, rfl⟩
        rw [← hY2] at DO LC hrl
        have HY2 := Lib.hid hY2
        clear hY2
        have v1 : wrap64 (x + 1) = x + 1 := w64 (by omega) (by omega)
        have HX := Lib.hid hx0
        rcases hrl with hsame | ⟨k0, k6, e, he, hwho⟩
        · rw [hsame] at LC
          have s1 : decide ((Y.mem.log.length : Int) > x + 1) = false := by simp; omega
          have s2 : decide ((Y.mem.log.length : Int) > x) = false := by simp; omega
          have s3 : decide ((Y.mem.log.length : Int) < x) = false := by simp; omega
          have HS := Lib.hid hsame
          clear hsame hx0
          generalize hm : Y.mem.log.length = m at *
          have HM := Lib.hid hm
          clear hm
          cases k0 : (v.kind % 8 != 0) <;> cases k6 : (v.kind % 8 != 6)
          all_goals
            go_wp2_with (first | ((with_reducible refine at_alloc ?_); refine st_allocf K.out (fun _ => rfl) ?_; intro gv w1 K1; have K2 := Lib.hid K1; clear K1 K; (try clear a0); (try clear l0); (try clear a1); (try clear l1); (try clear a2); (try clear l2); have K := K2; clear K2; have a0 := K.out.rd 0 rfl; have l0 := K.out.ltp 0 rfl; have a2 := K.out.rd 2 rfl; have l2 := K.out.ltp 2 rfl) | ((with_reducible refine at_store ?_); refine st_store 0 K.out rfl rfl rfl rfl ?_ ?_ ?_ ?_; (· kernel_rfl); (· simp); (· simp [Value.oneCell']); intro w1 K1; simp only [List.set, putL] at K1; have K2 := Lib.hid K1; clear K1 K; (try clear a0); (try clear l0); (try clear a1); (try clear l1); (try clear a2); (try clear l2); have K := K2; clear K2; have a0 := K.out.rd 0 rfl; have l0 := K.out.ltp 0 rfl; have a2 := K.out.rd 2 rfl; have l2 := K.out.ltp 2 rfl) | (go_at_call 18; (with_reducible refine ((DO _ _ (show sat E _ _ from by iterate 6 (try (with_reducible first | exact K.out | apply sat.alloc_any | apply sat.drew | apply sat.drewN))).swap).out).mono ?_); rintro e w1 ⟨rfl, K1⟩; replace K1 := K1.swap; have K2 := Lib.hid K1; clear K1 K; (try clear a0); (try clear l0); (try clear a1); (try clear l1); (try clear a2); (try clear l2); have K := K2; clear K2; have a0 := K.out.rd 0 rfl; have l0 := K.out.ltp 0 rfl; have a2 := K.out.rd 2 rfl; have l2 := K.out.ltp 2 rfl) | (go_at_call 22; (with_reducible refine ((LC _ _ (show sat E _ _ from by iterate 6 (try (with_reducible first | exact K.out | apply sat.alloc_any | apply sat.drew | apply sat.drewN))).swap).out).mono ?_); rintro e w1 ⟨p1, k1, rfl, K1⟩; have K2 := Lib.hid K1; clear K1 K; (try clear a0); (try clear l0); (try clear a1); (try clear l1); (try clear a2); (try clear l2); have K := K2; clear K2; have a2 := K.out.rd 2 rfl; have l2 := K.out.ltp 2 rfl; have a3 := K.out.rd 3 rfl; have l3 := K.out.ltp 3 rfl))
            go_roundg gk'
            case measure => omega
            case rel => exact ⟨n + 1, m, by have := HN.out; omega, by first | (simp; done) | (simp; exact w64 (by omega) (by omega)), rfl, by rw [← HY2.out, HS.out, HM.out], by rw [← HY2.out]; exact (K.out.drop.pick 1 rfl).drop⟩
        · rw [he] at LC
          have s1 : decide (((Y.mem.log ++ [e]).length : Int) > x + 1) = false := by simp; omega
          have s2 : decide (((Y.mem.log ++ [e]).length : Int) > x) = true := by simp; omega
          have s3 : decide (((Y.mem.log ++ [e]).length : Int) < x) = false := by simp; omega
          have t0 : 0 ≤ x := by omega
          have t1 : x < ((Y.mem.log ++ [e]).length : Int) := by simp; omega
          have q0 : (v.kind % 8 != 0) = true := by simpa using k0
          have q6 : (v.kind % 8 != 6) = true := by simpa using k6
          have EW := fun (w : World) (g c1 : Nat) (M : List SA) (h : sat E w (rowA (.slice (some ⟨g, 0, none⟩) (Y.mem.log ++ [e]).length c1) 55 6 (Y.mem.log ++ [e]).length (evCells (Y.mem.log ++ [e])) :: M)) => ev_who h
          rw [show Y.mem.log.length = x.toNat by omega] at EW
          have hpos : 0 < (Y.mem.log ++ [e]).length := by simp
          have HE := Lib.hid he
          clear he hx0 k0 k6
          generalize Y.mem.log ++ [e] = lg at *
          by_cases k7 : v.kind % 8 = 7
          · rw [if_pos k7] at hwho
            have q7 : (v.kind % 8 == 7) = true := by simpa using k7
            have qe : (e.who != v.who) = false := by simp [hwho]
            clear k7 hwho
            go_wp2_with (first | ((with_reducible refine at_alloc ?_); refine st_allocf K.out (fun _ => rfl) ?_; intro gv w1 K1; have K2 := Lib.hid K1; clear K1 K; (try clear a0); (try clear l0); (try clear a1); (try clear l1); (try clear a2); (try clear l2); have K := K2; clear K2; have a0 := K.out.rd 0 rfl; have l0 := K.out.ltp 0 rfl; have a2 := K.out.rd 2 rfl; have l2 := K.out.ltp 2 rfl) | ((with_reducible refine at_store ?_); refine st_store 0 K.out rfl rfl rfl rfl ?_ ?_ ?_ ?_; (· kernel_rfl); (· simp); (· simp [Value.oneCell']); intro w1 K1; simp only [List.set, putL] at K1; have K2 := Lib.hid K1; clear K1 K; (try clear a0); (try clear l0); (try clear a1); (try clear l1); (try clear a2); (try clear l2); have K := K2; clear K2; have a0 := K.out.rd 0 rfl; have l0 := K.out.ltp 0 rfl; have a2 := K.out.rd 2 rfl; have l2 := K.out.ltp 2 rfl) | (go_at_call 18; (with_reducible refine ((DO _ _ (show sat E _ _ from by iterate 6 (try (with_reducible first | exact K.out | apply sat.alloc_any | apply sat.drew | apply sat.drewN))).swap).out).mono ?_); rintro e w1 ⟨rfl, K1⟩; replace K1 := K1.swap; have K2 := Lib.hid K1; clear K1 K; (try clear a0); (try clear l0); (try clear a1); (try clear l1); (try clear a2); (try clear l2); have K := K2; clear K2; have a0 := K.out.rd 0 rfl; have l0 := K.out.ltp 0 rfl; have a2 := K.out.rd 2 rfl; have l2 := K.out.ltp 2 rfl) | ((go_at_call 22; (with_reducible refine ((LC _ _ (show sat E _ _ from by iterate 6 (try (with_reducible first | exact K.out | apply sat.alloc_any | apply sat.drew | apply sat.drewN))).swap).out).mono ?_); rintro e w1 ⟨p1, k1, rfl, K1⟩; have K2 := Lib.hid K1; clear K1 K; (try clear a0); (try clear l0); (try clear a1); (try clear l1); (try clear a2); (try clear l2); have K := K2; clear K2; have a2 := K.out.rd 2 rfl; have l2 := K.out.ltp 2 rfl; have a3 := K.out.rd 3 rfl; have l3 := K.out.ltp 3 rfl); obtain ⟨g1, hg1, _⟩ := Go.SepYtdjkblnocooldaaGreat.row_some K.out hpos; subst hg1; have yw := EW _ _ _ _ K.out))
            go_roundg gk'
            case measure => omega
            case rel => exact ⟨n + 1, lg.length, by have := HN.out; omega, by first | (simp; done) | (simp; exact w64 (by omega) (by omega)), rfl, by rw [← HY2.out, HE.out], by rw [← HY2.out]; exact (K.out.drop.pick 1 rfl).drop⟩
          · rw [if_neg k7] at hwho
            have q7 : (v.kind % 8 == 7) = false := by simpa using k7
            have qe : (e.who != at_) = false := by simp [hwho]
            clear k7 hwho
            go_wp2_with (first | ((with_reducible refine at_alloc ?_); refine st_allocf K.out (fun _ => rfl) ?_; intro gv w1 K1; have K2 := Lib.hid K1; clear K1 K; (try clear a0); (try clear l0); (try clear a1); (try clear l1); (try clear a2); (try clear l2); have K := K2; clear K2; have a0 := K.out.rd 0 rfl; have l0 := K.out.ltp 0 rfl; have a2 := K.out.rd 2 rfl; have l2 := K.out.ltp 2 rfl) | ((with_reducible refine at_store ?_); refine st_store 0 K.out rfl rfl rfl rfl ?_ ?_ ?_ ?_; (· kernel_rfl); (· simp); (· simp [Value.oneCell']); intro w1 K1; simp only [List.set, putL] at K1; have K2 := Lib.hid K1; clear K1 K; (try clear a0); (try clear l0); (try clear a1); (try clear l1); (try clear a2); (try clear l2); have K := K2; clear K2; have a0 := K.out.rd 0 rfl; have l0 := K.out.ltp 0 rfl; have a2 := K.out.rd 2 rfl; have l2 := K.out.ltp 2 rfl) | (go_at_call 18; (with_reducible refine ((DO _ _ (show sat E _ _ from by iterate 6 (try (with_reducible first | exact K.out | apply sat.alloc_any | apply sat.drew | apply sat.drewN))).swap).out).mono ?_); rintro e w1 ⟨rfl, K1⟩; replace K1 := K1.swap; have K2 := Lib.hid K1; clear K1 K; (try clear a0); (try clear l0); (try clear a1); (try clear l1); (try clear a2); (try clear l2); have K := K2; clear K2; have a0 := K.out.rd 0 rfl; have l0 := K.out.ltp 0 rfl; have a2 := K.out.rd 2 rfl; have l2 := K.out.ltp 2 rfl) | ((go_at_call 22; (with_reducible refine ((LC _ _ (show sat E _ _ from by iterate 6 (try (with_reducible first | exact K.out | apply sat.alloc_any | apply sat.drew | apply sat.drewN))).swap).out).mono ?_); rintro e w1 ⟨p1, k1, rfl, K1⟩; have K2 := Lib.hid K1; clear K1 K; (try clear a0); (try clear l0); (try clear a1); (try clear l1); (try clear a2); (try clear l2); have K := K2; clear K2; have a2 := K.out.rd 2 rfl; have l2 := K.out.ltp 2 rfl; have a3 := K.out.rd 3 rfl; have l3 := K.out.ltp 3 rfl); obtain ⟨g1, hg1, _⟩ := Go.SepYtdjkblnocooldaaGreat.row_some K.out hpos; subst hg1; have yw := EW _ _ _ _ K.out))
            go_roundg gk'
            case measure => omega
            case rel => exact ⟨n + 1, lg.length, by have := HN.out; omega, by first | (simp; done) | (simp; exact w64 (by omega) (by omega)), rfl, by rw [← HY2.out, HE.out], by rw [← HY2.out]; exact (K.out.drop.pick 1 rfl).drop⟩
      · have d0 : decide (n < l.length) = false := by simpa using hlt
        clear hn
        go_wp2_with fail
        go_ret
        exact ⟨rfl, K.out.below⟩
theorem yardOnes_calls (W : World) (t : Int) (_ : (Lit.int .i64 t).wf = true) (s : Int) (_ : (Lit.int .i64 s).wf = true) (r : Int) (_ : (Lit.int .i64 r).wf = true) (a : Option Addr) (len cap : Nat) (rows : List (List Value)) (h : RowsAt W [.int .i64, .int .i64, .bool, .bool, .int .u64, .int .i64, .int .i64] a len cap rows) :
    Calls Tryz.prog 4 #[.int .i64 t, .int .i64 s, .int .i64 r, .slice a len cap] W fun e W' => e = .returned (.bool true) ∧ Below W.heap.size W W' := by
  obtain ⟨l, rfl, hwf, ho⟩ := oldM_of h
  exact yardOnes_main t s r a l cap W hwf ho
end Go.Proofs.YtdjkblnocooldaaGreat
