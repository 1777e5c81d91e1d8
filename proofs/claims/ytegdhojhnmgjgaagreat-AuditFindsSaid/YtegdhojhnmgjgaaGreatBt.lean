/- Several texts in one: Run17. Each says ahead of it what it shows. -/
import Derived.Test.YtegdhojhnmgjgaaGreatBe
set_option linter.unusedVariables false
set_option linter.unusedSimpArgs false
/- A yard behind moves (run of the statements of audit). Conditions: at most 300 moves, which lie in memory as told. -/
namespace Go.Proofs.YtegdhojhnmgjgaaGreat
open Go.RowKit Go.SepYtegdhojhnmgjgaaGreat
set_option maxRecDepth 100000
set_option maxHeartbeats 4000000
section
variable {E w : World} {L : List SA}
theorem run17_calls (t s r : Int) (p : Option Addr) (l : List MoveM) (cap : Nat) (hl : l.length ≤ 300) (hwf : ∀ v ∈ l, v.wf) (ho : OldS MoveM.v 7 E p l) (h : sat E w L) :
    Calls Tryz.prog 45 #[.int .i64 t, .int .i64 s, .int .i64 r, .slice p l.length cap] w fun e w' => ∃ g, e = .returned (.pointer (some ⟨g, 0, none⟩)) ∧ sat E w' (yardA g (runsM (confS t s r 1).th (YardM.new (confS t s r 1)) l) :: L) := by
  have K := Lib.hid h
  have H := Lib.hid ho
  clear h ho
  have CF := fun w => Lib.hid (conf_calls t s r 1 w)
  have hc := confS_ok t s r 1
  generalize confS t s r 1 = c at *
  have HO := Lib.hid (run_okn hc l hwf)
  have NW := fun w' (M : List SA) (h : sat E w' M) => Lib.hid (ynew_calls c hc h)
  clear hwf
  go_enter Tryz.func45, Tryz.ntmps45
  go_wp2_with (first | (go_at_call 10; (with_reducible refine ((CF _).out).mono ?_); rintro e w1 ⟨rfl, hb⟩; have K1 := sat.grown (by repeat (with_reducible first | exact K.out | apply sat.alloc_any | apply sat.drew | apply sat.drewN)) hb; clear hb; have K2 := Lib.hid K1; clear K1 K; (try clear a0); (try clear l0); (try clear a1); (try clear l1); (try clear a2); (try clear l2); have K := K2; clear K2) | ((with_reducible refine at_alloc ?_); refine st_allocf K.out (fun _ => rfl) ?_; intro gc w1 K1; have K2 := Lib.hid K1; clear K1 K; (try clear a0); (try clear l0); (try clear a1); (try clear l1); (try clear a2); (try clear l2); have K := K2; clear K2; have a0 := K.out.rd 0 rfl; have l0 := K.out.ltp 0 rfl) | ((with_reducible refine at_store ?_); refine st_store 0 K.out rfl rfl rfl rfl ?_ ?_ ?_ ?_; (· kernel_rfl); (· simp); (· simp [Value.oneCell']); intro w1 K1; simp only [List.set, putL] at K1; have K2 := Lib.hid K1; clear K1 K; (try clear a0); (try clear l0); (try clear a1); (try clear l1); (try clear a2); (try clear l2); have K := K2; clear K2; have a0 := K.out.rd 0 rfl; have l0 := K.out.ltp 0 rfl) | (go_at_call 11; (with_reducible refine ((NW _ _ (show sat E _ _ from by iterate 6 (try (with_reducible first | exact K.out | apply sat.alloc_any | apply sat.drew | apply sat.drewN)))).out).mono ?_); rintro e w1 ⟨gy, rfl, K1⟩; have K2 := Lib.hid K1; clear K1 K; (try clear a0); (try clear l0); (try clear a1); (try clear l1); (try clear a2); (try clear l2); have K := K2; clear K2; have a1 := K.out.rd 1 rfl; have l1 := K.out.ltp 1 rfl))
  go_loopg [27] l.length (fun GG i w' => ∃ n : Nat, n + GG = l.length ∧ i = .int .i64 n ∧ sat E w' (yardA gy (runsM c.th (YardM.new c) (l.take n)) :: confP gc c :: L))
  case atStart => exact ⟨0, by simp, rfl, K.out⟩
  case round =>
    obtain ⟨n, hn, rfl, hs⟩ := hrel
    clear K
    have K := Lib.hid hs
    clear hs
    have a1 := K.out.rd 1 rfl
    have l1 := K.out.ltp 1 rfl
    have HN := Lib.hid hn
    by_cases hlt : n < l.length
    · have d0 : decide (n < l.length) = true := by simpa using hlt
      obtain ⟨b, off, rfl, hb0, hx0⟩ := H.out n hlt; have hx : ∀ i u, (MoveM.v l[n])[i]? = some u → wr.cell? ⟨b, off + n * 7 + i, none⟩ = some u := fun i u hi => (K.out.below.cell (p := ⟨b, off + n * 7 + i, none⟩) hb0).trans (hx0 i u hi); have y0 : wr.cell? ⟨b, off + n * 7, none⟩ = _ := hx 0 _ rfl; have y1 := hx 1 _ rfl; have y2 := hx 2 _ rfl; have y3 := hx 3 _ rfl; have y4 := hx 4 _ rfl; have y5 := hx 5 _ rfl; have y6 := hx 6 _ rfl; clear hx hx0 hb0
      have hok := HO.out n (by omega)
      have DO := fun w' (M : List SA) (h : sat E w' (yardA gy (runsM c.th (YardM.new c) (l.take n)) :: M)) => Lib.hid (do_calls gy _ hok.1 (by omega) c.th (by rw [hok.2]) l[n] h)
      rw [← runsM_take c.th _ l n hlt] at DO
      obtain ⟨gk', rfl⟩ : ∃ g', gk = g' + 1 := ⟨gk - 1, by omega⟩
      have hn300 : n < 1000 := by omega
      clear hn hok HO
      generalize l[n] = v at *
      generalize runsM c.th (YardM.new c) (l.take n) = Y at *
      go_wp2_with (first | ((with_reducible refine at_alloc ?_); refine st_allocf K.out (fun _ => rfl) ?_; intro gv w1 K1; have K2 := Lib.hid K1; clear K1 K; (try clear a0); (try clear l0); (try clear a1); (try clear l1); (try clear a2); (try clear l2); have K := K2; clear K2; have a0 := K.out.rd 0 rfl; have l0 := K.out.ltp 0 rfl; have a2 := K.out.rd 2 rfl; have l2 := K.out.ltp 2 rfl) | ((with_reducible refine at_store ?_); refine st_store 0 K.out rfl rfl rfl rfl ?_ ?_ ?_ ?_; (· kernel_rfl); (· simp); (· simp [Value.oneCell']); intro w1 K1; simp only [List.set, putL] at K1; have K2 := Lib.hid K1; clear K1 K; (try clear a0); (try clear l0); (try clear a1); (try clear l1); (try clear a2); (try clear l2); have K := K2; clear K2; have a0 := K.out.rd 0 rfl; have l0 := K.out.ltp 0 rfl; have a2 := K.out.rd 2 rfl; have l2 := K.out.ltp 2 rfl) | (go_at_call 12; (with_reducible refine ((DO _ _ (show sat E _ _ from by iterate 6 (try (with_reducible first | exact K.out | apply sat.alloc_any | apply sat.drew | apply sat.drewN))).swap).out).mono ?_); rintro e w1 ⟨rfl, K1⟩; replace K1 := K1.swap; have K2 := Lib.hid K1; clear K1 K; (try clear a0); (try clear l0); (try clear a1); (try clear l1); (try clear a2); (try clear l2); have K := K2; clear K2; have a0 := K.out.rd 0 rfl; have l0 := K.out.ltp 0 rfl; have a2 := K.out.rd 2 rfl; have l2 := K.out.ltp 2 rfl))
      go_roundg gk'
      case measure => omega
      case rel => exact ⟨n + 1, by have := HN.out; omega, by first | (simp; done) | (simp; exact w64 (by omega) (by omega)), K.out.drop⟩
    · have d0 : decide (n < l.length) = false := by simpa using hlt
      have hnl : n = l.length := by omega
      subst hnl
      rw [List.take_length] at *
      clear hn
      go_wp2_with fail
      go_ret
      exact ⟨gy, rfl, K.out.pick 1 rfl |>.drop⟩
end
end Go.Proofs.YtegdhojhnmgjgaaGreat
