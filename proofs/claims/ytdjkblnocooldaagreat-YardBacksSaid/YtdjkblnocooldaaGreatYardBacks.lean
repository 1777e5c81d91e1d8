/- What was noted of a yard's cells, done again, is its words and values (YardBacks answers true at every input). No condition beyond the row's own. -/
import Derived.Test.YtdjkblnocooldaaGreatBx
import Derived.Test.YtdjkblnocooldaaGreatBe
import Derived.Test.YtdjkblnocooldaaGreatBd
import Derived.Test.YtdjkblnocooldaaGreatBu
import Derived.Test.YtdjkblnocooldaaGreatBack
namespace Go.Proofs.YtdjkblnocooldaaGreat
open Go.RowKit Go.SepYtdjkblnocooldaaGreat
set_option linter.unusedSimpArgs false
set_option linter.unusedVariables false
set_option maxRecDepth 100000
set_option maxHeartbeats 4000000
theorem runsM_told (th : Int) (n : Nat) : ∀ (l : List MoveM) {y : YardM} (h : y.oinv) (hh : y.hinv) (hp : y.pinv) (ht : y.mem.told n), (∀ v ∈ l, v.wf) → (runsM th y l).mem.told n
  | [], y, h, hh, hp, ht, _ => ht
  | v :: l, y, h, hh, hp, ht, hv => by
    have a := MoveM.run_kept h hh th v
    obtain ⟨w, hb⟩ := MoveM.run_by h th v
    exact runsM_told th n l a.oinv a.hinv (MoveM.run_pinv hp th (hv v (by simp))) (MemM.by_told ht hp.proto.wf hb) (fun u hu => hv u (by simp [hu]))
theorem peekN_at (f : Int → Int) (m : MemM) (n k : Nat) (hk : k < n) : (u64s (peekN f m n))[k]? = some (.int .u64 (m.peek (f k))) := by
  unfold u64s peekN
  rw [List.getElem?_map, List.getElem?_map, List.getElem?_range hk]
  rfl
theorem yardBacks_main (t s r : Int) (p : Option Addr) (l : List MoveM) (cap : Nat) (E : World) (hwf : ∀ v ∈ l, v.wf) (ho : OldS MoveM.v 7 E p l) :
    Calls Tryz.prog 7 #[.int .i64 t, .int .i64 s, .int .i64 r, .slice p l.length cap] E fun e w' => e = .returned (.bool true) ∧ Below E.heap.size E w' := by
  have K := Lib.hid (sat.start E)
  have HD := fun w => Lib.hid (head13_calls w)
  by_cases h300 : (l.length : Int) > 300
  · have c0 : decide ((l.length : Int) > 300) = true := by simpa using h300
    go_enter Tryz.func7, Tryz.ntmps7
    go_wp2_with (first | (go_at_call 15; (with_reducible refine ((HD _).out).mono ?_); rintro e w1 ⟨rfl, hb⟩; have K1 := sat.grown (by repeat (with_reducible first | exact K.out | apply sat.alloc_any | apply sat.drew | apply sat.drewN)) hb; clear hb; have K2 := Lib.hid K1; clear K1 K; (try clear a0); (try clear l0); (try clear a1); (try clear l1); (try clear a2); (try clear l2); have K := K2; clear K2))
    go_ret
    exact ⟨rfl, K.out.below⟩
  · have c0 : decide ((l.length : Int) > 300) = false := by simpa using h300
    have hl : l.length ≤ 300 := by omega
    have H := Lib.hid ho
    have CF := fun w => Lib.hid (conf_calls t s r 1 w)
    have hc := confS_ok t s r 1
    generalize confS t s r 1 = c at *
    have HO := Lib.hid (run_okn hc l hwf)
    have HL := Lib.hid (runsM_linv c.th l (YardM.new_linv hc) hwf)
    have HT := Lib.hid (runsM_told c.th c.cells.toNat l (YardM.new_oinv hc) (YardM.new_hinv hc) (YardM.new_pinv hc) (MemM.new_told _) hwf)
    have NW := fun w' (M : List SA) (h : sat E w' M) => Lib.hid (ynew_calls c hc h)
    have HC := Lib.hid hc
    have hth1 := hc.th1
    have hth2 := hc.th2
    have CN := fun w => Lib.hid (cellsn_calls c w hc)
    have AL := fun w => Lib.hid (all_calls c w hc)
    clear hwf ho hc
    go_enter Tryz.func7, Tryz.ntmps7
    go_wp2_with (first | (go_at_call 15; (with_reducible refine ((HD _).out).mono ?_); rintro e w1 ⟨rfl, hb⟩; have K1 := sat.grown (by repeat (with_reducible first | exact K.out | apply sat.alloc_any | apply sat.drew | apply sat.drewN)) hb; clear hb; have K2 := Lib.hid K1; clear K1 K; (try clear a0); (try clear l0); (try clear a1); (try clear l1); (try clear a2); (try clear l2); have K := K2; clear K2) | (go_at_call 16; (with_reducible refine ((CF _).out).mono ?_); rintro e w1 ⟨rfl, hb⟩; have K1 := sat.grown (by repeat (with_reducible first | exact K.out | apply sat.alloc_any | apply sat.drew | apply sat.drewN)) hb; clear hb; have K2 := Lib.hid K1; clear K1 K; (try clear a0); (try clear l0); (try clear a1); (try clear l1); (try clear a2); (try clear l2); have K := K2; clear K2) | ((with_reducible refine at_alloc ?_); refine st_allocf K.out (fun _ => rfl) ?_; intro gc w1 K1; have K2 := Lib.hid K1; clear K1 K; (try clear a0); (try clear l0); (try clear a1); (try clear l1); (try clear a2); (try clear l2); have K := K2; clear K2; have a0 := K.out.rd 0 rfl; have l0 := K.out.ltp 0 rfl) | ((with_reducible refine at_store ?_); refine st_store 0 K.out rfl rfl rfl rfl ?_ ?_ ?_ ?_; (· kernel_rfl); (· simp); (· simp [Value.oneCell']); intro w1 K1; simp only [List.set, putL] at K1; have K2 := Lib.hid K1; clear K1 K; (try clear a0); (try clear l0); (try clear a1); (try clear l1); (try clear a2); (try clear l2); have K := K2; clear K2; have a0 := K.out.rd 0 rfl; have l0 := K.out.ltp 0 rfl) | (go_at_call 17; (with_reducible refine ((NW _ _ (show sat E _ _ from by iterate 6 (try (with_reducible first | exact K.out | apply sat.alloc_any | apply sat.drew | apply sat.drewN)))).out).mono ?_); rintro e w1 ⟨gy, rfl, K1⟩; have K2 := Lib.hid K1; clear K1 K; (try clear a0); (try clear l0); (try clear a1); (try clear l1); (try clear a2); (try clear l2); have K := K2; clear K2; have a1 := K.out.rd 1 rfl; have l1 := K.out.ltp 1 rfl))
    go_loopg [37] l.length (fun GG i w' => ∃ n : Nat, n + GG = l.length ∧ i = .int .i64 n ∧ sat E w' [yardA gy (runsM c.th (YardM.new c) (l.take n)), confP gc c])
    case atStart => exact ⟨0, by simp, rfl, K.out⟩
    case round =>
      obtain ⟨n, hn, rfl, hs⟩ := hrel
      clear K
      have K := Lib.hid hs
      clear hs
      have a1 := K.out.rd 1 rfl
      have l1 := K.out.ltp 1 rfl
      have HN := Lib.hid hn
      by_cases hlt : n < l.length
      · have d0 : decide (n < l.length) = true := by simpa using hlt
        obtain ⟨b, off, rfl, hb0, hx0⟩ := H.out n hlt; have hx : ∀ i u, (MoveM.v l[n])[i]? = some u → wr.cell? ⟨b, off + n * 7 + i, none⟩ = some u := fun i u hi => (K.out.below.cell (p := ⟨b, off + n * 7 + i, none⟩) hb0).trans (hx0 i u hi); have y0 : wr.cell? ⟨b, off + n * 7, none⟩ = _ := hx 0 _ rfl; have y1 := hx 1 _ rfl; have y2 := hx 2 _ rfl; have y3 := hx 3 _ rfl; have y4 := hx 4 _ rfl; have y5 := hx 5 _ rfl; have y6 := hx 6 _ rfl; clear hx hx0 hb0
        have hok := HO.out n (by omega)
        have DO := fun w' (M : List SA) (h : sat E w' (yardA gy (runsM c.th (YardM.new c) (l.take n)) :: M)) => Lib.hid (do_calls gy _ hok.1 (by omega) c.th (by rw [hok.2]) l[n] h)
        rw [← runsM_take c.th _ l n hlt] at DO
        obtain ⟨gk', rfl⟩ : ∃ g', gk = g' + 1 := ⟨gk - 1, by omega⟩
        have hn300 : n < 1000 := by omega
        clear hn hok HO HL HT
        generalize l[n] = v at *
        generalize runsM c.th (YardM.new c) (l.take n) = Y at *
        go_wp2_with (first | ((with_reducible refine at_alloc ?_); refine st_allocf K.out (fun _ => rfl) ?_; intro gv w1 K1; have K2 := Lib.hid K1; clear K1 K; (try clear a0); (try clear l0); (try clear a1); (try clear l1); (try clear a2); (try clear l2); have K := K2; clear K2; have a0 := K.out.rd 0 rfl; have l0 := K.out.ltp 0 rfl; have a2 := K.out.rd 2 rfl; have l2 := K.out.ltp 2 rfl) | ((with_reducible refine at_store ?_); refine st_store 0 K.out rfl rfl rfl rfl ?_ ?_ ?_ ?_; (· kernel_rfl); (· simp); (· simp [Value.oneCell']); intro w1 K1; simp only [List.set, putL] at K1; have K2 := Lib.hid K1; clear K1 K; (try clear a0); (try clear l0); (try clear a1); (try clear l1); (try clear a2); (try clear l2); have K := K2; clear K2; have a0 := K.out.rd 0 rfl; have l0 := K.out.ltp 0 rfl; have a2 := K.out.rd 2 rfl; have l2 := K.out.ltp 2 rfl) | (go_at_call 18; (with_reducible refine ((DO _ _ (show sat E _ _ from by iterate 6 (try (with_reducible first | exact K.out | apply sat.alloc_any | apply sat.drew | apply sat.drewN))).swap).out).mono ?_); rintro e w1 ⟨rfl, K1⟩; replace K1 := K1.swap; have K2 := Lib.hid K1; clear K1 K; (try clear a0); (try clear l0); (try clear a1); (try clear l1); (try clear a2); (try clear l2); have K := K2; clear K2; have a0 := K.out.rd 0 rfl; have l0 := K.out.ltp 0 rfl; have a2 := K.out.rd 2 rfl; have l2 := K.out.ltp 2 rfl))
        go_roundg gk'
        case measure => omega
        case rel => exact ⟨n + 1, by have := HN.out; omega, by first | (simp; done) | (simp; exact w64 (by omega) (by omega)), K.out.drop⟩
      · have d0 : decide (n < l.length) = false := by simpa using hlt
        have hnl : n = l.length := by omega
        have HK := Lib.hid (show (runsM c.th (YardM.new c) l).okn 300 ∧ (runsM c.th (YardM.new c) l).conf = c from by
          have := HO.out l.length (by omega)
          rw [List.take_length] at this
          exact ⟨this.1.mono (by omega), this.2⟩)
        subst hnl
        rw [List.take_length] at K
        clear hn HO NW CF H HN hlt
        generalize runsM c.th (YardM.new c) l = Y at *
        have hconf := HK.out.2
        have hlg := HK.out.1.log
        have hcY : Y.conf.ok := by rw [hconf]; exact HC.out
        have hlw : ∀ e ∈ Y.mem.log, (0 ≤ e.old ∧ e.old < 18446744073709551616) ∧ (0 ≤ e.new ∧ e.new < 18446744073709551616) := fun e he => by
          have := HL.out.log e he
          exact ⟨this.2.2.1, this.2.2.2⟩
        have hcl : 0 ≤ c.cells ∧ c.cells ≤ 65536 := by have := HC.out.all_bd; unfold ConfM.cells; omega
        have LC := fun w' (M : List SA) (h : sat E w' (yardA gy Y :: M)) => Lib.hid (ylog_calls gy Y (by omega) h)
        have BC := fun w' p1 k1 (M : List SA) (h : sat E w' (rowA (.slice p1 Y.mem.log.length k1) 55 6 Y.mem.log.length (evCells Y.mem.log) :: M)) => Lib.hid (back_calls c.cells.toNat (by omega) Y.mem.log p1 k1 Y.mem HT.out (by omega) hlw h)
        rw [show ((c.cells.toNat : Nat) : Int) = c.cells by omega] at BC
        have WC := fun w' (M : List SA) (h : sat E w' (yardA gy Y :: M)) => Lib.hid (yWords_calls gy Y hcY h)
        have VC := fun w' (M : List SA) (h : sat E w' (yardA gy Y :: M)) => Lib.hid (yValues_calls gy Y hcY h)
        rw [hconf] at WC VC
        have PK := fun gm cell w' (M : List SA) (h : sat E w' (memA gm Y.mem :: M)) => Lib.hid (peek_calls gm Y.mem cell h)
        clear hlw hcY hlg HT HL hconf
        go_wp2_with (first | (go_at_call 26; (with_reducible refine ((CN _).out).mono ?_); rintro e w1 ⟨rfl, hb⟩; have K1 := sat.grown (by repeat (with_reducible first | exact K.out | apply sat.alloc_any | apply sat.drew | apply sat.drewN)) hb; clear hb; have K2 := Lib.hid K1; clear K1 K; (try clear a0); (try clear l0); (try clear a1); (try clear l1); (try clear a2); (try clear l2); have K := K2; clear K2; have a1 := K.out.rd 1 rfl; have l1 := K.out.ltp 1 rfl) | (go_at_call 22; (with_reducible refine ((LC _ _ (show sat E _ _ from by iterate 6 (try (with_reducible first | exact K.out | apply sat.alloc_any | apply sat.drew | apply sat.drewN)))).out).mono ?_); rintro e w1 ⟨p1, k1, rfl, K1⟩; have K2 := Lib.hid K1; clear K1 K; (try clear a0); (try clear l0); (try clear a1); (try clear l1); (try clear a2); (try clear l2); have K := K2; clear K2) | (go_at_call 41; (with_reducible refine ((BC _ _ _ _ (show sat E _ _ from by iterate 6 (try (with_reducible first | exact K.out | apply sat.alloc_any | apply sat.drew | apply sat.drewN)))).out).mono ?_); rintro e w1 ⟨gm, rfl, K1⟩; have K2 := Lib.hid K1; clear K1 K; (try clear a0); (try clear l0); (try clear a1); (try clear l1); (try clear a2); (try clear l2); have K := K2; clear K2; have a3 := K.out.rd 3 rfl; have l3 := K.out.ltp 3 rfl) | (go_at_call 35; (with_reducible refine ((WC _ _ ((show sat E _ _ from by iterate 6 (try (with_reducible first | exact K.out | apply sat.alloc_any | apply sat.drew | apply sat.drewN))).pick 2 rfl)).out).mono ?_); rintro e w1 ⟨p2, k2, rfl, K1⟩; have K2 := Lib.hid K1; clear K1 K; (try clear a0); (try clear l0); (try clear a1); (try clear l1); (try clear a2); (try clear l2); have K := K2; clear K2; have a4 := K.out.rd 4 rfl; have l4 := K.out.ltp 4 rfl) | (go_at_call 36; (with_reducible refine ((VC _ _ ((show sat E _ _ from by iterate 6 (try (with_reducible first | exact K.out | apply sat.alloc_any | apply sat.drew | apply sat.drewN))).pick 1 rfl)).out).mono ?_); rintro e w1 ⟨p3, k3, rfl, K1⟩; have K2 := Lib.hid K1; clear K1 K; (try clear a0); (try clear l0); (try clear a1); (try clear l1); (try clear a2); (try clear l2); have K := K2; clear K2; have a5 := K.out.rd 5 rfl; have l5 := K.out.ltp 5 rfl))
        have hn : 0 < c.all.toNat := by have := HC.out.all_bd; omega
        obtain ⟨g2, hg2, _⟩ := Go.SepYtdjkblnocooldaaGreat.row_some (K.out.pick 2 rfl) hn
        obtain ⟨g3, hg3, _⟩ := Go.SepYtdjkblnocooldaaGreat.row_some K.out hn
        subst hg2 hg3
        have K1 : sat E w1 [rowA (.slice (some ⟨g3, 0, none⟩) c.all.toNat k3) 32 1 c.all.toNat (u64s (peekN c.value Y.mem c.all.toNat)), rowA (.slice (some ⟨g2, 0, none⟩) c.all.toNat k2) 32 1 c.all.toNat (u64s (peekN (fun i => i) Y.mem c.all.toNat)), memA gm Y.mem, confP gc c] := (((K.out.pick 1 rfl).drop.pick 3 rfl).drop.pick 0 rfl)
        clear K
        have K := Lib.hid K1
        clear K1
        (try clear a5 l5)
        have AL2 := AL
        have h16 := HC.out.all_bd
        go_loopg [63] c.all.toNat (fun GG i w' => ∃ n : Nat, n + GG = c.all.toNat ∧ i = .int .i64 n ∧ sat E w' [rowA (.slice (some ⟨g3, 0, none⟩) c.all.toNat k3) 32 1 c.all.toNat (u64s (peekN c.value Y.mem c.all.toNat)), rowA (.slice (some ⟨g2, 0, none⟩) c.all.toNat k2) 32 1 c.all.toNat (u64s (peekN (fun i => i) Y.mem c.all.toNat)), memA gm Y.mem, confP gc c])
        case atStart => exact ⟨0, by simp, rfl, K.out⟩
        case round =>
          obtain ⟨n, hn2, rfl, hs⟩ := hrel
          clear K
          have K := Lib.hid hs
          clear hs
          have a3 := K.out.rd 3 rfl
          have l3 := K.out.ltp 3 rfl
          have HN := Lib.hid hn2
          by_cases hlt : n < c.all.toNat
          · have d1 : decide (n < c.all.toNat) = true := by simpa using hlt
            have X2 := peekN_at (fun i => i) Y.mem c.all.toNat n hlt
            have X3 := peekN_at c.value Y.mem c.all.toNat n hlt
            (try dsimp only at X2)
            have WD := fun w => Lib.hid (word_calls c w n)
            have VL := fun w => Lib.hid (value_calls c w HC.out n (by omega) (by omega))
            have PW := fun w' (M : List SA) (h : sat E w' (memA gm Y.mem :: M)) => PK gm (n : Int) w' M h
            have PV := fun w' (M : List SA) (h : sat E w' (memA gm Y.mem :: M)) => PK gm (c.value n) w' M h
            generalize Y.mem.peek (n : Int) = x2 at *
            generalize Y.mem.peek (c.value (n : Int)) = x3 at *
            have f2 : (x2 != x2) = false := by simp
            have f3 : (x3 != x3) = false := by simp
            have HX2 := Lib.hid X2
            have HX3 := Lib.hid X3
            have hn4 : n < 4097 := by omega
            obtain ⟨gk', rfl⟩ : ∃ g', gk = g' + 1 := ⟨gk - 1, by omega⟩
            clear X2 X3 hn2
            generalize peekN (fun i => i) Y.mem c.all.toNat = W2 at *
            generalize peekN c.value Y.mem c.all.toNat = W3 at *
            go_wp2_with fail
            refine wp_region_noPanic ?_
            refine wp_region_held_drew (S := (fun w' => (∀ q, w'.cell? ⟨gc, q, none⟩ = ([.int .i64 c.th, .int .i64 c.sl, .int .i64 c.src, .int .i64 c.dl] : List Value)[q]?) ∧ w'.cell? ⟨g2, n, none⟩ = some (.int .u64 x2) ∧ w'.cell? ⟨g3, n, none⟩ = some (.int .u64 x3))) (by kernel_rfl) ?_ (fun hHeld => ?_)
            · ((try dsimp only); (exact ⟨sat.rd 3 (by repeat (with_reducible first | exact K.out | apply sat.alloc_any | apply sat.drew | apply sat.drewN)) rfl, sat.row_rd 1 (by repeat (with_reducible first | exact K.out | apply sat.alloc_any | apply sat.drew | apply sat.drewN)) rfl n _ HX2.out, sat.row_rd 0 (by repeat (with_reducible first | exact K.out | apply sat.alloc_any | apply sat.drew | apply sat.drewN)) rfl n _ HX3.out⟩))
            refine tk 0 (some 66) ?_
            (try simp only [Act.put, p0, p1, p2])
            refine tk 1 (some 67) ?_
            (try simp only [Act.put, p0, p1, p2])
            refine tk 2 (some 68) ?_
            (try simp only [Act.put, p0, p1, p2])
            refine tk 3 (some 69) ?_
            (try simp only [Act.put, p0, p1, p2])
            refine tk 4 (some 70) ?_
            (try simp only [Act.put, p0, p1, p2])
            refine tk 5 (some 71) ?_
            (try simp only [Act.put, p0, p1, p2])
            refine tk 6 (some 72) ?_
            (try simp only [Act.put, p0, p1, p2])
            refine wpAnyH_ready (rs := [7]) (by kernel_rfl) (by simp) ?_
            refine AllReadyH.cons (o := _) rfl (fun kC hkC => ?_) AllReadyH.nil
            go_simp
            (first | (go_at_call 39; (with_reducible refine ((WD _).out).mono ?_); rintro e w1 ⟨rfl, hb⟩; have K1 := sat.grown (show sat _ _ _ from by first | exact K.out | exact K.out.drew) hb; clear hb; have K2 := Lib.hid K1; clear K1 K; (try clear a0); (try clear l0); (try clear f0); (try clear a1); (try clear l1); (try clear f1); (try clear a2); (try clear l2); (try clear f2); (try clear a3); (try clear l3); (try clear f3); (try clear a4); (try clear l4); (try clear f4); (try clear a5); (try clear l5); (try clear f5); have K := K2; clear K2; (try have a0 := K.out.rd 0 rfl); (try have l0 := K.out.ltp 0 rfl); (try have f0 := K.out.fr 0 rfl); (try have a1 := K.out.rd 1 rfl); (try have l1 := K.out.ltp 1 rfl); (try have f1 := K.out.fr 1 rfl); (try have a2 := K.out.rd 2 rfl); (try have l2 := K.out.ltp 2 rfl); (try have f2 := K.out.fr 2 rfl); (try have a3 := K.out.rd 3 rfl); (try have l3 := K.out.ltp 3 rfl); (try have f3 := K.out.fr 3 rfl)) | (go_at_call 40; (with_reducible refine ((VL _).out).mono ?_); rintro e w1 ⟨rfl, hb⟩; have K1 := sat.grown (show sat _ _ _ from by first | exact K.out | exact K.out.drew) hb; clear hb; have K2 := Lib.hid K1; clear K1 K; (try clear a0); (try clear l0); (try clear f0); (try clear a1); (try clear l1); (try clear f1); (try clear a2); (try clear l2); (try clear f2); (try clear a3); (try clear l3); (try clear f3); (try clear a4); (try clear l4); (try clear f4); (try clear a5); (try clear l5); (try clear f5); have K := K2; clear K2; (try have a0 := K.out.rd 0 rfl); (try have l0 := K.out.ltp 0 rfl); (try have f0 := K.out.fr 0 rfl); (try have a1 := K.out.rd 1 rfl); (try have l1 := K.out.ltp 1 rfl); (try have f1 := K.out.fr 1 rfl); (try have a2 := K.out.rd 2 rfl); (try have l2 := K.out.ltp 2 rfl); (try have f2 := K.out.fr 2 rfl); (try have a3 := K.out.rd 3 rfl); (try have l3 := K.out.ltp 3 rfl); (try have f3 := K.out.fr 3 rfl)) | (go_at_call 38; (first | (with_reducible refine (PW _ _ ((show sat E _ _ from by first | exact K.out | exact K.out.drew).pick 2 rfl)).out.mono ?_) | (with_reducible refine (PV _ _ ((show sat E _ _ from by first | exact K.out | exact K.out.drew).pick 2 rfl)).out.mono ?_)); rintro e w1 ⟨rfl, rfl⟩))
            refine shown hkC _ _ (by (try dsimp only); (exact ⟨sat.rd 3 (by repeat (with_reducible first | exact K.out | apply sat.alloc_any | apply sat.drew | apply sat.drewN)) rfl, sat.row_rd 1 (by repeat (with_reducible first | exact K.out | apply sat.alloc_any | apply sat.drew | apply sat.drewN)) rfl n _ HX2.out, sat.row_rd 0 (by repeat (with_reducible first | exact K.out | apply sat.alloc_any | apply sat.drew | apply sat.drewN)) rfl n _ HX3.out⟩)) ?_; clear hkC kC hHeld; intro hHeld
            (try simp only [Act.put, p0, p1, p2])
            refine wpAnyH_ready (rs := [8]) (by kernel_rfl) (by simp) ?_
            refine AllReadyH.cons (o := _) rfl (fun kC hkC => ?_) AllReadyH.nil
            go_simp
            (first | (go_at_call 39; (with_reducible refine ((WD _).out).mono ?_); rintro e w1 ⟨rfl, hb⟩; have K1 := sat.grown (show sat _ _ _ from by first | exact K.out | exact K.out.drew) hb; clear hb; have K2 := Lib.hid K1; clear K1 K; (try clear a0); (try clear l0); (try clear f0); (try clear a1); (try clear l1); (try clear f1); (try clear a2); (try clear l2); (try clear f2); (try clear a3); (try clear l3); (try clear f3); (try clear a4); (try clear l4); (try clear f4); (try clear a5); (try clear l5); (try clear f5); have K := K2; clear K2; (try have a0 := K.out.rd 0 rfl); (try have l0 := K.out.ltp 0 rfl); (try have f0 := K.out.fr 0 rfl); (try have a1 := K.out.rd 1 rfl); (try have l1 := K.out.ltp 1 rfl); (try have f1 := K.out.fr 1 rfl); (try have a2 := K.out.rd 2 rfl); (try have l2 := K.out.ltp 2 rfl); (try have f2 := K.out.fr 2 rfl); (try have a3 := K.out.rd 3 rfl); (try have l3 := K.out.ltp 3 rfl); (try have f3 := K.out.fr 3 rfl)) | (go_at_call 40; (with_reducible refine ((VL _).out).mono ?_); rintro e w1 ⟨rfl, hb⟩; have K1 := sat.grown (show sat _ _ _ from by first | exact K.out | exact K.out.drew) hb; clear hb; have K2 := Lib.hid K1; clear K1 K; (try clear a0); (try clear l0); (try clear f0); (try clear a1); (try clear l1); (try clear f1); (try clear a2); (try clear l2); (try clear f2); (try clear a3); (try clear l3); (try clear f3); (try clear a4); (try clear l4); (try clear f4); (try clear a5); (try clear l5); (try clear f5); have K := K2; clear K2; (try have a0 := K.out.rd 0 rfl); (try have l0 := K.out.ltp 0 rfl); (try have f0 := K.out.fr 0 rfl); (try have a1 := K.out.rd 1 rfl); (try have l1 := K.out.ltp 1 rfl); (try have f1 := K.out.fr 1 rfl); (try have a2 := K.out.rd 2 rfl); (try have l2 := K.out.ltp 2 rfl); (try have f2 := K.out.fr 2 rfl); (try have a3 := K.out.rd 3 rfl); (try have l3 := K.out.ltp 3 rfl); (try have f3 := K.out.fr 3 rfl)) | (go_at_call 38; (first | (with_reducible refine (PW _ _ ((show sat E _ _ from by first | exact K.out | exact K.out.drew).pick 2 rfl)).out.mono ?_) | (with_reducible refine (PV _ _ ((show sat E _ _ from by first | exact K.out | exact K.out.drew).pick 2 rfl)).out.mono ?_)); rintro e w1 ⟨rfl, rfl⟩))
            refine shown hkC _ _ (by (try dsimp only); (exact ⟨sat.rd 3 (by repeat (with_reducible first | exact K.out | apply sat.alloc_any | apply sat.drew | apply sat.drewN)) rfl, sat.row_rd 1 (by repeat (with_reducible first | exact K.out | apply sat.alloc_any | apply sat.drew | apply sat.drewN)) rfl n _ HX2.out, sat.row_rd 0 (by repeat (with_reducible first | exact K.out | apply sat.alloc_any | apply sat.drew | apply sat.drewN)) rfl n _ HX3.out⟩)) ?_; clear hkC kC hHeld; intro hHeld
            (try simp only [Act.put, p0, p1, p2])
            refine tk 9 (some 75) ?_
            (try simp only [Act.put, p0, p1, p2])
            refine tk 10 (some 76) ?_
            (try simp only [Act.put, p0, p1, p2])
            refine tk 11 (some 77) ?_
            (try simp only [Act.put, p0, p1, p2])
            refine tk 12 (some 78) ?_
            (try simp only [Act.put, p0, p1, p2])
            refine tk 13 (some 79) ?_
            (try simp only [Act.put, p0, p1, p2])
            refine tk 14 (some 80) ?_
            (try simp only [Act.put, p0, p1, p2])
            refine tk 15 (some 81) ?_
            (try simp only [Act.put, p0, p1, p2])
            refine tk 16 (some 82) ?_
            (try simp only [Act.put, p0, p1, p2])
            refine tk 17 (some 83) ?_
            (try simp only [Act.put, p0, p1, p2])
            refine wpAnyH_ready (rs := [18]) (by kernel_rfl) (by simp) ?_
            refine AllReadyH.cons (o := _) rfl (fun kC hkC => ?_) AllReadyH.nil
            go_simp
            (first | (go_at_call 39; (with_reducible refine ((WD _).out).mono ?_); rintro e w1 ⟨rfl, hb⟩; have K1 := sat.grown (show sat _ _ _ from by first | exact K.out | exact K.out.drew) hb; clear hb; have K2 := Lib.hid K1; clear K1 K; (try clear a0); (try clear l0); (try clear f0); (try clear a1); (try clear l1); (try clear f1); (try clear a2); (try clear l2); (try clear f2); (try clear a3); (try clear l3); (try clear f3); (try clear a4); (try clear l4); (try clear f4); (try clear a5); (try clear l5); (try clear f5); have K := K2; clear K2; (try have a0 := K.out.rd 0 rfl); (try have l0 := K.out.ltp 0 rfl); (try have f0 := K.out.fr 0 rfl); (try have a1 := K.out.rd 1 rfl); (try have l1 := K.out.ltp 1 rfl); (try have f1 := K.out.fr 1 rfl); (try have a2 := K.out.rd 2 rfl); (try have l2 := K.out.ltp 2 rfl); (try have f2 := K.out.fr 2 rfl); (try have a3 := K.out.rd 3 rfl); (try have l3 := K.out.ltp 3 rfl); (try have f3 := K.out.fr 3 rfl)) | (go_at_call 40; (with_reducible refine ((VL _).out).mono ?_); rintro e w1 ⟨rfl, hb⟩; have K1 := sat.grown (show sat _ _ _ from by first | exact K.out | exact K.out.drew) hb; clear hb; have K2 := Lib.hid K1; clear K1 K; (try clear a0); (try clear l0); (try clear f0); (try clear a1); (try clear l1); (try clear f1); (try clear a2); (try clear l2); (try clear f2); (try clear a3); (try clear l3); (try clear f3); (try clear a4); (try clear l4); (try clear f4); (try clear a5); (try clear l5); (try clear f5); have K := K2; clear K2; (try have a0 := K.out.rd 0 rfl); (try have l0 := K.out.ltp 0 rfl); (try have f0 := K.out.fr 0 rfl); (try have a1 := K.out.rd 1 rfl); (try have l1 := K.out.ltp 1 rfl); (try have f1 := K.out.fr 1 rfl); (try have a2 := K.out.rd 2 rfl); (try have l2 := K.out.ltp 2 rfl); (try have f2 := K.out.fr 2 rfl); (try have a3 := K.out.rd 3 rfl); (try have l3 := K.out.ltp 3 rfl); (try have f3 := K.out.fr 3 rfl)) | (go_at_call 38; (first | (with_reducible refine (PW _ _ ((show sat E _ _ from by first | exact K.out | exact K.out.drew).pick 2 rfl)).out.mono ?_) | (with_reducible refine (PV _ _ ((show sat E _ _ from by first | exact K.out | exact K.out.drew).pick 2 rfl)).out.mono ?_)); rintro e w1 ⟨rfl, rfl⟩))
            refine shown hkC _ _ (by (try dsimp only); (exact ⟨sat.rd 3 (by repeat (with_reducible first | exact K.out | apply sat.alloc_any | apply sat.drew | apply sat.drewN)) rfl, sat.row_rd 1 (by repeat (with_reducible first | exact K.out | apply sat.alloc_any | apply sat.drew | apply sat.drewN)) rfl n _ HX2.out, sat.row_rd 0 (by repeat (with_reducible first | exact K.out | apply sat.alloc_any | apply sat.drew | apply sat.drewN)) rfl n _ HX3.out⟩)) ?_; clear hkC kC hHeld; intro hHeld
            (try simp only [Act.put, p0, p1, p2])
            refine wpAnyH_ready (rs := [19]) (by kernel_rfl) (by simp) ?_
            refine AllReadyH.cons (o := _) rfl (fun kC hkC => ?_) AllReadyH.nil
            go_simp
            (first | (go_at_call 39; (with_reducible refine ((WD _).out).mono ?_); rintro e w1 ⟨rfl, hb⟩; have K1 := sat.grown (show sat _ _ _ from by first | exact K.out | exact K.out.drew) hb; clear hb; have K2 := Lib.hid K1; clear K1 K; (try clear a0); (try clear l0); (try clear f0); (try clear a1); (try clear l1); (try clear f1); (try clear a2); (try clear l2); (try clear f2); (try clear a3); (try clear l3); (try clear f3); (try clear a4); (try clear l4); (try clear f4); (try clear a5); (try clear l5); (try clear f5); have K := K2; clear K2; (try have a0 := K.out.rd 0 rfl); (try have l0 := K.out.ltp 0 rfl); (try have f0 := K.out.fr 0 rfl); (try have a1 := K.out.rd 1 rfl); (try have l1 := K.out.ltp 1 rfl); (try have f1 := K.out.fr 1 rfl); (try have a2 := K.out.rd 2 rfl); (try have l2 := K.out.ltp 2 rfl); (try have f2 := K.out.fr 2 rfl); (try have a3 := K.out.rd 3 rfl); (try have l3 := K.out.ltp 3 rfl); (try have f3 := K.out.fr 3 rfl)) | (go_at_call 40; (with_reducible refine ((VL _).out).mono ?_); rintro e w1 ⟨rfl, hb⟩; have K1 := sat.grown (show sat _ _ _ from by first | exact K.out | exact K.out.drew) hb; clear hb; have K2 := Lib.hid K1; clear K1 K; (try clear a0); (try clear l0); (try clear f0); (try clear a1); (try clear l1); (try clear f1); (try clear a2); (try clear l2); (try clear f2); (try clear a3); (try clear l3); (try clear f3); (try clear a4); (try clear l4); (try clear f4); (try clear a5); (try clear l5); (try clear f5); have K := K2; clear K2; (try have a0 := K.out.rd 0 rfl); (try have l0 := K.out.ltp 0 rfl); (try have f0 := K.out.fr 0 rfl); (try have a1 := K.out.rd 1 rfl); (try have l1 := K.out.ltp 1 rfl); (try have f1 := K.out.fr 1 rfl); (try have a2 := K.out.rd 2 rfl); (try have l2 := K.out.ltp 2 rfl); (try have f2 := K.out.fr 2 rfl); (try have a3 := K.out.rd 3 rfl); (try have l3 := K.out.ltp 3 rfl); (try have f3 := K.out.fr 3 rfl)) | (go_at_call 38; (first | (with_reducible refine (PW _ _ ((show sat E _ _ from by first | exact K.out | exact K.out.drew).pick 2 rfl)).out.mono ?_) | (with_reducible refine (PV _ _ ((show sat E _ _ from by first | exact K.out | exact K.out.drew).pick 2 rfl)).out.mono ?_)); rintro e w1 ⟨rfl, rfl⟩))
            refine shown hkC _ _ (by (try dsimp only); (exact ⟨sat.rd 3 (by repeat (with_reducible first | exact K.out | apply sat.alloc_any | apply sat.drew | apply sat.drewN)) rfl, sat.row_rd 1 (by repeat (with_reducible first | exact K.out | apply sat.alloc_any | apply sat.drew | apply sat.drewN)) rfl n _ HX2.out, sat.row_rd 0 (by repeat (with_reducible first | exact K.out | apply sat.alloc_any | apply sat.drew | apply sat.drewN)) rfl n _ HX3.out⟩)) ?_; clear hkC kC hHeld; intro hHeld
            (try simp only [Act.put, p0, p1, p2])
            refine tk 20 (some 86) ?_
            (try simp only [Act.put, p0, p1, p2])
            refine tk 21 (some 87) ?_
            (try simp only [Act.put, p0, p1, p2])
            refine wpAnyH_done (by kernel_rfl) (NoPanic.normal ?_) _
            all_goals
              go_wp2_with fail
              go_roundg gk'
              case measure => omega
              case rel => exact ⟨n + 1, by have := HN.out; omega, by first | (simp; done) | (simp; exact w64 (by omega) (by omega)), by first | exact K.out | exact K.out.drew⟩
          · have d1 : decide (n < c.all.toNat) = false := by simpa using hlt
            have ea : ((c.all.toNat : Int) == c.all) = true := by rw [beq_iff_eq]; omega
            clear hn2
            go_wp2_with ((go_at_call 37; (with_reducible refine ((AL _).out).mono ?_); rintro e w1 ⟨rfl, hb⟩; have K1 := sat.grown (by repeat (with_reducible first | exact K.out | apply sat.alloc_any | apply sat.drew | apply sat.drewN)) hb; clear hb; have K2 := Lib.hid K1; clear K1 K; (try clear a0); (try clear l0); (try clear a1); (try clear l1); (try clear a2); (try clear l2); have K := K2; clear K2; have a3 := K.out.rd 3 rfl; have l3 := K.out.ltp 3 rfl))
            go_ret
            exact ⟨rfl, K.out.below⟩
theorem yardBacks_calls (W : World) (t : Int) (_ : (Lit.int .i64 t).wf = true) (s : Int) (_ : (Lit.int .i64 s).wf = true) (r : Int) (_ : (Lit.int .i64 r).wf = true) (a : Option Addr) (len cap : Nat) (rows : List (List Value)) (h : RowsAt W [.int .i64, .int .i64, .bool, .bool, .int .u64, .int .i64, .int .i64] a len cap rows) :
    Calls Tryz.prog 7 #[.int .i64 t, .int .i64 s, .int .i64 r, .slice a len cap] W fun e W' => e = .returned (.bool true) ∧ Below W.heap.size W W' := by
  obtain ⟨l, rfl, hwf, ho⟩ := oldM_of h
  exact yardBacks_main t s r a l cap W hwf ho
end Go.Proofs.YtdjkblnocooldaaGreat
