/- All that there is, taken one by one at either end, comes in the order in which it stands (GetRow answers true at every input). No condition beyond the row's own. -/
import Derived.Test.YtlnfbfnccefcnaaGetRowL
namespace Go.Proofs.Ytlnfbfnccefcnaa
open Go.RowKit Go.SepYtlnfbfnccefcnaa
set_option linter.unusedSimpArgs false
set_option linter.unusedVariables false
set_option maxRecDepth 100000
set_option maxHeartbeats 4000000
/-- A truth value in a slice. -/
def boolV (b : Bool) : List Value := [.bool b]
theorem zeroS (k : Nat) : (((k + 1 : Nat) : Int) == 0) = false := by
  rw [beq_eq_false_iff_ne]; omega
theorem row_of {R : List Int} {i : Nat} {x : Int} (h : R[i]? = some x) : (R.map (Value.int .i64))[i]? = some (.int .i64 x) := by simp [h]
theorem row_atE {R : List Int} {i k : Nat} (h : i + k ≤ R.length) (hk : 0 < k) : ∃ x : Int, (R.map (Value.int .i64))[i]? = some (.int .i64 x) :=
  ⟨R[i]'(by omega), row_of (List.getElem?_eq_getElem (by omega))⟩
theorem row_rI {R : List Int} {a k : Nat} {x : Int} (h : R[if endM true = 0 then a else a + (k - 1)]? = some x) (hk : 0 < k) : (R.map (Value.int .i64))[a + (k - 1)]? = some (.int .i64 x) := by
  rw [if_neg (show ¬ endM true = 0 by decide)] at h
  exact row_of h
theorem lenI {k : Nat} (hk : 0 < k) (hb : k ≤ 100) : wrap64 ((k : Int) - 1) = (k : Int) - 1 ∧ ((k : Int) == 0) = false ∧ 0 ≤ (k : Int) - 1 ∧ (k : Int) - 1 < (k : Int) ∧ (1 : Int) ≤ (k : Int) ∧ 1 ≤ k := by
  refine ⟨w64 (by omega) (by omega), ?_, by omega, by omega, by omega, hk⟩
  rw [beq_eq_false_iff_ne]; omega
theorem rs_t {c : ConfM} {R : List Int} {n : Nat} {m : MemM} {a k : Nat} (h : RowS c R n m a (k - 1)) (hk : 0 < k) : RowS c R n m a ((k : Int) - 1).toNat := by
  rw [show ((k : Int) - 1).toNat = k - 1 by omega]; exact h
theorem row_l {R : List Int} {a k : Nat} {x : Int} (h : R[if endM false = 0 then a else a + k]? = some x) : R[a]? = some x := by
  rw [if_pos (show endM false = 0 from rfl)] at h; exact h
theorem row_r {R : List Int} {a k : Nat} {x : Int} (h : R[if endM true = 0 then a else a + k]? = some x) : R[a + k]? = some x := by
  rw [if_neg (show ¬ endM true = 0 by decide)] at h; exact h
theorem rs_l {c : ConfM} {R : List Int} {n : Nat} {m : MemM} {a k : Nat} (h : RowS c R n m (if endM false = 0 then a + 1 else a) k) : RowS c R n m (a + 1) k := by
  rw [if_pos (show endM false = 0 from rfl)] at h; exact h
theorem rs_r {c : ConfM} {R : List Int} {n : Nat} {m : MemM} {a k : Nat} (h : RowS c R n m (if endM true = 0 then a + 1 else a) k) : RowS c R n m a k := by
  rw [if_neg (show ¬ endM true = 0 by decide)] at h; exact h
theorem oldB_of {W : World} {a : Option Addr} {len cap : Nat} {rows : List (List Value)} (h : RowsAt W [FK.bool] a len cap rows) :
    ∃ l : List Bool, l.length = len ∧ OldS boolV 1 W a l := by
  obtain ⟨l, h1, _, h3⟩ := oldS_of boolV (fun _ => True) h (fun r hr => by
    obtain ⟨b, v, rfl, k⟩ := okAll_bool hr
    obtain rfl := okAll_nil k
    exact ⟨b, rfl, trivial⟩) (fun v => ⟨_, rfl⟩)
  exact ⟨l, h1, h3⟩
theorem getRow_main (t s who : Int) (p : Option Addr) (l : List ThingM) (cap : Nat) (q : Option Addr) (es : List Bool) (cap2 : Nat) (E : World) (hwf : ∀ x ∈ l, x.wf) (ho : OldS ThingM.v 6 E p l) (ho2 : OldS boolV 1 E q es) :
    Calls Try.prog 3 #[.int .i64 t, .int .i64 s, .int .i64 who, .slice p l.length cap, .slice q es.length cap2] E fun e w' => e = .returned (.bool true) ∧ Below E.heap.size E w' := by
  have K := Lib.hid (sat.start E)
  have HD := fun w => Lib.hid (head11_calls w)
  by_cases h64 : (l.length : Int) > 64
  · have c0 : decide ((l.length : Int) > 64) = true := by simpa using h64
    go_enter Try.func3, Try.ntmps3
    go_wp2_with (first | (go_at_call 13; (with_reducible refine ((HD _).out).mono ?_); rintro e w1 ⟨rfl, hb⟩; have K1 := sat.grown (by repeat (with_reducible first | exact K.out | apply sat.alloc_any | apply sat.drew | apply sat.drewN)) hb; clear hb; have K2 := Lib.hid K1; clear K1 K; (try clear a0); (try clear l0); (try clear a1); (try clear l1); (try clear a2); (try clear l2); have K := K2; clear K2))
    go_ret
    exact ⟨rfl, K.out.below⟩
  · have c0 : decide ((l.length : Int) > 64) = false := by simpa using h64
    by_cases h30 : (es.length : Int) > 30
    · have c1 : decide ((es.length : Int) > 30) = true := by simpa using h30
      go_enter Try.func3, Try.ntmps3
      go_wp2_with (first | (go_at_call 13; (with_reducible refine ((HD _).out).mono ?_); rintro e w1 ⟨rfl, hb⟩; have K1 := sat.grown (by repeat (with_reducible first | exact K.out | apply sat.alloc_any | apply sat.drew | apply sat.drewN)) hb; clear hb; have K2 := Lib.hid K1; clear K1 K; (try clear a0); (try clear l0); (try clear a1); (try clear l1); (try clear a2); (try clear l2); have K := K2; clear K2))
      go_ret
      exact ⟨rfl, K.out.below⟩
    · have c1 : decide ((es.length : Int) > 30) = false := by simpa using h30
      have CF := fun w => Lib.hid (conf_calls t s 0 0 w)
      have hc := confS_ok t s 0 0
      have hsm := confS_small t s 0 0
      generalize confS t s 0 0 = c at *
      have H := Lib.hid ho
      have H2 := Lib.hid ho2
      have HC := Lib.hid hc
      have CE := fun w' (M : List SA) (h : sat E w' M) => Lib.hid (cells_calls c hc p l cap (by omega) hwf ho h)
      have hw := cellsM_wf (c := c) hwf (min c.all.toNat l.length)
      have hlog : (cellsM c l).log.length ≤ 200 := by have := cellsN_log c l (min c.all.toNat l.length); unfold cellsM; omega
      have hlen := cellsM_clen hc l
      rw [show cellsN c l (min c.all.toNat l.length) = cellsM c l from rfl] at hw
      have h16 : c.all ≤ 16 := by
        unfold ConfM.all
        have := Int.mul_le_mul hsm.1 hsm.2.1 (by have := hc.sl1; omega) (by decide)
        omega
      have ea1 := and16 who
      obtain ⟨wh0, wh1⟩ := whoS_bd hc who
      have ea2 : Int.tmod (who % 65536) c.th = whoS c who := by unfold whoS; rw [Int.tmod_eq_emod_of_nonneg (by omega)]
      have z1 : (c.th == 0) = false := by have := hc.th1; simp; omega
      have z2 : ¬ c.th = 0 := by have := hc.th1; omega
      have z3 : IntKind.i64.wrap (whoS c who) = whoS c who := wi (by have := hc.th2; omega) (by have := hc.th2; omega)
      have WD := fun w' (gm : Nat) (M : List SA) (h : sat E w' (memA gm (cellsM c l) :: M)) => Lib.hid (words_calls c hc gm (cellsM c l) h)
      have EN := fun r w => Lib.hid (end_calls r w)
      have AN := fun w => Lib.hid (alone_calls c w hc)
      have RS0 : RowS c (orderM (wordsM c (cellsM c l))) 0 (cellsM c l) 0 (orderM (wordsM c (cellsM c l))).length := ⟨hw, hlen, by omega, by simp, by omega⟩
      have HR := Lib.hid RS0
      have RC := fun w' (q : Option Addr) (k : Nat) (M : List SA) (h : sat E w' (rowA (.slice q c.all.toNat k) 43 1 c.all.toNat (u64s (wordsM c (cellsM c l))) :: M)) => Lib.hid (row_call (wordsM_len c (cellsM c l)) (by have := hc.all_bd; omega) (wordsM_wf c hw) h)
      clear ho ho2 RS0
      generalize whoS c who = wh at *
      generalize cellsM c l = m at *
      obtain ⟨W, hW⟩ : ∃ W, W = wordsM c m := ⟨_, rfl⟩
      rw [← hW] at WD RC HR
      have hRl : (orderM W).length ≤ 16 := by
        have h1 := orderM_len W
        rw [hW, wordsM_len] at h1
        rw [hW]; omega
      clear hW
      go_enter Try.func3, Try.ntmps3
      go_wp2_with (first | (go_at_call 13; (with_reducible refine ((HD _).out).mono ?_); rintro e w1 ⟨rfl, hb⟩; have K1 := sat.grown (by repeat (with_reducible first | exact K.out | apply sat.alloc_any | apply sat.drew | apply sat.drewN)) hb; clear hb; have K2 := Lib.hid K1; clear K1 K; (try clear a0); (try clear l0); (try clear a1); (try clear l1); (try clear a2); (try clear l2); have K := K2; clear K2) | (go_at_call 14; (with_reducible refine ((CF _).out).mono ?_); rintro e w1 ⟨rfl, hb⟩; have K1 := sat.grown (by repeat (with_reducible first | exact K.out | apply sat.alloc_any | apply sat.drew | apply sat.drewN)) hb; clear hb; have K2 := Lib.hid K1; clear K1 K; (try clear a0); (try clear l0); (try clear a1); (try clear l1); (try clear a2); (try clear l2); have K := K2; clear K2))
      have K1 := K.out.alloc (.cells #[.int .i64 c.th, .int .i64 c.sl, .int .i64 c.src, .int .i64 c.dl] 27)
      obtain ⟨gc, hgc⟩ : ∃ g, g = w1.heap.size := ⟨_, rfl⟩
      rw [← hgc] at K1 ⊢
      clear K hgc
      have K := Lib.hid K1
      clear K1
      have a0 := K.out.rd 0 rfl; have l0 := K.out.ltp 0 rfl
      go_wp2_with (first | (go_at_call 15; (with_reducible refine ((CE _ _ (show sat E _ _ from by iterate 6 (try (with_reducible first | exact K.out | apply sat.alloc_any | apply sat.drew | apply sat.drewN)))).out).mono ?_); rintro e w1 ⟨gm, rfl, K1⟩; have K2 := Lib.hid K1; clear K1 K; (try clear a0); (try clear l0); (try clear a1); (try clear l1); (try clear a2); (try clear l2); have K := K2; clear K2; have a1 := K.out.rd 1 rfl; have l1 := K.out.ltp 1 rfl) | (go_at_call 17; (with_reducible refine ((WD _ gm _ (show sat E _ _ from by iterate 6 (try (with_reducible first | exact K.out | apply sat.alloc_any | apply sat.drew | apply sat.drewN)))).out).mono ?_); rintro e w1 ⟨p1, c1, rfl, K1⟩; have K2 := Lib.hid K1; clear K1 K; (try clear a0); (try clear l0); (try clear a1); (try clear l1); (try clear a2); (try clear l2); have K := K2; clear K2; have a2 := K.out.rd 2 rfl; have l2 := K.out.ltp 2 rfl) | (go_at_call 16; (with_reducible refine ((RC _ p1 c1 _ (show sat E _ _ from by iterate 6 (try (with_reducible first | exact K.out | apply sat.alloc_any | apply sat.drew | apply sat.drewN)))).out).mono ?_); rintro e w1 ⟨p2, c2, rfl, K1⟩; have K2 := Lib.hid K1; clear K1 K; (try clear a0); (try clear l0); (try clear a1); (try clear l1); (try clear a2); (try clear l2); have K := K2; clear K2; have a3 := K.out.rd 3 rfl; have l3 := K.out.ltp 3 rfl))
      have K1 : sat E _ [memA gm m, pt gc (.cells #[.int .i64 c.th, .int .i64 c.sl, .int .i64 c.src, .int .i64 c.dl] 27 (0, 0)), rowA (.slice p2 (orderM W).length c2) 3 1 (orderM W).length ((orderM W).map (Value.int .i64))] := (((K.out.pick 1 rfl).drop).pick 2 rfl).pick 2 rfl
      clear K
      have K := Lib.hid K1
      clear K1
      generalize orderM W = R at *
      go_loopg [46, 13] es.length (fun gk i v w' => ∃ n a len k v', ∃ mm : MemM, n + gk = es.length ∧ i = .int .i64 (n : Nat) ∧ v = .slice v' len k ∧ len ≤ k ∧ (0 < len → ∃ g, p2 = some ⟨g, 0, none⟩ ∧ v' = some ⟨g, a, none⟩) ∧ RowS c R n mm a len ∧ sat E w' [memA gm mm, pt gc (.cells #[.int .i64 c.th, .int .i64 c.sl, .int .i64 c.src, .int .i64 c.dl] 27 (0, 0)), rowA (.slice p2 R.length c2) 3 1 R.length (R.map (Value.int .i64))])
      case atStart => exact ⟨0, 0, _, _, _, m, by simp, rfl, rfl, by obtain ⟨h0, ⟨h1, h2, h3⟩ | ⟨g, cap', cur, h1, h2, h3, h4, h5, h6⟩⟩ := (K.out.pick 2 rfl).row_open <;> first | (simp at h1; omega) | simp_all, fun h => by obtain ⟨g, hg, _⟩ := Go.SepYtlnfbfnccefcnaa.row_some (K.out.pick 2 rfl) h; exact ⟨g, hg, hg⟩, HR.out, K.out⟩
      case round =>
        obtain ⟨n, a, len, k, v', mm, hn, rfl, rfl, hk, hp, hrs, hs⟩ := hrel
        clear K
        have K := Lib.hid hs
        clear hs
        have a1 := K.out.rd 1 rfl
        have l1 := K.out.ltp 1 rfl
        have HN := Lib.hid hn
        by_cases hlt : n < es.length
        · have d0 : decide (n < es.length) = true := by simpa using hlt
          obtain ⟨b2, off2, hq, hb2, hx2⟩ := H2.out n hlt
          have HX := Lib.hid (show ∀ w', Below E.heap.size E w' → w'.cell? ⟨b2, off2 + n, none⟩ = some (.bool es[n]) from fun w' hb => (hb.cell (p := ⟨b2, off2 + n, none⟩) hb2).trans (by have := hx2 0 (.bool es[n]) rfl; simpa using this))
          have y0 := HX.out _ K.out.below
          clear hx2
          subst hq
          generalize es[n] = right at *
          have GN := fun w' (M : List SA) (h : sat E w' M) => Lib.hid (getnew_calls c HC.out wh (endM right) n h)
          have ER := fun w => EN right w
          have hn30 : n ≤ 30 := by omega
          obtain ⟨gq0, rfl⟩ : ∃ g', gk = g' + 1 := ⟨gk - 1, by omega⟩
          have A1 := GetM.new_all HC.out wh0 wh1 (endM right) n hrs.wf hrs.clen
          have NX := Lib.hid (rowS_next HC.out h16 hrs (by omega) wh0 wh1 (endM right) n)
          have hmlog : mm.log.length ≤ 100000 := by have := hrs.log; omega
          have RS := fun w' b bm j (M : List SA) (hj : j ≤ 100000) (h : sat E w' (getA b (GetM.run (GetM.new c wh (endM right) n) mm j).1 :: memA bm (GetM.run (GetM.new c wh (endM right) n) mm j).2 :: M)) => Lib.hid (run_step A1 hmlog b bm j hj h)
          clear A1 hmlog
          go_wp2_with fail
          refine wp_region_noPanic ?_
          refine wp_region_held_drew (S := (fun w' => (∀ j, w'.cell? ⟨gc, j, none⟩ = ([.int .i64 c.th, .int .i64 c.sl, .int .i64 c.src, .int .i64 c.dl] : List Value)[j]?))) (by kernel_rfl) ?_ (fun hHeld => ?_)
          · ((try dsimp only); (first | exact sat.rd 1 (by repeat (with_reducible first | exact K.out | apply sat.alloc_any | apply sat.drew | apply sat.drewN)) rfl | exact sat.rd 2 (by repeat (with_reducible first | exact K.out | apply sat.alloc_any | apply sat.drew | apply sat.drewN)) rfl))
          refine tk 0 (some 51) ?_
          (try simp only [Act.put, p0, p1, p2])
          refine tk 1 (some 52) ?_
          (try simp only [Act.put, p0, p1, p2])
          refine tk 2 (some 53) ?_
          (try simp only [Act.put, p0, p1, p2])
          refine tk 4 (some 55) ?_
          (try simp only [Act.put, p0, p1, p2])
          refine wpAnyH_ready (rs := [3]) (by kernel_rfl) (by simp) ?_
          refine AllReadyH.cons (o := _) rfl (fun kC hkC => ?_) AllReadyH.nil
          go_simp
          (first | (go_at_call 19; (with_reducible refine ((ER _).out).mono ?_); rintro e w1 ⟨rfl, hb⟩; have K1 := sat.grown (show sat _ _ _ from by first | exact K.out | exact K.out.drew) hb; clear hb; have K2 := Lib.hid K1; clear K1 K; (try clear a0); (try clear l0); (try clear f0); (try clear a1); (try clear l1); (try clear f1); (try clear a2); (try clear l2); (try clear f2); (try clear a3); (try clear l3); (try clear f3); (try clear a4); (try clear l4); (try clear f4); (try clear a5); (try clear l5); (try clear f5); have K := K2; clear K2; (try have a0 := K.out.rd 0 rfl); (try have l0 := K.out.ltp 0 rfl); (try have f0 := K.out.fr 0 rfl); (try have a1 := K.out.rd 1 rfl); (try have l1 := K.out.ltp 1 rfl); (try have f1 := K.out.fr 1 rfl); (try have a2 := K.out.rd 2 rfl); (try have l2 := K.out.ltp 2 rfl); (try have f2 := K.out.fr 2 rfl); (try have a3 := K.out.rd 3 rfl); (try have l3 := K.out.ltp 3 rfl); (try have f3 := K.out.fr 3 rfl)) | (go_at_call 18; (with_reducible refine ((GN _ _ (show sat E _ _ from by first | exact K.out | exact K.out.drew)).out).mono ?_); rintro e w1 ⟨gg, rfl, K1⟩; have K2 := Lib.hid K1; clear K1 K; (try clear a0); (try clear l0); (try clear f0); (try clear a1); (try clear l1); (try clear f1); (try clear a2); (try clear l2); (try clear f2); (try clear a3); (try clear l3); (try clear f3); (try clear a4); (try clear l4); (try clear f4); (try clear a5); (try clear l5); (try clear f5); have K := K2; clear K2; (try have a0 := K.out.rd 0 rfl); (try have l0 := K.out.ltp 0 rfl); (try have f0 := K.out.fr 0 rfl); (try have a1 := K.out.rd 1 rfl); (try have l1 := K.out.ltp 1 rfl); (try have f1 := K.out.fr 1 rfl); (try have a2 := K.out.rd 2 rfl); (try have l2 := K.out.ltp 2 rfl); (try have f2 := K.out.fr 2 rfl); (try have a3 := K.out.rd 3 rfl); (try have l3 := K.out.ltp 3 rfl); (try have f3 := K.out.fr 3 rfl)))
          refine shown hkC _ _ (by (try dsimp only); (first | exact sat.rd 1 (by repeat (with_reducible first | exact K.out | apply sat.alloc_any | apply sat.drew | apply sat.drewN)) rfl | exact sat.rd 2 (by repeat (with_reducible first | exact K.out | apply sat.alloc_any | apply sat.drew | apply sat.drewN)) rfl)) ?_; clear hkC kC hHeld; intro hHeld
          (try simp only [Act.put, p0, p1, p2])
          refine wpAnyH_ready (rs := [5]) (by kernel_rfl) (by simp) ?_
          refine AllReadyH.cons (o := _) rfl (fun kC hkC => ?_) AllReadyH.nil
          go_simp
          (first | (go_at_call 19; (with_reducible refine ((ER _).out).mono ?_); rintro e w1 ⟨rfl, hb⟩; have K1 := sat.grown (show sat _ _ _ from by first | exact K.out | exact K.out.drew) hb; clear hb; have K2 := Lib.hid K1; clear K1 K; (try clear a0); (try clear l0); (try clear f0); (try clear a1); (try clear l1); (try clear f1); (try clear a2); (try clear l2); (try clear f2); (try clear a3); (try clear l3); (try clear f3); (try clear a4); (try clear l4); (try clear f4); (try clear a5); (try clear l5); (try clear f5); have K := K2; clear K2; (try have a0 := K.out.rd 0 rfl); (try have l0 := K.out.ltp 0 rfl); (try have f0 := K.out.fr 0 rfl); (try have a1 := K.out.rd 1 rfl); (try have l1 := K.out.ltp 1 rfl); (try have f1 := K.out.fr 1 rfl); (try have a2 := K.out.rd 2 rfl); (try have l2 := K.out.ltp 2 rfl); (try have f2 := K.out.fr 2 rfl); (try have a3 := K.out.rd 3 rfl); (try have l3 := K.out.ltp 3 rfl); (try have f3 := K.out.fr 3 rfl)) | (go_at_call 18; (with_reducible refine ((GN _ _ (show sat E _ _ from by first | exact K.out | exact K.out.drew)).out).mono ?_); rintro e w1 ⟨gg, rfl, K1⟩; have K2 := Lib.hid K1; clear K1 K; (try clear a0); (try clear l0); (try clear f0); (try clear a1); (try clear l1); (try clear f1); (try clear a2); (try clear l2); (try clear f2); (try clear a3); (try clear l3); (try clear f3); (try clear a4); (try clear l4); (try clear f4); (try clear a5); (try clear l5); (try clear f5); have K := K2; clear K2; (try have a0 := K.out.rd 0 rfl); (try have l0 := K.out.ltp 0 rfl); (try have f0 := K.out.fr 0 rfl); (try have a1 := K.out.rd 1 rfl); (try have l1 := K.out.ltp 1 rfl); (try have f1 := K.out.fr 1 rfl); (try have a2 := K.out.rd 2 rfl); (try have l2 := K.out.ltp 2 rfl); (try have f2 := K.out.fr 2 rfl); (try have a3 := K.out.rd 3 rfl); (try have l3 := K.out.ltp 3 rfl); (try have f3 := K.out.fr 3 rfl)))
          refine shown hkC _ _ (by (try dsimp only); (first | exact sat.rd 1 (by repeat (with_reducible first | exact K.out | apply sat.alloc_any | apply sat.drew | apply sat.drewN)) rfl | exact sat.rd 2 (by repeat (with_reducible first | exact K.out | apply sat.alloc_any | apply sat.drew | apply sat.drewN)) rfl)) ?_; clear hkC kC hHeld; intro hHeld
          (try simp only [Act.put, p0, p1, p2])
          refine tk 6 (some 16) ?_
          (try simp only [Act.put, p0, p1, p2])
          refine wpAnyH_done (by kernel_rfl) (NoPanic.normal ?_) _
          go_wp2_with fail
          have K1 : sat E _ [getA gg (GetM.run (GetM.new c wh (endM right) n) mm 0).1, memA gm (GetM.run (GetM.new c wh (endM right) n) mm 0).2, pt gc (.cells #[.int .i64 c.th, .int .i64 c.sl, .int .i64 c.src, .int .i64 c.dl] 27 (0, 0)), rowA (.slice p2 R.length c2) 3 1 R.length (R.map (Value.int .i64))] := K.out
          clear K
          have K := Lib.hid K1
          clear K1
          generalize GetM.run (GetM.new c wh (endM right) n) mm = R1 at *
          clear z3 ea1 ea2 z1 z2 hHeld
          have hM : 2 * c.all.toNat + 5 ≤ 10000 := by omega
          have hM2 := Lib.hid (show 2 * c.all + 5 = ((2 * c.all.toNat + 5 : Nat) : Int) by have := HC.out.all_bd; omega)
          generalize 2 * c.all.toNat + 5 = M at *
          go_loopg [17] M (fun GG i w' => ∃ j : Nat, j + GG = M ∧ i = .int .i64 j ∧ sat E w' [getA gg (R1 j).1, memA gm (R1 j).2, pt gc (.cells #[.int .i64 c.th, .int .i64 c.sl, .int .i64 c.src, .int .i64 c.dl] 27 (0, 0)), rowA (.slice p2 R.length c2) 3 1 R.length (R.map (Value.int .i64))])
          case atStart => exact ⟨0, by simp, rfl, K.out⟩
          case round =>
            obtain ⟨j, hj, rfl, hs⟩ := hrel
            clear K
            have K := Lib.hid hs
            clear hs
            have a2 := K.out.rd 2 rfl
            have l2 := K.out.ltp 2 rfl
            have HJ := Lib.hid hj
            by_cases qq : (j : Int) < 2 * c.all + 5
            · have d1 : decide ((j : Int) < 2 * c.all + 5) = true := by simpa using qq
              have G1 := fun w' (M : List SA) (h : sat E w' (getA gg (R1 j).1 :: memA gm (R1 j).2 :: M)) => RS w' gg gm j M (by have := hM2.out; omega) h
              obtain ⟨gq, rfl⟩ : ∃ g', gk = g' + 1 := ⟨gk - 1, by have := HJ.out; have := hM2.out; omega⟩
              go_wp2_with (first | (go_at_call 20; (with_reducible refine ((AN _).out).mono ?_); rintro e w1 ⟨rfl, hb⟩; have K1 := sat.grown (by repeat (with_reducible first | exact K.out | apply sat.alloc_any | apply sat.drew | apply sat.drewN)) hb; clear hb; have K2 := Lib.hid K1; clear K1 K; (try clear a0); (try clear l0); (try clear a1); (try clear l1); (try clear a2); (try clear l2); have K := K2; clear K2; have a2 := K.out.rd 2 rfl; have l2 := K.out.ltp 2 rfl) | (go_at_call 21; (with_reducible refine ((G1 _ _ (show sat E _ _ from by iterate 6 (try (with_reducible first | exact K.out | apply sat.alloc_any | apply sat.drew | apply sat.drewN)))).out).mono ?_); rintro e w1 ⟨rfl, K1⟩; have K2 := Lib.hid K1; clear K1 K; (try clear a0); (try clear l0); (try clear a1); (try clear l1); (try clear a2); (try clear l2); have K := K2; clear K2; have a2 := K.out.rd 2 rfl; have l2 := K.out.ltp 2 rfl))
              go_roundg gq
              case measure => omega
              case rel => exact ⟨j + 1, by have := HJ.out; omega, by first | (simp; done) | (simp; exact w64 (by omega) (by omega)), K.out⟩
            · have d1 : decide ((j : Int) < 2 * c.all + 5) = false := by simpa using qq
              have hjM : M = j := by have := hM2.out; omega
              subst hjM
              have GQ := fun w' (N : List SA) (h : sat E w' (getA gg (R1 M).1 :: N)) => Lib.hid (gphase_calls gg (R1 M).1 h)
              rcases Nat.eq_zero_or_pos len with hl0 | hpos
              · subst hl0
                have X := NX.out.1 rfl
                have HX2 := Lib.hid X
                rw [X.1] at GQ
                clear X hj qq hn
                go_wp2_with (first | (go_at_call 20; (with_reducible refine ((AN _).out).mono ?_); rintro e w1 ⟨rfl, hb⟩; have K1 := sat.grown (by repeat (with_reducible first | exact K.out | apply sat.alloc_any | apply sat.drew | apply sat.drewN)) hb; clear hb; have K2 := Lib.hid K1; clear K1 K; (try clear a0); (try clear l0); (try clear a1); (try clear l1); (try clear a2); (try clear l2); have K := K2; clear K2; have a2 := K.out.rd 2 rfl; have l2 := K.out.ltp 2 rfl) | (go_at_call 22; (with_reducible refine (GQ _ _ K.out).out.mono ?_); rintro e w1 ⟨rfl, rfl⟩))
                go_roundg gq0
                case measure => omega
                case rel => exact ⟨n + 1, a, 0, k, v', (R1 M).2, by have := HN.out; omega, by first | (simp; done) | (simp; exact w64 (by omega) (by omega)), rfl, hk, hp, HX2.out.2, K.out.drop⟩
              · obtain ⟨slot, hsl, s0, s1, ph, va, rs'⟩ := NX.out.2 (len - 1) (by omega)
                obtain ⟨g, hg1, hg2⟩ := hp hpos
                subst hg1 hg2
                have hbd := hrs.bd
                rw [ph] at GQ
                have VA := fun w' (N : List SA) (h : sat E w' (getA gg (R1 M).1 :: N)) => Lib.hid (gvalue_calls gg (R1 M).1 h)
                rw [va] at VA
                have PE := fun w' (N : List SA) (h : sat E w' (memA gm (R1 M).2 :: N)) => Lib.hid (peek_calls gm (R1 M).2 (c.value slot) h)
                have VC := fun w => Lib.hid (value_calls c w HC.out slot s0 s1)
                obtain ⟨z5, zO, t0, t1, t2, t3⟩ := lenI hpos (by omega)
                clear hj qq hn
                cases right with
                | false =>
                  have HA := Lib.hid (row_of (row_l hsl))
                  have HS := Lib.hid (rs_l rs')
                  clear hsl rs'
                  go_wp2_with ((go_at_call 20; (with_reducible refine ((AN _).out).mono ?_); rintro e w1 ⟨rfl, hb⟩; have K1 := sat.grown (by repeat (with_reducible first | exact K.out | apply sat.alloc_any | apply sat.drew | apply sat.drewN)) hb; clear hb; have K2 := Lib.hid K1; clear K1 K; (try clear a0); (try clear l0); (try clear a1); (try clear l1); (try clear a2); (try clear l2); have K := K2; clear K2; have a2 := K.out.rd 2 rfl; have l2 := K.out.ltp 2 rfl); (have y1 := K.out.row_rd 3 rfl a _ HA.out))
                  all_goals
                    refine wp_region_noPanic ?_
                    refine wp_region_held_drew (S := (fun w' => (∀ j, w'.cell? ⟨gc, j, none⟩ = ([.int .i64 c.th, .int .i64 c.sl, .int .i64 c.src, .int .i64 c.dl] : List Value)[j]?))) (by kernel_rfl) ?_ (fun hHeld => ?_)
                    · ((try dsimp only); (exact sat.rd 2 (by repeat (with_reducible first | exact K.out | apply sat.alloc_any | apply sat.drew | apply sat.drewN)) rfl))
                    refine tk 0 (some 89) ?_
                    (try simp only [Act.put, p0, p1, p2])
                    refine wpAnyH_ready (rs := [1]) (by kernel_rfl) (by simp) ?_
                    refine AllReadyH.cons (o := _) rfl (fun kC hkC => ?_) AllReadyH.nil
                    go_simp
                    (first | (go_at_call 22; (with_reducible refine (GQ _ _ (show sat E _ _ from by first | exact K.out | exact K.out.drew)).out.mono ?_); rintro e w1 ⟨rfl, rfl⟩) | (go_at_call 23; (with_reducible refine (VA _ _ (show sat E _ _ from by first | exact K.out | exact K.out.drew)).out.mono ?_); rintro e w1 ⟨rfl, rfl⟩) | (go_at_call 24; (with_reducible refine (PE _ _ ((show sat E _ _ from by first | exact K.out | exact K.out.drew).pick 1 rfl)).out.mono ?_); rintro e w1 ⟨rfl, rfl⟩) | (go_at_call 25; (with_reducible refine ((VC _).out).mono ?_); rintro e w1 ⟨rfl, hb⟩; have K1 := sat.grown (show sat _ _ _ from by first | exact K.out | exact K.out.drew) hb; clear hb; have K2 := Lib.hid K1; clear K1 K; (try clear a0); (try clear l0); (try clear f0); (try clear a1); (try clear l1); (try clear f1); (try clear a2); (try clear l2); (try clear f2); (try clear a3); (try clear l3); (try clear f3); (try clear a4); (try clear l4); (try clear f4); (try clear a5); (try clear l5); (try clear f5); have K := K2; clear K2; (try have a0 := K.out.rd 0 rfl); (try have l0 := K.out.ltp 0 rfl); (try have f0 := K.out.fr 0 rfl); (try have a1 := K.out.rd 1 rfl); (try have l1 := K.out.ltp 1 rfl); (try have f1 := K.out.fr 1 rfl); (try have a2 := K.out.rd 2 rfl); (try have l2 := K.out.ltp 2 rfl); (try have f2 := K.out.fr 2 rfl); (try have a3 := K.out.rd 3 rfl); (try have l3 := K.out.ltp 3 rfl); (try have f3 := K.out.fr 3 rfl)))
                    refine shown hkC _ _ (by (try dsimp only); (exact sat.rd 2 (by repeat (with_reducible first | exact K.out | apply sat.alloc_any | apply sat.drew | apply sat.drewN)) rfl)) ?_; clear hkC kC hHeld; intro hHeld
                    (try simp only [Act.put, p0, p1, p2])
                    refine tk 2 (some 91) ?_
                    (try simp only [Act.put, p0, p1, p2])
                    refine tk 3 (some 92) ?_
                    (try simp only [Act.put, p0, p1, p2])
                    refine tk 4 (some 93) ?_
                    (try simp only [Act.put, p0, p1, p2])
                    refine tk 6 (some 95) ?_
                    (try simp only [Act.put, p0, p1, p2])
                    refine tk 7 (some 96) ?_
                    (try simp only [Act.put, p0, p1, p2])
                    refine tk 8 (some 97) ?_
                    (try simp only [Act.put, p0, p1, p2])
                    refine wpAnyH_ready (rs := [5]) (by kernel_rfl) (by simp) ?_
                    refine AllReadyH.cons (o := _) rfl (fun kC hkC => ?_) AllReadyH.nil
                    go_simp
                    (first | (go_at_call 22; (with_reducible refine (GQ _ _ (show sat E _ _ from by first | exact K.out | exact K.out.drew)).out.mono ?_); rintro e w1 ⟨rfl, rfl⟩) | (go_at_call 23; (with_reducible refine (VA _ _ (show sat E _ _ from by first | exact K.out | exact K.out.drew)).out.mono ?_); rintro e w1 ⟨rfl, rfl⟩) | (go_at_call 24; (with_reducible refine (PE _ _ ((show sat E _ _ from by first | exact K.out | exact K.out.drew).pick 1 rfl)).out.mono ?_); rintro e w1 ⟨rfl, rfl⟩) | (go_at_call 25; (with_reducible refine ((VC _).out).mono ?_); rintro e w1 ⟨rfl, hb⟩; have K1 := sat.grown (show sat _ _ _ from by first | exact K.out | exact K.out.drew) hb; clear hb; have K2 := Lib.hid K1; clear K1 K; (try clear a0); (try clear l0); (try clear f0); (try clear a1); (try clear l1); (try clear f1); (try clear a2); (try clear l2); (try clear f2); (try clear a3); (try clear l3); (try clear f3); (try clear a4); (try clear l4); (try clear f4); (try clear a5); (try clear l5); (try clear f5); have K := K2; clear K2; (try have a0 := K.out.rd 0 rfl); (try have l0 := K.out.ltp 0 rfl); (try have f0 := K.out.fr 0 rfl); (try have a1 := K.out.rd 1 rfl); (try have l1 := K.out.ltp 1 rfl); (try have f1 := K.out.fr 1 rfl); (try have a2 := K.out.rd 2 rfl); (try have l2 := K.out.ltp 2 rfl); (try have f2 := K.out.fr 2 rfl); (try have a3 := K.out.rd 3 rfl); (try have l3 := K.out.ltp 3 rfl); (try have f3 := K.out.fr 3 rfl)))
                    refine shown hkC _ _ (by (try dsimp only); (exact sat.rd 2 (by repeat (with_reducible first | exact K.out | apply sat.alloc_any | apply sat.drew | apply sat.drewN)) rfl)) ?_; clear hkC kC hHeld; intro hHeld
                    (try simp only [Act.put, p0, p1, p2])
                    refine wpAnyH_ready (rs := [9]) (by kernel_rfl) (by simp) ?_
                    refine AllReadyH.cons (o := _) rfl (fun kC hkC => ?_) AllReadyH.nil
                    go_simp
                    (first | (go_at_call 22; (with_reducible refine (GQ _ _ (show sat E _ _ from by first | exact K.out | exact K.out.drew)).out.mono ?_); rintro e w1 ⟨rfl, rfl⟩) | (go_at_call 23; (with_reducible refine (VA _ _ (show sat E _ _ from by first | exact K.out | exact K.out.drew)).out.mono ?_); rintro e w1 ⟨rfl, rfl⟩) | (go_at_call 24; (with_reducible refine (PE _ _ ((show sat E _ _ from by first | exact K.out | exact K.out.drew).pick 1 rfl)).out.mono ?_); rintro e w1 ⟨rfl, rfl⟩) | (go_at_call 25; (with_reducible refine ((VC _).out).mono ?_); rintro e w1 ⟨rfl, hb⟩; have K1 := sat.grown (show sat _ _ _ from by first | exact K.out | exact K.out.drew) hb; clear hb; have K2 := Lib.hid K1; clear K1 K; (try clear a0); (try clear l0); (try clear f0); (try clear a1); (try clear l1); (try clear f1); (try clear a2); (try clear l2); (try clear f2); (try clear a3); (try clear l3); (try clear f3); (try clear a4); (try clear l4); (try clear f4); (try clear a5); (try clear l5); (try clear f5); have K := K2; clear K2; (try have a0 := K.out.rd 0 rfl); (try have l0 := K.out.ltp 0 rfl); (try have f0 := K.out.fr 0 rfl); (try have a1 := K.out.rd 1 rfl); (try have l1 := K.out.ltp 1 rfl); (try have f1 := K.out.fr 1 rfl); (try have a2 := K.out.rd 2 rfl); (try have l2 := K.out.ltp 2 rfl); (try have f2 := K.out.fr 2 rfl); (try have a3 := K.out.rd 3 rfl); (try have l3 := K.out.ltp 3 rfl); (try have f3 := K.out.fr 3 rfl)))
                    refine shown hkC _ _ (by (try dsimp only); (exact sat.rd 2 (by repeat (with_reducible first | exact K.out | apply sat.alloc_any | apply sat.drew | apply sat.drewN)) rfl)) ?_; clear hkC kC hHeld; intro hHeld
                    (try simp only [Act.put, p0, p1, p2])
                    refine wpAnyH_ready (rs := [10]) (by kernel_rfl) (by simp) ?_
                    refine AllReadyH.cons (o := _) rfl (fun kC hkC => ?_) AllReadyH.nil
                    go_simp
                    (first | (go_at_call 22; (with_reducible refine (GQ _ _ (show sat E _ _ from by first | exact K.out | exact K.out.drew)).out.mono ?_); rintro e w1 ⟨rfl, rfl⟩) | (go_at_call 23; (with_reducible refine (VA _ _ (show sat E _ _ from by first | exact K.out | exact K.out.drew)).out.mono ?_); rintro e w1 ⟨rfl, rfl⟩) | (go_at_call 24; (with_reducible refine (PE _ _ ((show sat E _ _ from by first | exact K.out | exact K.out.drew).pick 1 rfl)).out.mono ?_); rintro e w1 ⟨rfl, rfl⟩) | (go_at_call 25; (with_reducible refine ((VC _).out).mono ?_); rintro e w1 ⟨rfl, hb⟩; have K1 := sat.grown (show sat _ _ _ from by first | exact K.out | exact K.out.drew) hb; clear hb; have K2 := Lib.hid K1; clear K1 K; (try clear a0); (try clear l0); (try clear f0); (try clear a1); (try clear l1); (try clear f1); (try clear a2); (try clear l2); (try clear f2); (try clear a3); (try clear l3); (try clear f3); (try clear a4); (try clear l4); (try clear f4); (try clear a5); (try clear l5); (try clear f5); have K := K2; clear K2; (try have a0 := K.out.rd 0 rfl); (try have l0 := K.out.ltp 0 rfl); (try have f0 := K.out.fr 0 rfl); (try have a1 := K.out.rd 1 rfl); (try have l1 := K.out.ltp 1 rfl); (try have f1 := K.out.fr 1 rfl); (try have a2 := K.out.rd 2 rfl); (try have l2 := K.out.ltp 2 rfl); (try have f2 := K.out.fr 2 rfl); (try have a3 := K.out.rd 3 rfl); (try have l3 := K.out.ltp 3 rfl); (try have f3 := K.out.fr 3 rfl)))
                    refine shown hkC _ _ (by (try dsimp only); (exact sat.rd 2 (by repeat (with_reducible first | exact K.out | apply sat.alloc_any | apply sat.drew | apply sat.drewN)) rfl)) ?_; clear hkC kC hHeld; intro hHeld
                    (try simp only [Act.put, p0, p1, p2])
                    refine tk 11 (some 100) ?_
                    (try simp only [Act.put, p0, p1, p2])
                    refine tk 12 (some 101) ?_
                    (try simp only [Act.put, p0, p1, p2])
                    refine wpAnyH_done (by kernel_rfl) (NoPanic.normal ?_) _
                    go_wp2
                    go_roundg gq0
                    case measure => omega
                    case rel => exact ⟨n + 1, a + 1, len - 1, _, _, (R1 M).2, by have := HN.out; omega, by first | (simp; done) | (simp; exact w64 (by omega) (by omega)), rfl, by omega, by first | (intro h; omega) | exact fun _ => ⟨g, rfl, rfl⟩, HS.out, (show sat E _ _ from (by repeat (with_reducible first | exact K.out | apply sat.alloc_any | apply sat.drew | apply sat.drewN))).drop⟩
                | true =>
                  obtain ⟨x1, hx1⟩ := row_atE hbd hpos
                  have HA := Lib.hid hx1
                  have HB := Lib.hid (row_rI hsl hpos)
                  have HS := Lib.hid (rs_r rs')
                  clear hsl rs' hx1
                  go_wp2_with ((go_at_call 20; (with_reducible refine ((AN _).out).mono ?_); rintro e w1 ⟨rfl, hb⟩; have K1 := sat.grown (by repeat (with_reducible first | exact K.out | apply sat.alloc_any | apply sat.drew | apply sat.drewN)) hb; clear hb; have K2 := Lib.hid K1; clear K1 K; (try clear a0); (try clear l0); (try clear a1); (try clear l1); (try clear a2); (try clear l2); have K := K2; clear K2; have a2 := K.out.rd 2 rfl; have l2 := K.out.ltp 2 rfl); (have y1 := K.out.row_rd 3 rfl a _ HA.out); (have y2 := K.out.row_rd 3 rfl (a + (len - 1)) _ HB.out))
                  all_goals
                    refine wp_region_noPanic ?_
                    refine wp_region_held_drew (S := (fun w' => (∀ j, w'.cell? ⟨gc, j, none⟩ = ([.int .i64 c.th, .int .i64 c.sl, .int .i64 c.src, .int .i64 c.dl] : List Value)[j]?))) (by kernel_rfl) ?_ (fun hHeld => ?_)
                    · ((try dsimp only); (exact sat.rd 2 (by repeat (with_reducible first | exact K.out | apply sat.alloc_any | apply sat.drew | apply sat.drewN)) rfl))
                    refine tk 0 (some 89) ?_
                    (try simp only [Act.put, p0, p1, p2])
                    refine wpAnyH_ready (rs := [1]) (by kernel_rfl) (by simp) ?_
                    refine AllReadyH.cons (o := _) rfl (fun kC hkC => ?_) AllReadyH.nil
                    go_simp
                    (first | (go_at_call 22; (with_reducible refine (GQ _ _ (show sat E _ _ from by first | exact K.out | exact K.out.drew)).out.mono ?_); rintro e w1 ⟨rfl, rfl⟩) | (go_at_call 23; (with_reducible refine (VA _ _ (show sat E _ _ from by first | exact K.out | exact K.out.drew)).out.mono ?_); rintro e w1 ⟨rfl, rfl⟩) | (go_at_call 24; (with_reducible refine (PE _ _ ((show sat E _ _ from by first | exact K.out | exact K.out.drew).pick 1 rfl)).out.mono ?_); rintro e w1 ⟨rfl, rfl⟩) | (go_at_call 25; (with_reducible refine ((VC _).out).mono ?_); rintro e w1 ⟨rfl, hb⟩; have K1 := sat.grown (show sat _ _ _ from by first | exact K.out | exact K.out.drew) hb; clear hb; have K2 := Lib.hid K1; clear K1 K; (try clear a0); (try clear l0); (try clear f0); (try clear a1); (try clear l1); (try clear f1); (try clear a2); (try clear l2); (try clear f2); (try clear a3); (try clear l3); (try clear f3); (try clear a4); (try clear l4); (try clear f4); (try clear a5); (try clear l5); (try clear f5); have K := K2; clear K2; (try have a0 := K.out.rd 0 rfl); (try have l0 := K.out.ltp 0 rfl); (try have f0 := K.out.fr 0 rfl); (try have a1 := K.out.rd 1 rfl); (try have l1 := K.out.ltp 1 rfl); (try have f1 := K.out.fr 1 rfl); (try have a2 := K.out.rd 2 rfl); (try have l2 := K.out.ltp 2 rfl); (try have f2 := K.out.fr 2 rfl); (try have a3 := K.out.rd 3 rfl); (try have l3 := K.out.ltp 3 rfl); (try have f3 := K.out.fr 3 rfl)))
                    refine shown hkC _ _ (by (try dsimp only); (exact sat.rd 2 (by repeat (with_reducible first | exact K.out | apply sat.alloc_any | apply sat.drew | apply sat.drewN)) rfl)) ?_; clear hkC kC hHeld; intro hHeld
                    (try simp only [Act.put, p0, p1, p2])
                    refine tk 2 (some 91) ?_
                    (try simp only [Act.put, p0, p1, p2])
                    refine tk 3 (some 92) ?_
                    (try simp only [Act.put, p0, p1, p2])
                    refine tk 4 (some 93) ?_
                    (try simp only [Act.put, p0, p1, p2])
                    refine tk 6 (some 95) ?_
                    (try simp only [Act.put, p0, p1, p2])
                    refine tk 7 (some 96) ?_
                    (try simp only [Act.put, p0, p1, p2])
                    refine tk 8 (some 97) ?_
                    (try simp only [Act.put, p0, p1, p2])
                    refine wpAnyH_ready (rs := [5]) (by kernel_rfl) (by simp) ?_
                    refine AllReadyH.cons (o := _) rfl (fun kC hkC => ?_) AllReadyH.nil
                    go_simp
                    (first | (go_at_call 22; (with_reducible refine (GQ _ _ (show sat E _ _ from by first | exact K.out | exact K.out.drew)).out.mono ?_); rintro e w1 ⟨rfl, rfl⟩) | (go_at_call 23; (with_reducible refine (VA _ _ (show sat E _ _ from by first | exact K.out | exact K.out.drew)).out.mono ?_); rintro e w1 ⟨rfl, rfl⟩) | (go_at_call 24; (with_reducible refine (PE _ _ ((show sat E _ _ from by first | exact K.out | exact K.out.drew).pick 1 rfl)).out.mono ?_); rintro e w1 ⟨rfl, rfl⟩) | (go_at_call 25; (with_reducible refine ((VC _).out).mono ?_); rintro e w1 ⟨rfl, hb⟩; have K1 := sat.grown (show sat _ _ _ from by first | exact K.out | exact K.out.drew) hb; clear hb; have K2 := Lib.hid K1; clear K1 K; (try clear a0); (try clear l0); (try clear f0); (try clear a1); (try clear l1); (try clear f1); (try clear a2); (try clear l2); (try clear f2); (try clear a3); (try clear l3); (try clear f3); (try clear a4); (try clear l4); (try clear f4); (try clear a5); (try clear l5); (try clear f5); have K := K2; clear K2; (try have a0 := K.out.rd 0 rfl); (try have l0 := K.out.ltp 0 rfl); (try have f0 := K.out.fr 0 rfl); (try have a1 := K.out.rd 1 rfl); (try have l1 := K.out.ltp 1 rfl); (try have f1 := K.out.fr 1 rfl); (try have a2 := K.out.rd 2 rfl); (try have l2 := K.out.ltp 2 rfl); (try have f2 := K.out.fr 2 rfl); (try have a3 := K.out.rd 3 rfl); (try have l3 := K.out.ltp 3 rfl); (try have f3 := K.out.fr 3 rfl)))
                    refine shown hkC _ _ (by (try dsimp only); (exact sat.rd 2 (by repeat (with_reducible first | exact K.out | apply sat.alloc_any | apply sat.drew | apply sat.drewN)) rfl)) ?_; clear hkC kC hHeld; intro hHeld
                    (try simp only [Act.put, p0, p1, p2])
                    refine wpAnyH_ready (rs := [9]) (by kernel_rfl) (by simp) ?_
                    refine AllReadyH.cons (o := _) rfl (fun kC hkC => ?_) AllReadyH.nil
                    go_simp
                    (first | (go_at_call 22; (with_reducible refine (GQ _ _ (show sat E _ _ from by first | exact K.out | exact K.out.drew)).out.mono ?_); rintro e w1 ⟨rfl, rfl⟩) | (go_at_call 23; (with_reducible refine (VA _ _ (show sat E _ _ from by first | exact K.out | exact K.out.drew)).out.mono ?_); rintro e w1 ⟨rfl, rfl⟩) | (go_at_call 24; (with_reducible refine (PE _ _ ((show sat E _ _ from by first | exact K.out | exact K.out.drew).pick 1 rfl)).out.mono ?_); rintro e w1 ⟨rfl, rfl⟩) | (go_at_call 25; (with_reducible refine ((VC _).out).mono ?_); rintro e w1 ⟨rfl, hb⟩; have K1 := sat.grown (show sat _ _ _ from by first | exact K.out | exact K.out.drew) hb; clear hb; have K2 := Lib.hid K1; clear K1 K; (try clear a0); (try clear l0); (try clear f0); (try clear a1); (try clear l1); (try clear f1); (try clear a2); (try clear l2); (try clear f2); (try clear a3); (try clear l3); (try clear f3); (try clear a4); (try clear l4); (try clear f4); (try clear a5); (try clear l5); (try clear f5); have K := K2; clear K2; (try have a0 := K.out.rd 0 rfl); (try have l0 := K.out.ltp 0 rfl); (try have f0 := K.out.fr 0 rfl); (try have a1 := K.out.rd 1 rfl); (try have l1 := K.out.ltp 1 rfl); (try have f1 := K.out.fr 1 rfl); (try have a2 := K.out.rd 2 rfl); (try have l2 := K.out.ltp 2 rfl); (try have f2 := K.out.fr 2 rfl); (try have a3 := K.out.rd 3 rfl); (try have l3 := K.out.ltp 3 rfl); (try have f3 := K.out.fr 3 rfl)))
                    refine shown hkC _ _ (by (try dsimp only); (exact sat.rd 2 (by repeat (with_reducible first | exact K.out | apply sat.alloc_any | apply sat.drew | apply sat.drewN)) rfl)) ?_; clear hkC kC hHeld; intro hHeld
                    (try simp only [Act.put, p0, p1, p2])
                    refine wpAnyH_ready (rs := [10]) (by kernel_rfl) (by simp) ?_
                    refine AllReadyH.cons (o := _) rfl (fun kC hkC => ?_) AllReadyH.nil
                    go_simp
                    (first | (go_at_call 22; (with_reducible refine (GQ _ _ (show sat E _ _ from by first | exact K.out | exact K.out.drew)).out.mono ?_); rintro e w1 ⟨rfl, rfl⟩) | (go_at_call 23; (with_reducible refine (VA _ _ (show sat E _ _ from by first | exact K.out | exact K.out.drew)).out.mono ?_); rintro e w1 ⟨rfl, rfl⟩) | (go_at_call 24; (with_reducible refine (PE _ _ ((show sat E _ _ from by first | exact K.out | exact K.out.drew).pick 1 rfl)).out.mono ?_); rintro e w1 ⟨rfl, rfl⟩) | (go_at_call 25; (with_reducible refine ((VC _).out).mono ?_); rintro e w1 ⟨rfl, hb⟩; have K1 := sat.grown (show sat _ _ _ from by first | exact K.out | exact K.out.drew) hb; clear hb; have K2 := Lib.hid K1; clear K1 K; (try clear a0); (try clear l0); (try clear f0); (try clear a1); (try clear l1); (try clear f1); (try clear a2); (try clear l2); (try clear f2); (try clear a3); (try clear l3); (try clear f3); (try clear a4); (try clear l4); (try clear f4); (try clear a5); (try clear l5); (try clear f5); have K := K2; clear K2; (try have a0 := K.out.rd 0 rfl); (try have l0 := K.out.ltp 0 rfl); (try have f0 := K.out.fr 0 rfl); (try have a1 := K.out.rd 1 rfl); (try have l1 := K.out.ltp 1 rfl); (try have f1 := K.out.fr 1 rfl); (try have a2 := K.out.rd 2 rfl); (try have l2 := K.out.ltp 2 rfl); (try have f2 := K.out.fr 2 rfl); (try have a3 := K.out.rd 3 rfl); (try have l3 := K.out.ltp 3 rfl); (try have f3 := K.out.fr 3 rfl)))
                    refine shown hkC _ _ (by (try dsimp only); (exact sat.rd 2 (by repeat (with_reducible first | exact K.out | apply sat.alloc_any | apply sat.drew | apply sat.drewN)) rfl)) ?_; clear hkC kC hHeld; intro hHeld
                    (try simp only [Act.put, p0, p1, p2])
                    refine tk 11 (some 100) ?_
                    (try simp only [Act.put, p0, p1, p2])
                    refine tk 12 (some 101) ?_
                    (try simp only [Act.put, p0, p1, p2])
                    refine wpAnyH_done (by kernel_rfl) (NoPanic.normal ?_) _
                    go_wp2
                    go_roundg gq0
                    case measure => omega
                    case rel => exact ⟨n + 1, a, len - 1, _, _, (R1 M).2, by have := HN.out; omega, by first | (simp; done) | (simp; exact w64 (by omega) (by omega)), rfl, by omega, by first | (intro h; omega) | exact fun _ => ⟨g, rfl, rfl⟩, HS.out, (show sat E _ _ from (by repeat (with_reducible first | exact K.out | apply sat.alloc_any | apply sat.drew | apply sat.drewN))).drop⟩
        · have d0 : decide (n < es.length) = false := by simpa using hlt
          clear hn
          go_wp2_with fail
          go_ret
          exact ⟨rfl, K.out.below⟩
theorem getRow_calls (W : World) (t : Int) (_ : (Lit.int .i64 t).wf = true) (s : Int) (_ : (Lit.int .i64 s).wf = true) (who : Int) (_ : (Lit.int .i64 who).wf = true) (a : Option Addr) (len cap : Nat) (rows : List (List Value)) (h : RowsAt W thingK a len cap rows) (a2 : Option Addr) (len2 cap2 : Nat) (rows2 : List (List Value)) (h2 : RowsAt W [FK.bool] a2 len2 cap2 rows2) :
    Calls Try.prog 3 #[.int .i64 t, .int .i64 s, .int .i64 who, .slice a len cap, .slice a2 len2 cap2] W fun e W' => e = .returned (.bool true) ∧ Below W.heap.size W W' := by
  obtain ⟨l, rfl, hwf, ho⟩ := oldT_of h
  obtain ⟨l2, rfl, ho2⟩ := oldB_of h2
  exact getRow_main t s who a l cap a2 l2 cap2 W hwf ho ho2
end Go.Proofs.Ytlnfbfnccefcnaa
