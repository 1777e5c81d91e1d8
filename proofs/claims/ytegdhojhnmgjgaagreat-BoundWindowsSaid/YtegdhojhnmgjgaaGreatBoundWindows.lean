/- Whoever steps, whatever they ask: calls come to their ends as often as the page says (BoundWindows answers true at every input). No condition beyond the row's own. -/
import Derived.Test.YtegdhojhnmgjgaaGreatBoundWork
namespace Go.Proofs.YtegdhojhnmgjgaaGreat
open Go.RowKit Go.SepYtegdhojhnmgjgaaGreat
set_option linter.unusedSimpArgs false
set_option linter.unusedVariables false
set_option maxRecDepth 100000
set_option maxHeartbeats 40000000
theorem ints_flat (l : List Int) : ints l = l.flatMap intV := by
  unfold ints
  induction l with
  | nil => rfl
  | cons a l ih => rw [List.map_cons, List.flatMap_cons, ih]; rfl
theorem boundWindows_main (t s r d : Int) (pa : Option Addr) (asks : List AskM) (ca : Nat) (pp : Option Addr) (picks : List Int) (cp : Nat) (E : World) (hwf : ∀ a ∈ asks, a.wf) (hoa : OldS AskM.v 4 E pa asks) (hop : OldS intV 1 E pp picks) :
    Calls Tryz.prog 6 #[.int .i64 t, .int .i64 s, .int .i64 r, .int .i64 d, .slice pa asks.length ca, .slice pp picks.length cp] E fun e w' => e = .returned (.bool true) ∧ Below E.heap.size E w' := by
  have K := Lib.hid (sat.start E)
  have HD := fun w => Lib.hid (head16_calls w)
  by_cases h20 : (asks.length : Int) > 20
  · have c0 : decide ((asks.length : Int) > 20) = true := by rw [decide_eq_true_eq]; exact h20
    have c1 : decide (20 < asks.length) = true := by rw [decide_eq_true_eq]; omega
    have c2 : 20 < asks.length := by omega
    go_enter Tryz.func6, Tryz.ntmps6
    go_wp2_with (first | (go_at_call 36; (with_reducible refine ((HD _).out).mono ?_); rintro e w1 ⟨rfl, hb⟩; have K1 := sat.grown (by repeat (with_reducible first | exact K.out | apply sat.alloc_any | apply sat.drew | apply sat.drewN)) hb; clear hb; have K2 := Lib.hid K1; clear K1 K; (try clear a0); (try clear l0); (try clear a1); (try clear l1); (try clear a2); (try clear l2); have K := K2; clear K2))
    go_ret
    exact ⟨rfl, K.out.below⟩
  · have c0 : decide ((asks.length : Int) > 20) = false := by rw [decide_eq_false_iff_not]; exact h20
    have c1 : decide (20 < asks.length) = false := by rw [decide_eq_false_iff_not]; omega
    have c2 : ¬ 20 < asks.length := by omega
    by_cases h60 : (picks.length : Int) > 60
    · have c3 : decide ((picks.length : Int) > 60) = true := by rw [decide_eq_true_eq]; exact h60
      have c4 : decide (60 < picks.length) = true := by rw [decide_eq_true_eq]; omega
      have c5 : 60 < picks.length := by omega
      go_enter Tryz.func6, Tryz.ntmps6
      go_wp2_with (first | (go_at_call 36; (with_reducible refine ((HD _).out).mono ?_); rintro e w1 ⟨rfl, hb⟩; have K1 := sat.grown (by repeat (with_reducible first | exact K.out | apply sat.alloc_any | apply sat.drew | apply sat.drewN)) hb; clear hb; have K2 := Lib.hid K1; clear K1 K; (try clear a0); (try clear l0); (try clear a1); (try clear l1); (try clear a2); (try clear l2); have K := K2; clear K2))
      go_ret
      exact ⟨rfl, K.out.below⟩
    · have c3 : decide ((picks.length : Int) > 60) = false := by rw [decide_eq_false_iff_not]; exact h60
      have c4 : decide (60 < picks.length) = false := by rw [decide_eq_false_iff_not]; omega
      have c5 : ¬ 60 < picks.length := by omega
      have hs1 := and1 s
      have CF := fun w => Lib.hid (conf_calls t (s % 2) r d w)
      have hc := confS_ok t (s % 2) r d
      generalize confS t (s % 2) r d = c at *
      have WK := fun w' (M : List SA) (h : sat E w' M) => Lib.hid (work_calls c hc pa asks ca pp picks cp (by omega) (by omega) hwf hoa hop h)
      have WI := fun w => Lib.hid (window_calls c hc w)
      have GP := fun (p : Option Addr) (l : List Int) (k : Nat) (hb : ∀ x ∈ l, 0 ≤ x ∧ x ≤ 100000) (hl : l.length ≤ 900) w' (M : List SA) (h : sat E w' (rowA (.slice p l.length k) 3 1 l.length (ints l) :: M)) => Lib.hid (gaps_calls p l k 900 (by omega) hb (by omega) w' (oldS_row (V := intV) (fun _ => rfl) (show sat E w' (rowA (.slice p l.length k) 3 1 l.length (l.flatMap intV) :: M) from by rw [show l.flatMap intV = ints l from ints_flat l |>.symm]; exact h)))
      clear hwf hoa hop hc h20 h60
      go_enter Tryz.func6, Tryz.ntmps6
      go_wp2_with (first | (go_at_call 36; (with_reducible refine ((HD _).out).mono ?_); rintro e w1 ⟨rfl, hb⟩; have K1 := sat.grown (by repeat (with_reducible first | exact K.out | apply sat.alloc_any | apply sat.drew | apply sat.drewN)) hb; clear hb; have K2 := Lib.hid K1; clear K1 K; (try clear a0); (try clear l0); (try clear a1); (try clear l1); (try clear a2); (try clear l2); have K := K2; clear K2) | (go_at_call 10; (with_reducible refine ((CF _).out).mono ?_); rintro e w1 ⟨rfl, hb⟩; have K1 := sat.grown (by repeat (with_reducible first | exact K.out | apply sat.alloc_any | apply sat.drew | apply sat.drewN)) hb; clear hb; have K2 := Lib.hid K1; clear K1 K; (try clear a0); (try clear l0); (try clear a1); (try clear l1); (try clear a2); (try clear l2); have K := K2; clear K2) | ((with_reducible refine at_alloc ?_); refine st_allocf K.out (fun _ => rfl) ?_; intro gc w1 K1; have K2 := Lib.hid K1; clear K1 K; (try clear a0); (try clear l0); (try clear a1); (try clear l1); (try clear a2); (try clear l2); have K := K2; clear K2; have a0 := K.out.rd 0 rfl; have l0 := K.out.ltp 0 rfl) | ((with_reducible refine at_store ?_); refine st_store 0 K.out rfl rfl rfl rfl ?_ ?_ ?_ ?_; (· kernel_rfl); (· simp); (· simp [Value.oneCell']); intro w1 K1; simp only [List.set, putL] at K1; have K2 := Lib.hid K1; clear K1 K; (try clear a0); (try clear l0); (try clear a1); (try clear l1); (try clear a2); (try clear l2); have K := K2; clear K2; have a0 := K.out.rd 0 rfl; have l0 := K.out.ltp 0 rfl) | ((go_at_call 37; (with_reducible refine ((WK _ _ (show sat E _ _ from by iterate 6 (try (with_reducible first | exact K.out | apply sat.alloc_any | apply sat.drew | apply sat.drewN)))).out).mono ?_); rintro e w1 ⟨gy, p1, k1, ends, Y, rfl, hg, he, hl, K1⟩; have K2 := Lib.hid K1; clear K1 K; (try clear a0); (try clear l0); (try clear a1); (try clear l1); (try clear a2); (try clear l2); have K := K2; clear K2; have a2 := K.out.rd 2 rfl; have l2 := K.out.ltp 2 rfl); have GP1 := fun w' (M : List SA) h => GP p1 ends k1 he hl w' M h))
      generalize gapsM ends 900 = gm at *
      generalize windowM c = wm at *
      have cl : decide (gm ≤ wm) = true := by simpa using hg
      refine wp_region_noPanic ?_
      refine wp_region_held_drew (S := (fun w' => (∀ j, w'.cell? ⟨gc, j, none⟩ = ([.int .i64 c.th, .int .i64 c.sl, .int .i64 c.src, .int .i64 c.dl] : List Value)[j]?))) (by kernel_rfl) ?_ (fun hHeld => ?_)
      · ((try dsimp only); (exact sat.rd 2 (by repeat (with_reducible first | exact K.out | apply sat.alloc_any | apply sat.drew | apply sat.drewN)) rfl))
      refine tk 0 (some 39) ?_
      (try simp only [Act.put, p0, p1, p2])
      refine tk 1 (some 40) ?_
      (try simp only [Act.put, p0, p1, p2])
      refine tk 2 (some 41) ?_
      (try simp only [Act.put, p0, p1, p2])
      refine tk 3 (some 42) ?_
      (try simp only [Act.put, p0, p1, p2])
      refine tk 5 (some 44) ?_
      (try simp only [Act.put, p0, p1, p2])
      refine wpAnyH_ready (rs := [4]) (by kernel_rfl) (by simp) ?_
      refine AllReadyH.cons (o := _) rfl (fun kC hkC => ?_) AllReadyH.nil
      go_simp
      (first | (go_at_call 38; (with_reducible refine (GP1 _ _ (show sat E _ _ from by iterate 4 (try (with_reducible first | exact K.out | apply sat.drew)))).out.mono ?_); rintro e w1 ⟨rfl, hb⟩; have K1 := sat.grown (show sat E _ _ from by iterate 4 (try (with_reducible first | exact K.out | apply sat.drew))) hb; clear hb; have K2 := Lib.hid K1; clear K1 K; (try clear a0); (try clear l0); (try clear f0); (try clear a1); (try clear l1); (try clear f1); (try clear a2); (try clear l2); (try clear f2); (try clear a3); (try clear l3); (try clear f3); (try clear a4); (try clear l4); (try clear f4); (try clear a5); (try clear l5); (try clear f5); have K := K2; clear K2; (try have a0 := K.out.rd 0 rfl); (try have l0 := K.out.ltp 0 rfl); (try have f0 := K.out.fr 0 rfl); (try have a1 := K.out.rd 1 rfl); (try have l1 := K.out.ltp 1 rfl); (try have f1 := K.out.fr 1 rfl); (try have a2 := K.out.rd 2 rfl); (try have l2 := K.out.ltp 2 rfl); (try have f2 := K.out.fr 2 rfl); (try have a3 := K.out.rd 3 rfl); (try have l3 := K.out.ltp 3 rfl); (try have f3 := K.out.fr 3 rfl)) | (go_at_call 39; (with_reducible refine ((WI _).out).mono ?_); rintro e w1 ⟨rfl, hb⟩; have K1 := sat.grown (show sat _ _ _ from by iterate 4 (try (with_reducible first | exact K.out | apply sat.drew))) hb; clear hb; have K2 := Lib.hid K1; clear K1 K; (try clear a0); (try clear l0); (try clear f0); (try clear a1); (try clear l1); (try clear f1); (try clear a2); (try clear l2); (try clear f2); (try clear a3); (try clear l3); (try clear f3); (try clear a4); (try clear l4); (try clear f4); (try clear a5); (try clear l5); (try clear f5); have K := K2; clear K2; (try have a0 := K.out.rd 0 rfl); (try have l0 := K.out.ltp 0 rfl); (try have f0 := K.out.fr 0 rfl); (try have a1 := K.out.rd 1 rfl); (try have l1 := K.out.ltp 1 rfl); (try have f1 := K.out.fr 1 rfl); (try have a2 := K.out.rd 2 rfl); (try have l2 := K.out.ltp 2 rfl); (try have f2 := K.out.fr 2 rfl); (try have a3 := K.out.rd 3 rfl); (try have l3 := K.out.ltp 3 rfl); (try have f3 := K.out.fr 3 rfl)))
      refine shown hkC _ _ (by (try dsimp only); (exact sat.rd 2 (by repeat (with_reducible first | exact K.out | apply sat.alloc_any | apply sat.drew | apply sat.drewN)) rfl)) ?_; clear hkC kC hHeld; intro hHeld
      (try simp only [Act.put, p0, p1, p2])
      refine wpAnyH_ready (rs := [6]) (by kernel_rfl) (by simp) ?_
      refine AllReadyH.cons (o := _) rfl (fun kC hkC => ?_) AllReadyH.nil
      go_simp
      (first | (go_at_call 38; (with_reducible refine (GP1 _ _ (show sat E _ _ from by iterate 4 (try (with_reducible first | exact K.out | apply sat.drew)))).out.mono ?_); rintro e w1 ⟨rfl, hb⟩; have K1 := sat.grown (show sat E _ _ from by iterate 4 (try (with_reducible first | exact K.out | apply sat.drew))) hb; clear hb; have K2 := Lib.hid K1; clear K1 K; (try clear a0); (try clear l0); (try clear f0); (try clear a1); (try clear l1); (try clear f1); (try clear a2); (try clear l2); (try clear f2); (try clear a3); (try clear l3); (try clear f3); (try clear a4); (try clear l4); (try clear f4); (try clear a5); (try clear l5); (try clear f5); have K := K2; clear K2; (try have a0 := K.out.rd 0 rfl); (try have l0 := K.out.ltp 0 rfl); (try have f0 := K.out.fr 0 rfl); (try have a1 := K.out.rd 1 rfl); (try have l1 := K.out.ltp 1 rfl); (try have f1 := K.out.fr 1 rfl); (try have a2 := K.out.rd 2 rfl); (try have l2 := K.out.ltp 2 rfl); (try have f2 := K.out.fr 2 rfl); (try have a3 := K.out.rd 3 rfl); (try have l3 := K.out.ltp 3 rfl); (try have f3 := K.out.fr 3 rfl)) | (go_at_call 39; (with_reducible refine ((WI _).out).mono ?_); rintro e w1 ⟨rfl, hb⟩; have K1 := sat.grown (show sat _ _ _ from by iterate 4 (try (with_reducible first | exact K.out | apply sat.drew))) hb; clear hb; have K2 := Lib.hid K1; clear K1 K; (try clear a0); (try clear l0); (try clear f0); (try clear a1); (try clear l1); (try clear f1); (try clear a2); (try clear l2); (try clear f2); (try clear a3); (try clear l3); (try clear f3); (try clear a4); (try clear l4); (try clear f4); (try clear a5); (try clear l5); (try clear f5); have K := K2; clear K2; (try have a0 := K.out.rd 0 rfl); (try have l0 := K.out.ltp 0 rfl); (try have f0 := K.out.fr 0 rfl); (try have a1 := K.out.rd 1 rfl); (try have l1 := K.out.ltp 1 rfl); (try have f1 := K.out.fr 1 rfl); (try have a2 := K.out.rd 2 rfl); (try have l2 := K.out.ltp 2 rfl); (try have f2 := K.out.fr 2 rfl); (try have a3 := K.out.rd 3 rfl); (try have l3 := K.out.ltp 3 rfl); (try have f3 := K.out.fr 3 rfl)))
      refine shown hkC _ _ (by (try dsimp only); (exact sat.rd 2 (by repeat (with_reducible first | exact K.out | apply sat.alloc_any | apply sat.drew | apply sat.drewN)) rfl)) ?_; clear hkC kC hHeld; intro hHeld
      (try simp only [Act.put, p0, p1, p2])
      refine tk 7 (some 46) ?_
      (try simp only [Act.put, p0, p1, p2])
      refine tk 8 (some 47) ?_
      (try simp only [Act.put, p0, p1, p2])
      refine tk 9 (some 12) ?_
      (try simp only [Act.put, p0, p1, p2])
      refine wpAnyH_done (by kernel_rfl) (NoPanic.normal ?_) _
      all_goals
        go_wp2
        go_ret
        exact ⟨rfl, (show sat E _ _ from (by repeat (with_reducible first | exact K.out | apply sat.alloc_any | apply sat.drew | apply sat.drewN))).below⟩
theorem oldA_of {W : World} {a : Option Addr} {len cap : Nat} {rows : List (List Value)} (h : RowsAt W [.bool, .bool, .int .u64, .int .i64] a len cap rows) : ∃ l : List AskM, l.length = len ∧ (∀ e ∈ l, e.wf) ∧ OldS AskM.v 4 W a l := by
  exact oldS_of AskM.v AskM.wf h (fun r hr => by
    obtain ⟨b0, v0, rfl, k0⟩ := okAll_bool hr
    obtain ⟨b1, v1, rfl, k1⟩ := okAll_bool k0
    obtain ⟨n2, v2, rfl, h2, k2⟩ := okAll_int k1
    obtain ⟨n3, v3, rfl, h3, k3⟩ := okAll_int k2
    obtain rfl := okAll_nil k3
    exact ⟨⟨b0, b1, n2, n3⟩, rfl, lit_u64 h2⟩) (fun v => ⟨_, rfl⟩)
theorem oldI_of {W : World} {a : Option Addr} {len cap : Nat} {rows : List (List Value)} (h : RowsAt W [.int .i64] a len cap rows) : ∃ l : List Int, l.length = len ∧ OldS intV 1 W a l := by
  obtain ⟨l, h1, _, h3⟩ := oldS_of intV (fun _ => True) h (fun r hr => by
    obtain ⟨n0, v0, rfl, h0, k0⟩ := okAll_int hr
    obtain rfl := okAll_nil k0
    exact ⟨n0, rfl, trivial⟩) (fun v => ⟨_, rfl⟩)
  exact ⟨l, h1, h3⟩
theorem boundWindows_calls (W : World) (t : Int) (_ : (Lit.int .i64 t).wf = true) (s : Int) (_ : (Lit.int .i64 s).wf = true) (r : Int) (_ : (Lit.int .i64 r).wf = true) (d : Int) (_ : (Lit.int .i64 d).wf = true) (a : Option Addr) (len cap : Nat) (rows : List (List Value)) (h : RowsAt W [.bool, .bool, .int .u64, .int .i64] a len cap rows) (a2 : Option Addr) (len2 cap2 : Nat) (rows2 : List (List Value)) (h2 : RowsAt W [.int .i64] a2 len2 cap2 rows2) :
    Calls Tryz.prog 6 #[.int .i64 t, .int .i64 s, .int .i64 r, .int .i64 d, .slice a len cap, .slice a2 len2 cap2] W fun e W' => e = .returned (.bool true) ∧ Below W.heap.size W W' := by
  obtain ⟨l, rfl, hwf, ho⟩ := oldA_of h
  obtain ⟨l2, rfl, ho2⟩ := oldI_of h2
  exact boundWindows_main t s r d a l cap a2 l2 cap2 W hwf ho ho2
end Go.Proofs.YtegdhojhnmgjgaaGreat
