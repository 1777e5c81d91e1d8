/- What any yard tells may have been done so; no more calls are under way at one time than there are threads (HistYards answers true at every input). No condition beyond the row's own. -/
import Derived.Test.YtdjkblnocooldaaGreatBe
import Derived.Test.YtdjkblnocooldaaGreatBc
import Derived.Test.YtdjkblnocooldaaGreatBd
import Derived.Test.YtdjkblnocooldaaGreatBh
import Derived.Test.YtdjkblnocooldaaGreatBf
import Derived.Test.YtdjkblnocooldaaGreatBg
namespace Go.Proofs.YtdjkblnocooldaaGreat
open Go.RowKit Go.SepYtdjkblnocooldaaGreat
set_option linter.unusedSimpArgs false
set_option linter.unusedVariables false
set_option maxRecDepth 100000
set_option maxHeartbeats 4000000
theorem row_capY {E w : World} {L : List SA} {p : Option Addr} {m c e size n : Nat} {xs : List Value} (h : sat E w (rowA (.slice p m c) e size n xs :: L)) : n ≤ c := by
  obtain ⟨_, ⟨h0, h1, _⟩ | ⟨g, cap, cur, h0, h1, _⟩⟩ := h.row_open
  · simp at h0; omega
  · simp at h0; omega
theorem field_th (a b c d : Int) (w : World) : (Instr.field 26 (.agg #[.int .i64 a, .int .i64 b, .int .i64 c, .int .i64 d]) 0).run Tryz.prog w = .ok (.int .i64 a) w := by kernel_rfl
attribute [local go_sem] field_th
theorem oldD_rowY {E w : World} {L : List SA} {p : Option Addr} {n c t : Nat} {l : List DeedM} (h : sat E w (rowA (.slice p n c) t 11 l.length (l.flatMap DeedM.v) :: L)) : OldD w p l := oldS_row dv_len h
theorem deed_wf {y : YardM} (h : y.hinv) (hv : y.vinv) (hc : y.conf.th ≤ 64) (hm : y.moves ≤ 1000000) : ∀ d ∈ y.deeds, DeedM.wf d := by
  intro d hd
  obtain ⟨i, hi⟩ := List.mem_iff_getElem?.1 hd
  obtain ⟨a1, a2, a3, a4, a5, a6⟩ := h.each i d hi
  have hs : -1 ≤ d.stop ∧ d.stop < y.moves ∨ d.stop = -1 := by rcases a6 with ⟨q, _⟩ | ⟨q1, q2⟩ <;> omega
  have := h.m0
  exact ⟨by unfold w64P; omega, (hv.deeds d hd).1, by unfold w64P; omega, by unfold w64P; omega, (hv.deeds d hd).2⟩
theorem histYards_main (t s r : Int) (p : Option Addr) (l : List MoveM) (cap : Nat) (E : World) (hwf : ∀ v ∈ l, v.wf) (ho : OldS MoveM.v 7 E p l) :
    Calls Tryz.prog 8 #[.int .i64 t, .int .i64 s, .int .i64 r, .slice p l.length cap] E fun e w' => e = .returned (.bool true) ∧ Below E.heap.size E w' := by
  have K := Lib.hid (sat.start E)
  have HD := fun w => Lib.hid (head14_calls w)
  by_cases h300 : (l.length : Int) > 300
  · have c0 : decide ((l.length : Int) > 300) = true := by simpa using h300
    go_enter Tryz.func8, Tryz.ntmps8
    go_wp2_with (first | (go_at_call 42; (with_reducible refine ((HD _).out).mono ?_); rintro e w1 ⟨rfl, hb⟩; have K1 := sat.grown (by repeat (with_reducible first | exact K.out | apply sat.alloc_any | apply sat.drew | apply sat.drewN)) hb; clear hb; have K2 := Lib.hid K1; clear K1 K; (try clear a0); (try clear l0); (try clear a1); (try clear l1); (try clear a2); (try clear l2); have K := K2; clear K2))
    go_ret
    exact ⟨rfl, K.out.below⟩
  · have c0 : decide ((l.length : Int) > 300) = false := by simpa using h300
    have hl : l.length ≤ 300 := by omega
    have RN := fun w' (M : List SA) (h : sat E w' M) => Lib.hid (run14_calls t s r p l cap hl hwf ho h)
    have hc := confS_ok t s r 1
    have hO := run_okn hc l hwf l.length (by omega)
    rw [List.take_length] at hO
    have hI := (runsM_kept (confS t s r 1).th l (YardM.new_oinv hc) (YardM.new_hinv hc)).hinv
    have hV := runsM_vinv (confS t s r 1).th l (YardM.new_vinv (confS t s r 1)) (YardM.new_pinv hc) hwf
    generalize runsM (confS t s r 1).th (YardM.new (confS t s r 1)) l = Y at *
    have hd300 := hO.1.dl
    have hth := hc.th2
    rw [← hO.2] at hth
    have hwd := deed_wf hI hV hth (by have := hO.1.m1; omega)
    have DC := fun w' gy (M : List SA) (h : sat E w' (yardA gy Y :: M)) => Lib.hid (ydeeds_calls gy Y (by omega) h)
    have CC := fun w' gy (M : List SA) (h : sat E w' (yardA gy Y :: M)) => Lib.hid (yconf_calls gy Y h)
    have HR := fun p1 k1 w' (M : List SA) (h : sat E w' (rowA (.slice p1 Y.deeds.length k1) 47 11 Y.deeds.length (Y.deeds.flatMap DeedM.v) :: M)) => Lib.hid (hright_calls p1 Y.deeds k1 w' (by omega) hwd (oldD_rowY h))
    have LR := fun p1 k1 w' (M : List SA) (hk : Y.deeds.length ≤ k1) (h : sat E w' (rowA (.slice p1 Y.deeds.length k1) 47 11 Y.deeds.length (Y.deeds.flatMap DeedM.v) :: M)) => Lib.hid (lright_calls p1 Y.deeds k1 w' (by omega) hk hwd (oldD_rowY h))
    have MS := fun p1 k1 w' (M : List SA) (h : sat E w' (rowA (.slice p1 Y.deeds.length k1) 47 11 Y.deeds.length (Y.deeds.flatMap DeedM.v) :: M)) => Lib.hid (most_calls p1 Y.deeds k1 w' (by omega) (oldD_rowY h))
    have OV := fun p1 k1 w' (M : List SA) (h : sat E w' (rowA (.slice p1 Y.deeds.length k1) 47 11 Y.deeds.length (Y.deeds.flatMap DeedM.v) :: M)) => Lib.hid (over_calls p1 Y.deeds k1 w' (by omega) (oldD_rowY h))
    rw [hinv_right hI] at HR
    rw [hinv_lright hI] at LR
    have e1 : decide (mostM Y.deeds Y.deeds ≤ Y.conf.th) = true := by simpa using hinv_most hI
    have hfl := most_filter overD Y.deeds
    have e2 : decide (mostM (Y.deeds.filter overD) (Y.deeds.filter overD) ≤ mostM Y.deeds Y.deeds) = true := by simpa using hfl
    have hfn : (Y.deeds.filter overD).length ≤ 1000000 := by have := List.length_filter_le overD Y.deeds; omega
    have HF := Lib.hid (And.intro hfl hfn)
    clear hwf ho hO hI hV hc hwd hfl hfn
    go_enter Tryz.func8, Tryz.ntmps8
    go_wp2_with (first | (go_at_call 42; (with_reducible refine ((HD _).out).mono ?_); rintro e w1 ⟨rfl, hb⟩; have K1 := sat.grown (by repeat (with_reducible first | exact K.out | apply sat.alloc_any | apply sat.drew | apply sat.drewN)) hb; clear hb; have K2 := Lib.hid K1; clear K1 K; (try clear a0); (try clear l0); (try clear a1); (try clear l1); (try clear a2); (try clear l2); have K := K2; clear K2) | (go_at_call 43; (with_reducible refine ((RN _ _ (show sat E _ _ from by iterate 6 (try (with_reducible first | exact K.out | apply sat.alloc_any | apply sat.drew | apply sat.drewN)))).out).mono ?_); rintro e w1 ⟨gy, rfl, K1⟩; have K2 := Lib.hid K1; clear K1 K; (try clear a0); (try clear l0); (try clear a1); (try clear l1); (try clear a2); (try clear l2); have K := K2; clear K2) | ((go_at_call 19; (with_reducible refine ((DC _ _ _ (show sat E _ _ from by iterate 6 (try (with_reducible first | exact K.out | apply sat.alloc_any | apply sat.drew | apply sat.drewN)))).out).mono ?_); rintro e w1 ⟨p1, k1, rfl, K1⟩; have K2 := Lib.hid K1; clear K1 K; (try clear a0); (try clear l0); (try clear a1); (try clear l1); (try clear a2); (try clear l2); have K := K2; clear K2); have hcp : Y.deeds.length ≤ k1 := row_capY K.out) | (go_at_call 44; (with_reducible refine ((HR p1 k1 _ _ (show sat E _ _ from by iterate 6 (try (with_reducible first | exact K.out | apply sat.alloc_any | apply sat.drew | apply sat.drewN)))).out).mono ?_); rintro e w1 ⟨rfl, hb⟩; have K1 := sat.grown (by repeat (with_reducible first | exact K.out | apply sat.alloc_any | apply sat.drew | apply sat.drewN)) hb; clear hb; have K2 := Lib.hid K1; clear K1 K; (try clear a0); (try clear l0); (try clear a1); (try clear l1); (try clear a2); (try clear l2); have K := K2; clear K2) | (go_at_call 45; (with_reducible refine ((LR p1 k1 _ _ hcp (show sat E _ _ from by iterate 6 (try (with_reducible first | exact K.out | apply sat.alloc_any | apply sat.drew | apply sat.drewN)))).out).mono ?_); rintro e w1 ⟨rfl, hb⟩; have K1 := sat.grown (by repeat (with_reducible first | exact K.out | apply sat.alloc_any | apply sat.drew | apply sat.drewN)) hb; clear hb; have K2 := Lib.hid K1; clear K1 K; (try clear a0); (try clear l0); (try clear a1); (try clear l1); (try clear a2); (try clear l2); have K := K2; clear K2) | (go_at_call 47; (with_reducible refine ((OV p1 k1 _ _ K.out).out).mono ?_); rintro e w1 ⟨fl, p2, c2, rfl, hfl, hod, hb⟩; have K1 := sat.grown K.out hb; clear hb; have HOD := Lib.hid hod; clear hod; subst hfl; have K2 := Lib.hid K1; clear K1 K; (try clear a0); (try clear l0); (try clear a1); (try clear l1); (try clear a2); (try clear l2); have K := K2; clear K2) | (go_at_call 46; (with_reducible refine ((MS p1 k1 _ _ (show sat E _ _ from by iterate 6 (try (with_reducible first | exact K.out | apply sat.alloc_any | apply sat.drew | apply sat.drewN)))).out).mono ?_); rintro e w1 ⟨rfl, hb⟩; have K1 := sat.grown (by repeat (with_reducible first | exact K.out | apply sat.alloc_any | apply sat.drew | apply sat.drewN)) hb; clear hb; have K2 := Lib.hid K1; clear K1 K; (try clear a0); (try clear l0); (try clear a1); (try clear l1); (try clear a2); (try clear l2); have K := K2; clear K2) | (go_at_call 46; (with_reducible refine ((most_calls p2 (Y.deeds.filter overD) c2 _ HF.out.2 HOD.out)).mono ?_); rintro e w1 ⟨rfl, hb⟩; have K1 := sat.grown (by repeat (with_reducible first | exact K.out | apply sat.alloc_any | apply sat.drew | apply sat.drewN)) hb; clear hb; have K2 := Lib.hid K1; clear K1 K; (try clear a0); (try clear l0); (try clear a1); (try clear l1); (try clear a2); (try clear l2); have K := K2; clear K2) | (go_at_call 24; (with_reducible refine ((CC _ _ _ ((show sat E _ _ from by iterate 6 (try (with_reducible first | exact K.out | apply sat.alloc_any | apply sat.drew | apply sat.drewN))).pick 1 rfl)).out).mono ?_); rintro e w1 ⟨rfl, K1⟩; replace K1 := K1.pick 1 rfl; have K2 := Lib.hid K1; clear K1 K; (try clear a0); (try clear l0); (try clear a1); (try clear l1); (try clear a2); (try clear l2); have K := K2; clear K2))
    go_ret
    exact ⟨rfl, K.out.below⟩
theorem histYards_calls (W : World) (t : Int) (_ : (Lit.int .i64 t).wf = true) (s : Int) (_ : (Lit.int .i64 s).wf = true) (r : Int) (_ : (Lit.int .i64 r).wf = true) (a : Option Addr) (len cap : Nat) (rows : List (List Value)) (h : RowsAt W [.int .i64, .int .i64, .bool, .bool, .int .u64, .int .i64, .int .i64] a len cap rows) :
    Calls Tryz.prog 8 #[.int .i64 t, .int .i64 s, .int .i64 r, .slice a len cap] W fun e W' => e = .returned (.bool true) ∧ Below W.heap.size W W' := by
  obtain ⟨l, rfl, hwf, ho⟩ := oldM_of h
  exact histYards_main t s r a l cap W hwf ho
end Go.Proofs.YtdjkblnocooldaaGreat
