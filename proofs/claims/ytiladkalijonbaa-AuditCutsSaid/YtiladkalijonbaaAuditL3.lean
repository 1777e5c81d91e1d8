/- Whether an event may be behind others, as the statement itself reckons it (stackyardlaw17.may). Conditions: a Right layout; the events lie in memory as told; numbers within their kinds. -/
import Derived.Test.YtiladkalijonbaaAuditL
namespace Go.Proofs.Ytiladkalijonbaa
open Go.RowKit Go.SepYtiladkalijonbaa Go.Maps
set_option linter.unusedSimpArgs false
set_option linter.unusedVariables false
set_option maxRecDepth 100000
set_option maxHeartbeats 4000000
section
variable {E w : World} {L : List SA}
theorem lmay_hazard (c : ConfM) (hc : c.ok) (p : Option Addr) (l : List Ev) (cap : Nat) (e : Ev) (w : World) (hl : l.length ≤ 1000000) (hwf : ∀ e ∈ l, Ev.wf e) (he : Ev.wf e) (h : OldE w p l) (h0 : 0 ≤ e.who) (h1 : e.who < c.th) (h2 : 0 ≤ e.cell) (h3 : e.cell < c.cells) (h4 : e.old = lastM l e.cell) (hkc : 2 * c.all ≤ e.cell) (hkd : e.cell < 2 * c.all + c.th) :
    Tells 26 #[.agg #[.int .i64 c.th, .int .i64 c.sl, .int .i64 c.src, .int .i64 c.dl], .slice p l.length cap, .agg e.v.toArray] w (.bool (e.op == 0 || (e.op == 1 && e.who == e.cell - 2 * c.all))) := by
  have K := Lib.hid (sat.start w)
  have CN := fun w' => Lib.hid (cellsn_calls c w' hc)
  have AL := fun w' => Lib.hid (all_calls c w' hc)
  have HB := Lib.hid h
  have LA := fun w' x (hb : Below w.heap.size w w') => Lib.hid (last_calls p l cap x w' hl (h.grown hb))
  have hal := hc.all_bd
  have hth1 := hc.th1
  have hth2 := hc.th2
  have hsl := hc.sl1
  have hcl : c.cells = 2 * c.all + 2 * c.th := rfl
  have hcell : e.cell ≤ 8400 := by omega
  have w6 : wrap64 (2 * c.all) = 2 * c.all := w64 (by omega) (by omega)
  have t6 : decide (e.cell < c.all) = false := by simp; omega
  have t7 : decide (e.cell < 2 * c.all) = false := by simp; omega
  have t8 : decide (e.cell < 2 * c.all + c.th) = true := by simpa using hkd
  have t5 : (e.old != lastM l e.cell) = false := by simp [h4]
  have t1 : decide (e.who < 0) = false := by simp; omega
  have t2 : decide (e.who ≥ c.th) = false := by simp; omega
  have t3 : decide (e.cell < 0) = false := by simp; omega
  have t4 : decide (e.cell ≥ c.cells) = false := by simp; omega
  clear h hwf he hcl hc hl h4 hkd h3 h0 h1
  go_enter Try.func26, Try.ntmps26
  go_wp2_with (first | (have _hp := gc; ((with_reducible refine at_box ?_); refine st_boxf K.out rfl rfl (fun _ => rfl) ?_; intro ge w1 K1; have K2 := Lib.hid K1; clear K1 K; (try clear a0); (try clear l0); (try clear a1); (try clear l1); (try clear a2); (try clear l2); have K := K2; clear K2; have a0 := K.out.rd 0 rfl; have l0 := K.out.ltp 0 rfl; have a1 := K.out.rd 1 rfl; have l1 := K.out.ltp 1 rfl)) | ((with_reducible refine at_box ?_); refine st_boxf K.out rfl rfl (fun _ => rfl) ?_; intro gc w1 K1; have K2 := Lib.hid K1; clear K1 K; (try clear a0); (try clear l0); (try clear a1); (try clear l1); (try clear a2); (try clear l2); have K := K2; clear K2; have a0 := K.out.rd 0 rfl; have l0 := K.out.ltp 0 rfl))
  refine wp_region_noPanic ?_
  refine wp_region_held_drew (S := (fun w' => (∀ j, w'.cell? ⟨ge, j, none⟩ = e.v[j]?) ∧ (∀ j, w'.cell? ⟨gc, j, none⟩ = [Value.int .i64 c.th, .int .i64 c.sl, .int .i64 c.src, .int .i64 c.dl][j]?))) (by kernel_rfl) ?_ (fun hHeld => ?_)
  · ((try dsimp only); (refine lawS (E := w) (M := []) ?_; first | exact K.out | exact K.out.drew))
  refine tk 0 (some 21) ?_
  (try simp only [Act.put, p0, p1, p2])
  refine tk 1 (some 22) ?_
  (try simp only [Act.put, p0, p1, p2])
  refine tk 2 (some 23) ?_
  (try simp only [Act.put, p0, p1, p2])
  refine tk 3 (some 24) ?_
  (try simp only [Act.put, p0, p1, p2])
  refine tk 4 (some 25) ?_
  (try simp only [Act.put, p0, p1, p2])
  refine tk 5 (some 26) ?_
  (try simp only [Act.put, p0, p1, p2])
  refine tk 6 (some 27) ?_
  (try simp only [Act.put, p0, p1, p2])
  refine tk 7 (some 28) ?_
  (try simp only [Act.put, p0, p1, p2])
  refine tk 8 (some 29) ?_
  (try simp only [Act.put, p0, p1, p2])
  refine tk 9 (some 30) ?_
  (try simp only [Act.put, p0, p1, p2])
  refine tk 10 (some 31) ?_
  (try simp only [Act.put, p0, p1, p2])
  refine tk 11 (some 32) ?_
  (try simp only [Act.put, p0, p1, p2])
  refine tk 12 (some 33) ?_
  (try simp only [Act.put, p0, p1, p2])
  refine tk 13 (some 34) ?_
  (try simp only [Act.put, p0, p1, p2])
  refine tk 14 (some 35) ?_
  (try simp only [Act.put, p0, p1, p2])
  refine tk 15 (some 36) ?_
  (try simp only [Act.put, p0, p1, p2])
  refine tk 16 (some 37) ?_
  (try simp only [Act.put, p0, p1, p2])
  refine tk 17 (some 38) ?_
  (try simp only [Act.put, p0, p1, p2])
  refine tk 18 (some 39) ?_
  (try simp only [Act.put, p0, p1, p2])
  refine wpAnyH_ready (rs := [19]) (by kernel_rfl) (by simp) ?_
  refine AllReadyH.cons (o := _) rfl (fun kC hkC => ?_) AllReadyH.nil
  go_simp
  (first | (go_at_call 34; (with_reducible refine ((CN _).out).mono ?_); rintro e w1 ⟨rfl, hb⟩; have K1 := sat.grown (show sat _ _ _ from by first | exact K.out | exact K.out.drew) hb; clear hb; have K2 := Lib.hid K1; clear K1 K; (try clear a0); (try clear l0); (try clear f0); (try clear a1); (try clear l1); (try clear f1); (try clear a2); (try clear l2); (try clear f2); (try clear a3); (try clear l3); (try clear f3); (try clear a4); (try clear l4); (try clear f4); (try clear a5); (try clear l5); (try clear f5); have K := K2; clear K2; (try have a0 := K.out.rd 0 rfl); (try have l0 := K.out.ltp 0 rfl); (try have f0 := K.out.fr 0 rfl); (try have a1 := K.out.rd 1 rfl); (try have l1 := K.out.ltp 1 rfl); (try have f1 := K.out.fr 1 rfl); (try have a2 := K.out.rd 2 rfl); (try have l2 := K.out.ltp 2 rfl); (try have f2 := K.out.fr 2 rfl); (try have a3 := K.out.rd 3 rfl); (try have l3 := K.out.ltp 3 rfl); (try have f3 := K.out.fr 3 rfl)) | (go_at_call 35; (with_reducible refine ((LA _ _ K.out.below).out).mono ?_); rintro e w1 ⟨rfl, hb⟩; have K1 := sat.grown (show sat _ _ _ from by first | exact K.out | exact K.out.drew) hb; clear hb; have K2 := Lib.hid K1; clear K1 K; (try clear a0); (try clear l0); (try clear f0); (try clear a1); (try clear l1); (try clear f1); (try clear a2); (try clear l2); (try clear f2); (try clear a3); (try clear l3); (try clear f3); (try clear a4); (try clear l4); (try clear f4); (try clear a5); (try clear l5); (try clear f5); have K := K2; clear K2; (try have a0 := K.out.rd 0 rfl); (try have l0 := K.out.ltp 0 rfl); (try have f0 := K.out.fr 0 rfl); (try have a1 := K.out.rd 1 rfl); (try have l1 := K.out.ltp 1 rfl); (try have f1 := K.out.fr 1 rfl); (try have a2 := K.out.rd 2 rfl); (try have l2 := K.out.ltp 2 rfl); (try have f2 := K.out.fr 2 rfl); (try have a3 := K.out.rd 3 rfl); (try have l3 := K.out.ltp 3 rfl); (try have f3 := K.out.fr 3 rfl)) | (go_at_call 35; (with_reducible refine ((LA _ _ K.out.drew.below).out).mono ?_); rintro e w1 ⟨rfl, hb⟩; have K1 := sat.grown (show sat _ _ _ from by first | exact K.out | exact K.out.drew) hb; clear hb; have K2 := Lib.hid K1; clear K1 K; (try clear a0); (try clear l0); (try clear f0); (try clear a1); (try clear l1); (try clear f1); (try clear a2); (try clear l2); (try clear f2); (try clear a3); (try clear l3); (try clear f3); (try clear a4); (try clear l4); (try clear f4); (try clear a5); (try clear l5); (try clear f5); have K := K2; clear K2; (try have a0 := K.out.rd 0 rfl); (try have l0 := K.out.ltp 0 rfl); (try have f0 := K.out.fr 0 rfl); (try have a1 := K.out.rd 1 rfl); (try have l1 := K.out.ltp 1 rfl); (try have f1 := K.out.fr 1 rfl); (try have a2 := K.out.rd 2 rfl); (try have l2 := K.out.ltp 2 rfl); (try have f2 := K.out.fr 2 rfl); (try have a3 := K.out.rd 3 rfl); (try have l3 := K.out.ltp 3 rfl); (try have f3 := K.out.fr 3 rfl)))
  refine shown hkC _ _ (by (try dsimp only); (refine lawS (E := w) (M := []) ?_; first | exact K.out | exact K.out.drew)) ?_; clear hkC kC hHeld; intro hHeld
  (try simp only [Act.put, p0, p1, p2])
  refine tk 20 (some 41) ?_
  (try simp only [Act.put, p0, p1, p2])
  refine tk 21 (some 42) ?_
  (try simp only [Act.put, p0, p1, p2])
  refine tk 22 (some 43) ?_
  (try simp only [Act.put, p0, p1, p2])
  refine tk 23 (some 44) ?_
  (try simp only [Act.put, p0, p1, p2])
  refine tk 24 (some 45) ?_
  (try simp only [Act.put, p0, p1, p2])
  refine tk 25 (some 46) ?_
  (try simp only [Act.put, p0, p1, p2])
  refine tk 26 (some 47) ?_
  (try simp only [Act.put, p0, p1, p2])
  refine tk 27 (some 48) ?_
  (try simp only [Act.put, p0, p1, p2])
  refine wpAnyH_ready (rs := [28]) (by kernel_rfl) (by simp) ?_
  refine AllReadyH.cons (o := _) rfl (fun kC hkC => ?_) AllReadyH.nil
  go_simp
  (first | (go_at_call 34; (with_reducible refine ((CN _).out).mono ?_); rintro e w1 ⟨rfl, hb⟩; have K1 := sat.grown (show sat _ _ _ from by first | exact K.out | exact K.out.drew) hb; clear hb; have K2 := Lib.hid K1; clear K1 K; (try clear a0); (try clear l0); (try clear f0); (try clear a1); (try clear l1); (try clear f1); (try clear a2); (try clear l2); (try clear f2); (try clear a3); (try clear l3); (try clear f3); (try clear a4); (try clear l4); (try clear f4); (try clear a5); (try clear l5); (try clear f5); have K := K2; clear K2; (try have a0 := K.out.rd 0 rfl); (try have l0 := K.out.ltp 0 rfl); (try have f0 := K.out.fr 0 rfl); (try have a1 := K.out.rd 1 rfl); (try have l1 := K.out.ltp 1 rfl); (try have f1 := K.out.fr 1 rfl); (try have a2 := K.out.rd 2 rfl); (try have l2 := K.out.ltp 2 rfl); (try have f2 := K.out.fr 2 rfl); (try have a3 := K.out.rd 3 rfl); (try have l3 := K.out.ltp 3 rfl); (try have f3 := K.out.fr 3 rfl)) | (go_at_call 35; (with_reducible refine ((LA _ _ K.out.below).out).mono ?_); rintro e w1 ⟨rfl, hb⟩; have K1 := sat.grown (show sat _ _ _ from by first | exact K.out | exact K.out.drew) hb; clear hb; have K2 := Lib.hid K1; clear K1 K; (try clear a0); (try clear l0); (try clear f0); (try clear a1); (try clear l1); (try clear f1); (try clear a2); (try clear l2); (try clear f2); (try clear a3); (try clear l3); (try clear f3); (try clear a4); (try clear l4); (try clear f4); (try clear a5); (try clear l5); (try clear f5); have K := K2; clear K2; (try have a0 := K.out.rd 0 rfl); (try have l0 := K.out.ltp 0 rfl); (try have f0 := K.out.fr 0 rfl); (try have a1 := K.out.rd 1 rfl); (try have l1 := K.out.ltp 1 rfl); (try have f1 := K.out.fr 1 rfl); (try have a2 := K.out.rd 2 rfl); (try have l2 := K.out.ltp 2 rfl); (try have f2 := K.out.fr 2 rfl); (try have a3 := K.out.rd 3 rfl); (try have l3 := K.out.ltp 3 rfl); (try have f3 := K.out.fr 3 rfl)) | (go_at_call 35; (with_reducible refine ((LA _ _ K.out.drew.below).out).mono ?_); rintro e w1 ⟨rfl, hb⟩; have K1 := sat.grown (show sat _ _ _ from by first | exact K.out | exact K.out.drew) hb; clear hb; have K2 := Lib.hid K1; clear K1 K; (try clear a0); (try clear l0); (try clear f0); (try clear a1); (try clear l1); (try clear f1); (try clear a2); (try clear l2); (try clear f2); (try clear a3); (try clear l3); (try clear f3); (try clear a4); (try clear l4); (try clear f4); (try clear a5); (try clear l5); (try clear f5); have K := K2; clear K2; (try have a0 := K.out.rd 0 rfl); (try have l0 := K.out.ltp 0 rfl); (try have f0 := K.out.fr 0 rfl); (try have a1 := K.out.rd 1 rfl); (try have l1 := K.out.ltp 1 rfl); (try have f1 := K.out.fr 1 rfl); (try have a2 := K.out.rd 2 rfl); (try have l2 := K.out.ltp 2 rfl); (try have f2 := K.out.fr 2 rfl); (try have a3 := K.out.rd 3 rfl); (try have l3 := K.out.ltp 3 rfl); (try have f3 := K.out.fr 3 rfl)))
  refine shown hkC _ _ (by (try dsimp only); (refine lawS (E := w) (M := []) ?_; first | exact K.out | exact K.out.drew)) ?_; clear hkC kC hHeld; intro hHeld
  (try simp only [Act.put, p0, p1, p2])
  refine tk 29 (some 50) ?_
  (try simp only [Act.put, p0, p1, p2])
  refine tk 30 (some 51) ?_
  (try simp only [Act.put, p0, p1, p2])
  refine wpAnyH_done (by kernel_rfl) (NoPanic.normal ?_) _
  (have K1 : sat w _ _ := (by first | exact K.out | exact K.out.drew); clear K; (try clear a0); (try clear l0); (try clear a1); (try clear l1); have K := Lib.hid K1; clear K1)
  have a0 := K.out.rd 0 rfl
  have l0 := K.out.ltp 0 rfl
  have a1 := K.out.rd 1 rfl
  have l1 := K.out.ltp 1 rfl
  go_wp2_with (first | (go_at_call 36; (with_reducible refine ((AL _).out).mono ?_); rintro e w1 ⟨rfl, hb⟩; have K1 := sat.grown (by repeat (with_reducible first | exact K.out | apply sat.alloc_any | apply sat.drew | apply sat.drewN)) hb; clear hb; have K2 := Lib.hid K1; clear K1 K; (try clear a0); (try clear l0); (try clear a1); (try clear l1); (try clear a2); (try clear l2); have K := K2; clear K2; have a0 := K.out.rd 0 rfl; have l0 := K.out.ltp 0 rfl; have a1 := K.out.rd 1 rfl; have l1 := K.out.ltp 1 rfl))
  all_goals (go_ret; exact ⟨ret_b (by simp_all), (show sat w _ _ from by first | exact K.out | exact K.out.drew).below⟩)
theorem lmay_number0 (c : ConfM) (hc : c.ok) (p : Option Addr) (l : List Ev) (cap : Nat) (e : Ev) (w : World) (hl : l.length ≤ 1000000) (hwf : ∀ e ∈ l, Ev.wf e) (he : Ev.wf e) (h : OldE w p l) (h0 : 0 ≤ e.who) (h1 : e.who < c.th) (h2 : 0 ≤ e.cell) (h3 : e.cell < c.cells) (h4 : e.old = lastM l e.cell) (hkc : 2 * c.all + c.th ≤ e.cell) (hs : c.src = 0) :
    Tells 26 #[.agg #[.int .i64 c.th, .int .i64 c.sl, .int .i64 c.src, .int .i64 c.dl], .slice p l.length cap, .agg e.v.toArray] w (.bool (numberB c e (e.cell - 2 * c.all - c.th))) := by
  have K := Lib.hid (sat.start w)
  have CN := fun w' => Lib.hid (cellsn_calls c w' hc)
  have AL := fun w' => Lib.hid (all_calls c w' hc)
  have HB := Lib.hid h
  have LA := fun w' x (hb : Below w.heap.size w w') => Lib.hid (last_calls p l cap x w' hl (h.grown hb))
  have hal := hc.all_bd
  have hth1 := hc.th1
  have hth2 := hc.th2
  have hsl := hc.sl1
  have hcl : c.cells = 2 * c.all + 2 * c.th := rfl
  have hcell : e.cell ≤ 8400 := by omega
  have w6 : wrap64 (2 * c.all) = 2 * c.all := w64 (by omega) (by omega)
  have t6 : decide (e.cell < c.all) = false := by simp; omega
  have t7 : decide (e.cell < 2 * c.all) = false := by simp; omega
  unfold numberB
  have t8 : decide (e.cell < 2 * c.all + c.th) = false := by simp; omega
  have hw1 : IntKind.u64.wrap (e.old + 1) = u64M (e.old + 1) := by rw [IntKind.wrap_u64]; rfl
  have hw2 : (e.old + 1) % 18446744073709551616 = u64M (e.old + 1) := rfl
  generalize u64M (e.old + 1) = nx at *
  have s0 : (c.src == 0) = true := by simp [hs]
  rw [if_pos hs]
  clear hs
  have t5 : (e.old != lastM l e.cell) = false := by simp [h4]
  have t1 : decide (e.who < 0) = false := by simp; omega
  have t2 : decide (e.who ≥ c.th) = false := by simp; omega
  have t3 : decide (e.cell < 0) = false := by simp; omega
  have t4 : decide (e.cell ≥ c.cells) = false := by simp; omega
  clear h hwf he hcl hc hl h4 hkc h3 h0 h1
  go_enter Try.func26, Try.ntmps26
  go_wp2_with (first | (have _hp := gc; ((with_reducible refine at_box ?_); refine st_boxf K.out rfl rfl (fun _ => rfl) ?_; intro ge w1 K1; have K2 := Lib.hid K1; clear K1 K; (try clear a0); (try clear l0); (try clear a1); (try clear l1); (try clear a2); (try clear l2); have K := K2; clear K2; have a0 := K.out.rd 0 rfl; have l0 := K.out.ltp 0 rfl; have a1 := K.out.rd 1 rfl; have l1 := K.out.ltp 1 rfl)) | ((with_reducible refine at_box ?_); refine st_boxf K.out rfl rfl (fun _ => rfl) ?_; intro gc w1 K1; have K2 := Lib.hid K1; clear K1 K; (try clear a0); (try clear l0); (try clear a1); (try clear l1); (try clear a2); (try clear l2); have K := K2; clear K2; have a0 := K.out.rd 0 rfl; have l0 := K.out.ltp 0 rfl))
  refine wp_region_noPanic ?_
  refine wp_region_held_drew (S := (fun w' => (∀ j, w'.cell? ⟨ge, j, none⟩ = e.v[j]?) ∧ (∀ j, w'.cell? ⟨gc, j, none⟩ = [Value.int .i64 c.th, .int .i64 c.sl, .int .i64 c.src, .int .i64 c.dl][j]?))) (by kernel_rfl) ?_ (fun hHeld => ?_)
  · ((try dsimp only); (refine lawS (E := w) (M := []) ?_; first | exact K.out | exact K.out.drew))
  refine tk 0 (some 21) ?_
  (try simp only [Act.put, p0, p1, p2])
  refine tk 1 (some 22) ?_
  (try simp only [Act.put, p0, p1, p2])
  refine tk 2 (some 23) ?_
  (try simp only [Act.put, p0, p1, p2])
  refine tk 3 (some 24) ?_
  (try simp only [Act.put, p0, p1, p2])
  refine tk 4 (some 25) ?_
  (try simp only [Act.put, p0, p1, p2])
  refine tk 5 (some 26) ?_
  (try simp only [Act.put, p0, p1, p2])
  refine tk 6 (some 27) ?_
  (try simp only [Act.put, p0, p1, p2])
  refine tk 7 (some 28) ?_
  (try simp only [Act.put, p0, p1, p2])
  refine tk 8 (some 29) ?_
  (try simp only [Act.put, p0, p1, p2])
  refine tk 9 (some 30) ?_
  (try simp only [Act.put, p0, p1, p2])
  refine tk 10 (some 31) ?_
  (try simp only [Act.put, p0, p1, p2])
  refine tk 11 (some 32) ?_
  (try simp only [Act.put, p0, p1, p2])
  refine tk 12 (some 33) ?_
  (try simp only [Act.put, p0, p1, p2])
  refine tk 13 (some 34) ?_
  (try simp only [Act.put, p0, p1, p2])
  refine tk 14 (some 35) ?_
  (try simp only [Act.put, p0, p1, p2])
  refine tk 15 (some 36) ?_
  (try simp only [Act.put, p0, p1, p2])
  refine tk 16 (some 37) ?_
  (try simp only [Act.put, p0, p1, p2])
  refine tk 17 (some 38) ?_
  (try simp only [Act.put, p0, p1, p2])
  refine tk 18 (some 39) ?_
  (try simp only [Act.put, p0, p1, p2])
  refine wpAnyH_ready (rs := [19]) (by kernel_rfl) (by simp) ?_
  refine AllReadyH.cons (o := _) rfl (fun kC hkC => ?_) AllReadyH.nil
  go_simp
  (first | (go_at_call 34; (with_reducible refine ((CN _).out).mono ?_); rintro e w1 ⟨rfl, hb⟩; have K1 := sat.grown (show sat _ _ _ from by first | exact K.out | exact K.out.drew) hb; clear hb; have K2 := Lib.hid K1; clear K1 K; (try clear a0); (try clear l0); (try clear f0); (try clear a1); (try clear l1); (try clear f1); (try clear a2); (try clear l2); (try clear f2); (try clear a3); (try clear l3); (try clear f3); (try clear a4); (try clear l4); (try clear f4); (try clear a5); (try clear l5); (try clear f5); have K := K2; clear K2; (try have a0 := K.out.rd 0 rfl); (try have l0 := K.out.ltp 0 rfl); (try have f0 := K.out.fr 0 rfl); (try have a1 := K.out.rd 1 rfl); (try have l1 := K.out.ltp 1 rfl); (try have f1 := K.out.fr 1 rfl); (try have a2 := K.out.rd 2 rfl); (try have l2 := K.out.ltp 2 rfl); (try have f2 := K.out.fr 2 rfl); (try have a3 := K.out.rd 3 rfl); (try have l3 := K.out.ltp 3 rfl); (try have f3 := K.out.fr 3 rfl)) | (go_at_call 35; (with_reducible refine ((LA _ _ K.out.below).out).mono ?_); rintro e w1 ⟨rfl, hb⟩; have K1 := sat.grown (show sat _ _ _ from by first | exact K.out | exact K.out.drew) hb; clear hb; have K2 := Lib.hid K1; clear K1 K; (try clear a0); (try clear l0); (try clear f0); (try clear a1); (try clear l1); (try clear f1); (try clear a2); (try clear l2); (try clear f2); (try clear a3); (try clear l3); (try clear f3); (try clear a4); (try clear l4); (try clear f4); (try clear a5); (try clear l5); (try clear f5); have K := K2; clear K2; (try have a0 := K.out.rd 0 rfl); (try have l0 := K.out.ltp 0 rfl); (try have f0 := K.out.fr 0 rfl); (try have a1 := K.out.rd 1 rfl); (try have l1 := K.out.ltp 1 rfl); (try have f1 := K.out.fr 1 rfl); (try have a2 := K.out.rd 2 rfl); (try have l2 := K.out.ltp 2 rfl); (try have f2 := K.out.fr 2 rfl); (try have a3 := K.out.rd 3 rfl); (try have l3 := K.out.ltp 3 rfl); (try have f3 := K.out.fr 3 rfl)) | (go_at_call 35; (with_reducible refine ((LA _ _ K.out.drew.below).out).mono ?_); rintro e w1 ⟨rfl, hb⟩; have K1 := sat.grown (show sat _ _ _ from by first | exact K.out | exact K.out.drew) hb; clear hb; have K2 := Lib.hid K1; clear K1 K; (try clear a0); (try clear l0); (try clear f0); (try clear a1); (try clear l1); (try clear f1); (try clear a2); (try clear l2); (try clear f2); (try clear a3); (try clear l3); (try clear f3); (try clear a4); (try clear l4); (try clear f4); (try clear a5); (try clear l5); (try clear f5); have K := K2; clear K2; (try have a0 := K.out.rd 0 rfl); (try have l0 := K.out.ltp 0 rfl); (try have f0 := K.out.fr 0 rfl); (try have a1 := K.out.rd 1 rfl); (try have l1 := K.out.ltp 1 rfl); (try have f1 := K.out.fr 1 rfl); (try have a2 := K.out.rd 2 rfl); (try have l2 := K.out.ltp 2 rfl); (try have f2 := K.out.fr 2 rfl); (try have a3 := K.out.rd 3 rfl); (try have l3 := K.out.ltp 3 rfl); (try have f3 := K.out.fr 3 rfl)))
  refine shown hkC _ _ (by (try dsimp only); (refine lawS (E := w) (M := []) ?_; first | exact K.out | exact K.out.drew)) ?_; clear hkC kC hHeld; intro hHeld
  (try simp only [Act.put, p0, p1, p2])
  refine tk 20 (some 41) ?_
  (try simp only [Act.put, p0, p1, p2])
  refine tk 21 (some 42) ?_
  (try simp only [Act.put, p0, p1, p2])
  refine tk 22 (some 43) ?_
  (try simp only [Act.put, p0, p1, p2])
  refine tk 23 (some 44) ?_
  (try simp only [Act.put, p0, p1, p2])
  refine tk 24 (some 45) ?_
  (try simp only [Act.put, p0, p1, p2])
  refine tk 25 (some 46) ?_
  (try simp only [Act.put, p0, p1, p2])
  refine tk 26 (some 47) ?_
  (try simp only [Act.put, p0, p1, p2])
  refine tk 27 (some 48) ?_
  (try simp only [Act.put, p0, p1, p2])
  refine wpAnyH_ready (rs := [28]) (by kernel_rfl) (by simp) ?_
  refine AllReadyH.cons (o := _) rfl (fun kC hkC => ?_) AllReadyH.nil
  go_simp
  (first | (go_at_call 34; (with_reducible refine ((CN _).out).mono ?_); rintro e w1 ⟨rfl, hb⟩; have K1 := sat.grown (show sat _ _ _ from by first | exact K.out | exact K.out.drew) hb; clear hb; have K2 := Lib.hid K1; clear K1 K; (try clear a0); (try clear l0); (try clear f0); (try clear a1); (try clear l1); (try clear f1); (try clear a2); (try clear l2); (try clear f2); (try clear a3); (try clear l3); (try clear f3); (try clear a4); (try clear l4); (try clear f4); (try clear a5); (try clear l5); (try clear f5); have K := K2; clear K2; (try have a0 := K.out.rd 0 rfl); (try have l0 := K.out.ltp 0 rfl); (try have f0 := K.out.fr 0 rfl); (try have a1 := K.out.rd 1 rfl); (try have l1 := K.out.ltp 1 rfl); (try have f1 := K.out.fr 1 rfl); (try have a2 := K.out.rd 2 rfl); (try have l2 := K.out.ltp 2 rfl); (try have f2 := K.out.fr 2 rfl); (try have a3 := K.out.rd 3 rfl); (try have l3 := K.out.ltp 3 rfl); (try have f3 := K.out.fr 3 rfl)) | (go_at_call 35; (with_reducible refine ((LA _ _ K.out.below).out).mono ?_); rintro e w1 ⟨rfl, hb⟩; have K1 := sat.grown (show sat _ _ _ from by first | exact K.out | exact K.out.drew) hb; clear hb; have K2 := Lib.hid K1; clear K1 K; (try clear a0); (try clear l0); (try clear f0); (try clear a1); (try clear l1); (try clear f1); (try clear a2); (try clear l2); (try clear f2); (try clear a3); (try clear l3); (try clear f3); (try clear a4); (try clear l4); (try clear f4); (try clear a5); (try clear l5); (try clear f5); have K := K2; clear K2; (try have a0 := K.out.rd 0 rfl); (try have l0 := K.out.ltp 0 rfl); (try have f0 := K.out.fr 0 rfl); (try have a1 := K.out.rd 1 rfl); (try have l1 := K.out.ltp 1 rfl); (try have f1 := K.out.fr 1 rfl); (try have a2 := K.out.rd 2 rfl); (try have l2 := K.out.ltp 2 rfl); (try have f2 := K.out.fr 2 rfl); (try have a3 := K.out.rd 3 rfl); (try have l3 := K.out.ltp 3 rfl); (try have f3 := K.out.fr 3 rfl)) | (go_at_call 35; (with_reducible refine ((LA _ _ K.out.drew.below).out).mono ?_); rintro e w1 ⟨rfl, hb⟩; have K1 := sat.grown (show sat _ _ _ from by first | exact K.out | exact K.out.drew) hb; clear hb; have K2 := Lib.hid K1; clear K1 K; (try clear a0); (try clear l0); (try clear f0); (try clear a1); (try clear l1); (try clear f1); (try clear a2); (try clear l2); (try clear f2); (try clear a3); (try clear l3); (try clear f3); (try clear a4); (try clear l4); (try clear f4); (try clear a5); (try clear l5); (try clear f5); have K := K2; clear K2; (try have a0 := K.out.rd 0 rfl); (try have l0 := K.out.ltp 0 rfl); (try have f0 := K.out.fr 0 rfl); (try have a1 := K.out.rd 1 rfl); (try have l1 := K.out.ltp 1 rfl); (try have f1 := K.out.fr 1 rfl); (try have a2 := K.out.rd 2 rfl); (try have l2 := K.out.ltp 2 rfl); (try have f2 := K.out.fr 2 rfl); (try have a3 := K.out.rd 3 rfl); (try have l3 := K.out.ltp 3 rfl); (try have f3 := K.out.fr 3 rfl)))
  refine shown hkC _ _ (by (try dsimp only); (refine lawS (E := w) (M := []) ?_; first | exact K.out | exact K.out.drew)) ?_; clear hkC kC hHeld; intro hHeld
  (try simp only [Act.put, p0, p1, p2])
  refine tk 29 (some 50) ?_
  (try simp only [Act.put, p0, p1, p2])
  refine tk 30 (some 51) ?_
  (try simp only [Act.put, p0, p1, p2])
  refine wpAnyH_done (by kernel_rfl) (NoPanic.normal ?_) _
  (have K1 : sat w _ _ := (by first | exact K.out | exact K.out.drew); clear K; (try clear a0); (try clear l0); (try clear a1); (try clear l1); have K := Lib.hid K1; clear K1)
  have a0 := K.out.rd 0 rfl
  have l0 := K.out.ltp 0 rfl
  have a1 := K.out.rd 1 rfl
  have l1 := K.out.ltp 1 rfl
  go_wp2_with (first | (go_at_call 36; (with_reducible refine ((AL _).out).mono ?_); rintro e w1 ⟨rfl, hb⟩; have K1 := sat.grown (by repeat (with_reducible first | exact K.out | apply sat.alloc_any | apply sat.drew | apply sat.drewN)) hb; clear hb; have K2 := Lib.hid K1; clear K1 K; (try clear a0); (try clear l0); (try clear a1); (try clear l1); (try clear a2); (try clear l2); have K := K2; clear K2; have a0 := K.out.rd 0 rfl; have l0 := K.out.ltp 0 rfl; have a1 := K.out.rd 1 rfl; have l1 := K.out.ltp 1 rfl))
  all_goals (go_ret; exact ⟨ret_b (by simp_all), (show sat w _ _ from by first | exact K.out | exact K.out.drew).below⟩)
theorem lmay_number1 (c : ConfM) (hc : c.ok) (p : Option Addr) (l : List Ev) (cap : Nat) (e : Ev) (w : World) (hl : l.length ≤ 1000000) (hwf : ∀ e ∈ l, Ev.wf e) (he : Ev.wf e) (h : OldE w p l) (h0 : 0 ≤ e.who) (h1 : e.who < c.th) (h2 : 0 ≤ e.cell) (h3 : e.cell < c.cells) (h4 : e.old = lastM l e.cell) (hkc : 2 * c.all + c.th ≤ e.cell) (hs : c.src = 1) :
    Tells 26 #[.agg #[.int .i64 c.th, .int .i64 c.sl, .int .i64 c.src, .int .i64 c.dl], .slice p l.length cap, .agg e.v.toArray] w (.bool (numberB c e (e.cell - 2 * c.all - c.th))) := by
  have K := Lib.hid (sat.start w)
  have CN := fun w' => Lib.hid (cellsn_calls c w' hc)
  have AL := fun w' => Lib.hid (all_calls c w' hc)
  have HB := Lib.hid h
  have LA := fun w' x (hb : Below w.heap.size w w') => Lib.hid (last_calls p l cap x w' hl (h.grown hb))
  have hal := hc.all_bd
  have hth1 := hc.th1
  have hth2 := hc.th2
  have hsl := hc.sl1
  have hcl : c.cells = 2 * c.all + 2 * c.th := rfl
  have hcell : e.cell ≤ 8400 := by omega
  have w6 : wrap64 (2 * c.all) = 2 * c.all := w64 (by omega) (by omega)
  have t6 : decide (e.cell < c.all) = false := by simp; omega
  have t7 : decide (e.cell < 2 * c.all) = false := by simp; omega
  unfold numberB
  have t8 : decide (e.cell < 2 * c.all + c.th) = false := by simp; omega
  have hw1 : IntKind.u64.wrap (e.old + 1) = u64M (e.old + 1) := by rw [IntKind.wrap_u64]; rfl
  have hw2 : (e.old + 1) % 18446744073709551616 = u64M (e.old + 1) := rfl
  generalize u64M (e.old + 1) = nx at *
  have s0 : (c.src == 0) = false := by simp [hs]
  have s1 : (c.src == 1) = true := by simp [hs]
  rw [if_neg (by omega), if_pos hs]
  clear hs
  have t5 : (e.old != lastM l e.cell) = false := by simp [h4]
  have t1 : decide (e.who < 0) = false := by simp; omega
  have t2 : decide (e.who ≥ c.th) = false := by simp; omega
  have t3 : decide (e.cell < 0) = false := by simp; omega
  have t4 : decide (e.cell ≥ c.cells) = false := by simp; omega
  clear h hwf he hcl hc hl h4 hkc h3 h0 h1
  go_enter Try.func26, Try.ntmps26
  go_wp2_with (first | (have _hp := gc; ((with_reducible refine at_box ?_); refine st_boxf K.out rfl rfl (fun _ => rfl) ?_; intro ge w1 K1; have K2 := Lib.hid K1; clear K1 K; (try clear a0); (try clear l0); (try clear a1); (try clear l1); (try clear a2); (try clear l2); have K := K2; clear K2; have a0 := K.out.rd 0 rfl; have l0 := K.out.ltp 0 rfl; have a1 := K.out.rd 1 rfl; have l1 := K.out.ltp 1 rfl)) | ((with_reducible refine at_box ?_); refine st_boxf K.out rfl rfl (fun _ => rfl) ?_; intro gc w1 K1; have K2 := Lib.hid K1; clear K1 K; (try clear a0); (try clear l0); (try clear a1); (try clear l1); (try clear a2); (try clear l2); have K := K2; clear K2; have a0 := K.out.rd 0 rfl; have l0 := K.out.ltp 0 rfl))
  refine wp_region_noPanic ?_
  refine wp_region_held_drew (S := (fun w' => (∀ j, w'.cell? ⟨ge, j, none⟩ = e.v[j]?) ∧ (∀ j, w'.cell? ⟨gc, j, none⟩ = [Value.int .i64 c.th, .int .i64 c.sl, .int .i64 c.src, .int .i64 c.dl][j]?))) (by kernel_rfl) ?_ (fun hHeld => ?_)
  · ((try dsimp only); (refine lawS (E := w) (M := []) ?_; first | exact K.out | exact K.out.drew))
  refine tk 0 (some 21) ?_
  (try simp only [Act.put, p0, p1, p2])
  refine tk 1 (some 22) ?_
  (try simp only [Act.put, p0, p1, p2])
  refine tk 2 (some 23) ?_
  (try simp only [Act.put, p0, p1, p2])
  refine tk 3 (some 24) ?_
  (try simp only [Act.put, p0, p1, p2])
  refine tk 4 (some 25) ?_
  (try simp only [Act.put, p0, p1, p2])
  refine tk 5 (some 26) ?_
  (try simp only [Act.put, p0, p1, p2])
  refine tk 6 (some 27) ?_
  (try simp only [Act.put, p0, p1, p2])
  refine tk 7 (some 28) ?_
  (try simp only [Act.put, p0, p1, p2])
  refine tk 8 (some 29) ?_
  (try simp only [Act.put, p0, p1, p2])
  refine tk 9 (some 30) ?_
  (try simp only [Act.put, p0, p1, p2])
  refine tk 10 (some 31) ?_
  (try simp only [Act.put, p0, p1, p2])
  refine tk 11 (some 32) ?_
  (try simp only [Act.put, p0, p1, p2])
  refine tk 12 (some 33) ?_
  (try simp only [Act.put, p0, p1, p2])
  refine tk 13 (some 34) ?_
  (try simp only [Act.put, p0, p1, p2])
  refine tk 14 (some 35) ?_
  (try simp only [Act.put, p0, p1, p2])
  refine tk 15 (some 36) ?_
  (try simp only [Act.put, p0, p1, p2])
  refine tk 16 (some 37) ?_
  (try simp only [Act.put, p0, p1, p2])
  refine tk 17 (some 38) ?_
  (try simp only [Act.put, p0, p1, p2])
  refine tk 18 (some 39) ?_
  (try simp only [Act.put, p0, p1, p2])
  refine wpAnyH_ready (rs := [19]) (by kernel_rfl) (by simp) ?_
  refine AllReadyH.cons (o := _) rfl (fun kC hkC => ?_) AllReadyH.nil
  go_simp
  (first | (go_at_call 34; (with_reducible refine ((CN _).out).mono ?_); rintro e w1 ⟨rfl, hb⟩; have K1 := sat.grown (show sat _ _ _ from by first | exact K.out | exact K.out.drew) hb; clear hb; have K2 := Lib.hid K1; clear K1 K; (try clear a0); (try clear l0); (try clear f0); (try clear a1); (try clear l1); (try clear f1); (try clear a2); (try clear l2); (try clear f2); (try clear a3); (try clear l3); (try clear f3); (try clear a4); (try clear l4); (try clear f4); (try clear a5); (try clear l5); (try clear f5); have K := K2; clear K2; (try have a0 := K.out.rd 0 rfl); (try have l0 := K.out.ltp 0 rfl); (try have f0 := K.out.fr 0 rfl); (try have a1 := K.out.rd 1 rfl); (try have l1 := K.out.ltp 1 rfl); (try have f1 := K.out.fr 1 rfl); (try have a2 := K.out.rd 2 rfl); (try have l2 := K.out.ltp 2 rfl); (try have f2 := K.out.fr 2 rfl); (try have a3 := K.out.rd 3 rfl); (try have l3 := K.out.ltp 3 rfl); (try have f3 := K.out.fr 3 rfl)) | (go_at_call 35; (with_reducible refine ((LA _ _ K.out.below).out).mono ?_); rintro e w1 ⟨rfl, hb⟩; have K1 := sat.grown (show sat _ _ _ from by first | exact K.out | exact K.out.drew) hb; clear hb; have K2 := Lib.hid K1; clear K1 K; (try clear a0); (try clear l0); (try clear f0); (try clear a1); (try clear l1); (try clear f1); (try clear a2); (try clear l2); (try clear f2); (try clear a3); (try clear l3); (try clear f3); (try clear a4); (try clear l4); (try clear f4); (try clear a5); (try clear l5); (try clear f5); have K := K2; clear K2; (try have a0 := K.out.rd 0 rfl); (try have l0 := K.out.ltp 0 rfl); (try have f0 := K.out.fr 0 rfl); (try have a1 := K.out.rd 1 rfl); (try have l1 := K.out.ltp 1 rfl); (try have f1 := K.out.fr 1 rfl); (try have a2 := K.out.rd 2 rfl); (try have l2 := K.out.ltp 2 rfl); (try have f2 := K.out.fr 2 rfl); (try have a3 := K.out.rd 3 rfl); (try have l3 := K.out.ltp 3 rfl); (try have f3 := K.out.fr 3 rfl)) | (go_at_call 35; (with_reducible refine ((LA _ _ K.out.drew.below).out).mono ?_); rintro e w1 ⟨rfl, hb⟩; have K1 := sat.grown (show sat _ _ _ from by first | exact K.out | exact K.out.drew) hb; clear hb; have K2 := Lib.hid K1; clear K1 K; (try clear a0); (try clear l0); (try clear f0); (try clear a1); (try clear l1); (try clear f1); (try clear a2); (try clear l2); (try clear f2); (try clear a3); (try clear l3); (try clear f3); (try clear a4); (try clear l4); (try clear f4); (try clear a5); (try clear l5); (try clear f5); have K := K2; clear K2; (try have a0 := K.out.rd 0 rfl); (try have l0 := K.out.ltp 0 rfl); (try have f0 := K.out.fr 0 rfl); (try have a1 := K.out.rd 1 rfl); (try have l1 := K.out.ltp 1 rfl); (try have f1 := K.out.fr 1 rfl); (try have a2 := K.out.rd 2 rfl); (try have l2 := K.out.ltp 2 rfl); (try have f2 := K.out.fr 2 rfl); (try have a3 := K.out.rd 3 rfl); (try have l3 := K.out.ltp 3 rfl); (try have f3 := K.out.fr 3 rfl)))
  refine shown hkC _ _ (by (try dsimp only); (refine lawS (E := w) (M := []) ?_; first | exact K.out | exact K.out.drew)) ?_; clear hkC kC hHeld; intro hHeld
  (try simp only [Act.put, p0, p1, p2])
  refine tk 20 (some 41) ?_
  (try simp only [Act.put, p0, p1, p2])
  refine tk 21 (some 42) ?_
  (try simp only [Act.put, p0, p1, p2])
  refine tk 22 (some 43) ?_
  (try simp only [Act.put, p0, p1, p2])
  refine tk 23 (some 44) ?_
  (try simp only [Act.put, p0, p1, p2])
  refine tk 24 (some 45) ?_
  (try simp only [Act.put, p0, p1, p2])
  refine tk 25 (some 46) ?_
  (try simp only [Act.put, p0, p1, p2])
  refine tk 26 (some 47) ?_
  (try simp only [Act.put, p0, p1, p2])
  refine tk 27 (some 48) ?_
  (try simp only [Act.put, p0, p1, p2])
  refine wpAnyH_ready (rs := [28]) (by kernel_rfl) (by simp) ?_
  refine AllReadyH.cons (o := _) rfl (fun kC hkC => ?_) AllReadyH.nil
  go_simp
  (first | (go_at_call 34; (with_reducible refine ((CN _).out).mono ?_); rintro e w1 ⟨rfl, hb⟩; have K1 := sat.grown (show sat _ _ _ from by first | exact K.out | exact K.out.drew) hb; clear hb; have K2 := Lib.hid K1; clear K1 K; (try clear a0); (try clear l0); (try clear f0); (try clear a1); (try clear l1); (try clear f1); (try clear a2); (try clear l2); (try clear f2); (try clear a3); (try clear l3); (try clear f3); (try clear a4); (try clear l4); (try clear f4); (try clear a5); (try clear l5); (try clear f5); have K := K2; clear K2; (try have a0 := K.out.rd 0 rfl); (try have l0 := K.out.ltp 0 rfl); (try have f0 := K.out.fr 0 rfl); (try have a1 := K.out.rd 1 rfl); (try have l1 := K.out.ltp 1 rfl); (try have f1 := K.out.fr 1 rfl); (try have a2 := K.out.rd 2 rfl); (try have l2 := K.out.ltp 2 rfl); (try have f2 := K.out.fr 2 rfl); (try have a3 := K.out.rd 3 rfl); (try have l3 := K.out.ltp 3 rfl); (try have f3 := K.out.fr 3 rfl)) | (go_at_call 35; (with_reducible refine ((LA _ _ K.out.below).out).mono ?_); rintro e w1 ⟨rfl, hb⟩; have K1 := sat.grown (show sat _ _ _ from by first | exact K.out | exact K.out.drew) hb; clear hb; have K2 := Lib.hid K1; clear K1 K; (try clear a0); (try clear l0); (try clear f0); (try clear a1); (try clear l1); (try clear f1); (try clear a2); (try clear l2); (try clear f2); (try clear a3); (try clear l3); (try clear f3); (try clear a4); (try clear l4); (try clear f4); (try clear a5); (try clear l5); (try clear f5); have K := K2; clear K2; (try have a0 := K.out.rd 0 rfl); (try have l0 := K.out.ltp 0 rfl); (try have f0 := K.out.fr 0 rfl); (try have a1 := K.out.rd 1 rfl); (try have l1 := K.out.ltp 1 rfl); (try have f1 := K.out.fr 1 rfl); (try have a2 := K.out.rd 2 rfl); (try have l2 := K.out.ltp 2 rfl); (try have f2 := K.out.fr 2 rfl); (try have a3 := K.out.rd 3 rfl); (try have l3 := K.out.ltp 3 rfl); (try have f3 := K.out.fr 3 rfl)) | (go_at_call 35; (with_reducible refine ((LA _ _ K.out.drew.below).out).mono ?_); rintro e w1 ⟨rfl, hb⟩; have K1 := sat.grown (show sat _ _ _ from by first | exact K.out | exact K.out.drew) hb; clear hb; have K2 := Lib.hid K1; clear K1 K; (try clear a0); (try clear l0); (try clear f0); (try clear a1); (try clear l1); (try clear f1); (try clear a2); (try clear l2); (try clear f2); (try clear a3); (try clear l3); (try clear f3); (try clear a4); (try clear l4); (try clear f4); (try clear a5); (try clear l5); (try clear f5); have K := K2; clear K2; (try have a0 := K.out.rd 0 rfl); (try have l0 := K.out.ltp 0 rfl); (try have f0 := K.out.fr 0 rfl); (try have a1 := K.out.rd 1 rfl); (try have l1 := K.out.ltp 1 rfl); (try have f1 := K.out.fr 1 rfl); (try have a2 := K.out.rd 2 rfl); (try have l2 := K.out.ltp 2 rfl); (try have f2 := K.out.fr 2 rfl); (try have a3 := K.out.rd 3 rfl); (try have l3 := K.out.ltp 3 rfl); (try have f3 := K.out.fr 3 rfl)))
  refine shown hkC _ _ (by (try dsimp only); (refine lawS (E := w) (M := []) ?_; first | exact K.out | exact K.out.drew)) ?_; clear hkC kC hHeld; intro hHeld
  (try simp only [Act.put, p0, p1, p2])
  refine tk 29 (some 50) ?_
  (try simp only [Act.put, p0, p1, p2])
  refine tk 30 (some 51) ?_
  (try simp only [Act.put, p0, p1, p2])
  refine wpAnyH_done (by kernel_rfl) (NoPanic.normal ?_) _
  (have K1 : sat w _ _ := (by first | exact K.out | exact K.out.drew); clear K; (try clear a0); (try clear l0); (try clear a1); (try clear l1); have K := Lib.hid K1; clear K1)
  have a0 := K.out.rd 0 rfl
  have l0 := K.out.ltp 0 rfl
  have a1 := K.out.rd 1 rfl
  have l1 := K.out.ltp 1 rfl
  go_wp2_with (first | (go_at_call 36; (with_reducible refine ((AL _).out).mono ?_); rintro e w1 ⟨rfl, hb⟩; have K1 := sat.grown (by repeat (with_reducible first | exact K.out | apply sat.alloc_any | apply sat.drew | apply sat.drewN)) hb; clear hb; have K2 := Lib.hid K1; clear K1 K; (try clear a0); (try clear l0); (try clear a1); (try clear l1); (try clear a2); (try clear l2); have K := K2; clear K2; have a0 := K.out.rd 0 rfl; have l0 := K.out.ltp 0 rfl; have a1 := K.out.rd 1 rfl; have l1 := K.out.ltp 1 rfl))
  all_goals (go_ret; exact ⟨ret_b (by simp_all), (show sat w _ _ from by first | exact K.out | exact K.out.drew).below⟩)
theorem lmay_number2 (c : ConfM) (hc : c.ok) (p : Option Addr) (l : List Ev) (cap : Nat) (e : Ev) (w : World) (hl : l.length ≤ 1000000) (hwf : ∀ e ∈ l, Ev.wf e) (he : Ev.wf e) (h : OldE w p l) (h0 : 0 ≤ e.who) (h1 : e.who < c.th) (h2 : 0 ≤ e.cell) (h3 : e.cell < c.cells) (h4 : e.old = lastM l e.cell) (hkc : 2 * c.all + c.th ≤ e.cell) (hs : c.src = 2) :
    Tells 26 #[.agg #[.int .i64 c.th, .int .i64 c.sl, .int .i64 c.src, .int .i64 c.dl], .slice p l.length cap, .agg e.v.toArray] w (.bool (numberB c e (e.cell - 2 * c.all - c.th))) := by
  have K := Lib.hid (sat.start w)
  have CN := fun w' => Lib.hid (cellsn_calls c w' hc)
  have AL := fun w' => Lib.hid (all_calls c w' hc)
  have HB := Lib.hid h
  have LA := fun w' x (hb : Below w.heap.size w w') => Lib.hid (last_calls p l cap x w' hl (h.grown hb))
  have hal := hc.all_bd
  have hth1 := hc.th1
  have hth2 := hc.th2
  have hsl := hc.sl1
  have hcl : c.cells = 2 * c.all + 2 * c.th := rfl
  have hcell : e.cell ≤ 8400 := by omega
  have w6 : wrap64 (2 * c.all) = 2 * c.all := w64 (by omega) (by omega)
  have t6 : decide (e.cell < c.all) = false := by simp; omega
  have t7 : decide (e.cell < 2 * c.all) = false := by simp; omega
  unfold numberB
  have t8 : decide (e.cell < 2 * c.all + c.th) = false := by simp; omega
  have hw1 : IntKind.u64.wrap (e.old + 1) = u64M (e.old + 1) := by rw [IntKind.wrap_u64]; rfl
  have hw2 : (e.old + 1) % 18446744073709551616 = u64M (e.old + 1) := rfl
  generalize u64M (e.old + 1) = nx at *
  have s0 : (c.src == 0) = false := by simp [hs]
  have s1 : (c.src == 1) = false := by simp [hs]
  have s2 : (c.src == 2) = true := by simp [hs]
  rw [if_neg (by omega), if_neg (by omega), if_pos hs]
  clear hs
  have t5 : (e.old != lastM l e.cell) = false := by simp [h4]
  have t1 : decide (e.who < 0) = false := by simp; omega
  have t2 : decide (e.who ≥ c.th) = false := by simp; omega
  have t3 : decide (e.cell < 0) = false := by simp; omega
  have t4 : decide (e.cell ≥ c.cells) = false := by simp; omega
  clear h hwf he hcl hc hl h4 hkc h3 h0 h1
  go_enter Try.func26, Try.ntmps26
  go_wp2_with (first | (have _hp := gc; ((with_reducible refine at_box ?_); refine st_boxf K.out rfl rfl (fun _ => rfl) ?_; intro ge w1 K1; have K2 := Lib.hid K1; clear K1 K; (try clear a0); (try clear l0); (try clear a1); (try clear l1); (try clear a2); (try clear l2); have K := K2; clear K2; have a0 := K.out.rd 0 rfl; have l0 := K.out.ltp 0 rfl; have a1 := K.out.rd 1 rfl; have l1 := K.out.ltp 1 rfl)) | ((with_reducible refine at_box ?_); refine st_boxf K.out rfl rfl (fun _ => rfl) ?_; intro gc w1 K1; have K2 := Lib.hid K1; clear K1 K; (try clear a0); (try clear l0); (try clear a1); (try clear l1); (try clear a2); (try clear l2); have K := K2; clear K2; have a0 := K.out.rd 0 rfl; have l0 := K.out.ltp 0 rfl))
  refine wp_region_noPanic ?_
  refine wp_region_held_drew (S := (fun w' => (∀ j, w'.cell? ⟨ge, j, none⟩ = e.v[j]?) ∧ (∀ j, w'.cell? ⟨gc, j, none⟩ = [Value.int .i64 c.th, .int .i64 c.sl, .int .i64 c.src, .int .i64 c.dl][j]?))) (by kernel_rfl) ?_ (fun hHeld => ?_)
  · ((try dsimp only); (refine lawS (E := w) (M := []) ?_; first | exact K.out | exact K.out.drew))
  refine tk 0 (some 21) ?_
  (try simp only [Act.put, p0, p1, p2])
  refine tk 1 (some 22) ?_
  (try simp only [Act.put, p0, p1, p2])
  refine tk 2 (some 23) ?_
  (try simp only [Act.put, p0, p1, p2])
  refine tk 3 (some 24) ?_
  (try simp only [Act.put, p0, p1, p2])
  refine tk 4 (some 25) ?_
  (try simp only [Act.put, p0, p1, p2])
  refine tk 5 (some 26) ?_
  (try simp only [Act.put, p0, p1, p2])
  refine tk 6 (some 27) ?_
  (try simp only [Act.put, p0, p1, p2])
  refine tk 7 (some 28) ?_
  (try simp only [Act.put, p0, p1, p2])
  refine tk 8 (some 29) ?_
  (try simp only [Act.put, p0, p1, p2])
  refine tk 9 (some 30) ?_
  (try simp only [Act.put, p0, p1, p2])
  refine tk 10 (some 31) ?_
  (try simp only [Act.put, p0, p1, p2])
  refine tk 11 (some 32) ?_
  (try simp only [Act.put, p0, p1, p2])
  refine tk 12 (some 33) ?_
  (try simp only [Act.put, p0, p1, p2])
  refine tk 13 (some 34) ?_
  (try simp only [Act.put, p0, p1, p2])
  refine tk 14 (some 35) ?_
  (try simp only [Act.put, p0, p1, p2])
  refine tk 15 (some 36) ?_
  (try simp only [Act.put, p0, p1, p2])
  refine tk 16 (some 37) ?_
  (try simp only [Act.put, p0, p1, p2])
  refine tk 17 (some 38) ?_
  (try simp only [Act.put, p0, p1, p2])
  refine tk 18 (some 39) ?_
  (try simp only [Act.put, p0, p1, p2])
  refine wpAnyH_ready (rs := [19]) (by kernel_rfl) (by simp) ?_
  refine AllReadyH.cons (o := _) rfl (fun kC hkC => ?_) AllReadyH.nil
  go_simp
  (first | (go_at_call 34; (with_reducible refine ((CN _).out).mono ?_); rintro e w1 ⟨rfl, hb⟩; have K1 := sat.grown (show sat _ _ _ from by first | exact K.out | exact K.out.drew) hb; clear hb; have K2 := Lib.hid K1; clear K1 K; (try clear a0); (try clear l0); (try clear f0); (try clear a1); (try clear l1); (try clear f1); (try clear a2); (try clear l2); (try clear f2); (try clear a3); (try clear l3); (try clear f3); (try clear a4); (try clear l4); (try clear f4); (try clear a5); (try clear l5); (try clear f5); have K := K2; clear K2; (try have a0 := K.out.rd 0 rfl); (try have l0 := K.out.ltp 0 rfl); (try have f0 := K.out.fr 0 rfl); (try have a1 := K.out.rd 1 rfl); (try have l1 := K.out.ltp 1 rfl); (try have f1 := K.out.fr 1 rfl); (try have a2 := K.out.rd 2 rfl); (try have l2 := K.out.ltp 2 rfl); (try have f2 := K.out.fr 2 rfl); (try have a3 := K.out.rd 3 rfl); (try have l3 := K.out.ltp 3 rfl); (try have f3 := K.out.fr 3 rfl)) | (go_at_call 35; (with_reducible refine ((LA _ _ K.out.below).out).mono ?_); rintro e w1 ⟨rfl, hb⟩; have K1 := sat.grown (show sat _ _ _ from by first | exact K.out | exact K.out.drew) hb; clear hb; have K2 := Lib.hid K1; clear K1 K; (try clear a0); (try clear l0); (try clear f0); (try clear a1); (try clear l1); (try clear f1); (try clear a2); (try clear l2); (try clear f2); (try clear a3); (try clear l3); (try clear f3); (try clear a4); (try clear l4); (try clear f4); (try clear a5); (try clear l5); (try clear f5); have K := K2; clear K2; (try have a0 := K.out.rd 0 rfl); (try have l0 := K.out.ltp 0 rfl); (try have f0 := K.out.fr 0 rfl); (try have a1 := K.out.rd 1 rfl); (try have l1 := K.out.ltp 1 rfl); (try have f1 := K.out.fr 1 rfl); (try have a2 := K.out.rd 2 rfl); (try have l2 := K.out.ltp 2 rfl); (try have f2 := K.out.fr 2 rfl); (try have a3 := K.out.rd 3 rfl); (try have l3 := K.out.ltp 3 rfl); (try have f3 := K.out.fr 3 rfl)) | (go_at_call 35; (with_reducible refine ((LA _ _ K.out.drew.below).out).mono ?_); rintro e w1 ⟨rfl, hb⟩; have K1 := sat.grown (show sat _ _ _ from by first | exact K.out | exact K.out.drew) hb; clear hb; have K2 := Lib.hid K1; clear K1 K; (try clear a0); (try clear l0); (try clear f0); (try clear a1); (try clear l1); (try clear f1); (try clear a2); (try clear l2); (try clear f2); (try clear a3); (try clear l3); (try clear f3); (try clear a4); (try clear l4); (try clear f4); (try clear a5); (try clear l5); (try clear f5); have K := K2; clear K2; (try have a0 := K.out.rd 0 rfl); (try have l0 := K.out.ltp 0 rfl); (try have f0 := K.out.fr 0 rfl); (try have a1 := K.out.rd 1 rfl); (try have l1 := K.out.ltp 1 rfl); (try have f1 := K.out.fr 1 rfl); (try have a2 := K.out.rd 2 rfl); (try have l2 := K.out.ltp 2 rfl); (try have f2 := K.out.fr 2 rfl); (try have a3 := K.out.rd 3 rfl); (try have l3 := K.out.ltp 3 rfl); (try have f3 := K.out.fr 3 rfl)))
  refine shown hkC _ _ (by (try dsimp only); (refine lawS (E := w) (M := []) ?_; first | exact K.out | exact K.out.drew)) ?_; clear hkC kC hHeld; intro hHeld
  (try simp only [Act.put, p0, p1, p2])
  refine tk 20 (some 41) ?_
  (try simp only [Act.put, p0, p1, p2])
  refine tk 21 (some 42) ?_
  (try simp only [Act.put, p0, p1, p2])
  refine tk 22 (some 43) ?_
  (try simp only [Act.put, p0, p1, p2])
  refine tk 23 (some 44) ?_
  (try simp only [Act.put, p0, p1, p2])
  refine tk 24 (some 45) ?_
  (try simp only [Act.put, p0, p1, p2])
  refine tk 25 (some 46) ?_
  (try simp only [Act.put, p0, p1, p2])
  refine tk 26 (some 47) ?_
  (try simp only [Act.put, p0, p1, p2])
  refine tk 27 (some 48) ?_
  (try simp only [Act.put, p0, p1, p2])
  refine wpAnyH_ready (rs := [28]) (by kernel_rfl) (by simp) ?_
  refine AllReadyH.cons (o := _) rfl (fun kC hkC => ?_) AllReadyH.nil
  go_simp
  (first | (go_at_call 34; (with_reducible refine ((CN _).out).mono ?_); rintro e w1 ⟨rfl, hb⟩; have K1 := sat.grown (show sat _ _ _ from by first | exact K.out | exact K.out.drew) hb; clear hb; have K2 := Lib.hid K1; clear K1 K; (try clear a0); (try clear l0); (try clear f0); (try clear a1); (try clear l1); (try clear f1); (try clear a2); (try clear l2); (try clear f2); (try clear a3); (try clear l3); (try clear f3); (try clear a4); (try clear l4); (try clear f4); (try clear a5); (try clear l5); (try clear f5); have K := K2; clear K2; (try have a0 := K.out.rd 0 rfl); (try have l0 := K.out.ltp 0 rfl); (try have f0 := K.out.fr 0 rfl); (try have a1 := K.out.rd 1 rfl); (try have l1 := K.out.ltp 1 rfl); (try have f1 := K.out.fr 1 rfl); (try have a2 := K.out.rd 2 rfl); (try have l2 := K.out.ltp 2 rfl); (try have f2 := K.out.fr 2 rfl); (try have a3 := K.out.rd 3 rfl); (try have l3 := K.out.ltp 3 rfl); (try have f3 := K.out.fr 3 rfl)) | (go_at_call 35; (with_reducible refine ((LA _ _ K.out.below).out).mono ?_); rintro e w1 ⟨rfl, hb⟩; have K1 := sat.grown (show sat _ _ _ from by first | exact K.out | exact K.out.drew) hb; clear hb; have K2 := Lib.hid K1; clear K1 K; (try clear a0); (try clear l0); (try clear f0); (try clear a1); (try clear l1); (try clear f1); (try clear a2); (try clear l2); (try clear f2); (try clear a3); (try clear l3); (try clear f3); (try clear a4); (try clear l4); (try clear f4); (try clear a5); (try clear l5); (try clear f5); have K := K2; clear K2; (try have a0 := K.out.rd 0 rfl); (try have l0 := K.out.ltp 0 rfl); (try have f0 := K.out.fr 0 rfl); (try have a1 := K.out.rd 1 rfl); (try have l1 := K.out.ltp 1 rfl); (try have f1 := K.out.fr 1 rfl); (try have a2 := K.out.rd 2 rfl); (try have l2 := K.out.ltp 2 rfl); (try have f2 := K.out.fr 2 rfl); (try have a3 := K.out.rd 3 rfl); (try have l3 := K.out.ltp 3 rfl); (try have f3 := K.out.fr 3 rfl)) | (go_at_call 35; (with_reducible refine ((LA _ _ K.out.drew.below).out).mono ?_); rintro e w1 ⟨rfl, hb⟩; have K1 := sat.grown (show sat _ _ _ from by first | exact K.out | exact K.out.drew) hb; clear hb; have K2 := Lib.hid K1; clear K1 K; (try clear a0); (try clear l0); (try clear f0); (try clear a1); (try clear l1); (try clear f1); (try clear a2); (try clear l2); (try clear f2); (try clear a3); (try clear l3); (try clear f3); (try clear a4); (try clear l4); (try clear f4); (try clear a5); (try clear l5); (try clear f5); have K := K2; clear K2; (try have a0 := K.out.rd 0 rfl); (try have l0 := K.out.ltp 0 rfl); (try have f0 := K.out.fr 0 rfl); (try have a1 := K.out.rd 1 rfl); (try have l1 := K.out.ltp 1 rfl); (try have f1 := K.out.fr 1 rfl); (try have a2 := K.out.rd 2 rfl); (try have l2 := K.out.ltp 2 rfl); (try have f2 := K.out.fr 2 rfl); (try have a3 := K.out.rd 3 rfl); (try have l3 := K.out.ltp 3 rfl); (try have f3 := K.out.fr 3 rfl)))
  refine shown hkC _ _ (by (try dsimp only); (refine lawS (E := w) (M := []) ?_; first | exact K.out | exact K.out.drew)) ?_; clear hkC kC hHeld; intro hHeld
  (try simp only [Act.put, p0, p1, p2])
  refine tk 29 (some 50) ?_
  (try simp only [Act.put, p0, p1, p2])
  refine tk 30 (some 51) ?_
  (try simp only [Act.put, p0, p1, p2])
  refine wpAnyH_done (by kernel_rfl) (NoPanic.normal ?_) _
  (have K1 : sat w _ _ := (by first | exact K.out | exact K.out.drew); clear K; (try clear a0); (try clear l0); (try clear a1); (try clear l1); have K := Lib.hid K1; clear K1)
  have a0 := K.out.rd 0 rfl
  have l0 := K.out.ltp 0 rfl
  have a1 := K.out.rd 1 rfl
  have l1 := K.out.ltp 1 rfl
  go_wp2_with (first | (go_at_call 36; (with_reducible refine ((AL _).out).mono ?_); rintro e w1 ⟨rfl, hb⟩; have K1 := sat.grown (by repeat (with_reducible first | exact K.out | apply sat.alloc_any | apply sat.drew | apply sat.drewN)) hb; clear hb; have K2 := Lib.hid K1; clear K1 K; (try clear a0); (try clear l0); (try clear a1); (try clear l1); (try clear a2); (try clear l2); have K := K2; clear K2; have a0 := K.out.rd 0 rfl; have l0 := K.out.ltp 0 rfl; have a1 := K.out.rd 1 rfl; have l1 := K.out.ltp 1 rfl))
  all_goals (go_ret; exact ⟨ret_b (by simp_all), (show sat w _ _ from by first | exact K.out | exact K.out.drew).below⟩)
theorem lmay_numberx (c : ConfM) (hc : c.ok) (p : Option Addr) (l : List Ev) (cap : Nat) (e : Ev) (w : World) (hl : l.length ≤ 1000000) (hwf : ∀ e ∈ l, Ev.wf e) (he : Ev.wf e) (h : OldE w p l) (h0 : 0 ≤ e.who) (h1 : e.who < c.th) (h2 : 0 ≤ e.cell) (h3 : e.cell < c.cells) (h4 : e.old = lastM l e.cell) (hkc : 2 * c.all + c.th ≤ e.cell) (hs0 : c.src ≠ 0) (hs1 : c.src ≠ 1) (hs2 : c.src ≠ 2) :
    Tells 26 #[.agg #[.int .i64 c.th, .int .i64 c.sl, .int .i64 c.src, .int .i64 c.dl], .slice p l.length cap, .agg e.v.toArray] w (.bool (numberB c e (e.cell - 2 * c.all - c.th))) := by
  have K := Lib.hid (sat.start w)
  have CN := fun w' => Lib.hid (cellsn_calls c w' hc)
  have AL := fun w' => Lib.hid (all_calls c w' hc)
  have HB := Lib.hid h
  have LA := fun w' x (hb : Below w.heap.size w w') => Lib.hid (last_calls p l cap x w' hl (h.grown hb))
  have hal := hc.all_bd
  have hth1 := hc.th1
  have hth2 := hc.th2
  have hsl := hc.sl1
  have hcl : c.cells = 2 * c.all + 2 * c.th := rfl
  have hcell : e.cell ≤ 8400 := by omega
  have w6 : wrap64 (2 * c.all) = 2 * c.all := w64 (by omega) (by omega)
  have t6 : decide (e.cell < c.all) = false := by simp; omega
  have t7 : decide (e.cell < 2 * c.all) = false := by simp; omega
  unfold numberB
  have t8 : decide (e.cell < 2 * c.all + c.th) = false := by simp; omega
  have hw1 : IntKind.u64.wrap (e.old + 1) = u64M (e.old + 1) := by rw [IntKind.wrap_u64]; rfl
  have hw2 : (e.old + 1) % 18446744073709551616 = u64M (e.old + 1) := rfl
  generalize u64M (e.old + 1) = nx at *
  have s0 : (c.src == 0) = false := by simp [hs0]
  have s1 : (c.src == 1) = false := by simp [hs1]
  have s2 : (c.src == 2) = false := by simp [hs2]
  rw [if_neg hs0, if_neg hs1, if_neg hs2]
  clear hs0 hs1 hs2
  have t5 : (e.old != lastM l e.cell) = false := by simp [h4]
  have t1 : decide (e.who < 0) = false := by simp; omega
  have t2 : decide (e.who ≥ c.th) = false := by simp; omega
  have t3 : decide (e.cell < 0) = false := by simp; omega
  have t4 : decide (e.cell ≥ c.cells) = false := by simp; omega
  clear h hwf he hcl hc hl h4 hkc h3 h0 h1
  go_enter Try.func26, Try.ntmps26
  go_wp2_with (first | (have _hp := gc; ((with_reducible refine at_box ?_); refine st_boxf K.out rfl rfl (fun _ => rfl) ?_; intro ge w1 K1; have K2 := Lib.hid K1; clear K1 K; (try clear a0); (try clear l0); (try clear a1); (try clear l1); (try clear a2); (try clear l2); have K := K2; clear K2; have a0 := K.out.rd 0 rfl; have l0 := K.out.ltp 0 rfl; have a1 := K.out.rd 1 rfl; have l1 := K.out.ltp 1 rfl)) | ((with_reducible refine at_box ?_); refine st_boxf K.out rfl rfl (fun _ => rfl) ?_; intro gc w1 K1; have K2 := Lib.hid K1; clear K1 K; (try clear a0); (try clear l0); (try clear a1); (try clear l1); (try clear a2); (try clear l2); have K := K2; clear K2; have a0 := K.out.rd 0 rfl; have l0 := K.out.ltp 0 rfl))
  refine wp_region_noPanic ?_
  refine wp_region_held_drew (S := (fun w' => (∀ j, w'.cell? ⟨ge, j, none⟩ = e.v[j]?) ∧ (∀ j, w'.cell? ⟨gc, j, none⟩ = [Value.int .i64 c.th, .int .i64 c.sl, .int .i64 c.src, .int .i64 c.dl][j]?))) (by kernel_rfl) ?_ (fun hHeld => ?_)
  · ((try dsimp only); (refine lawS (E := w) (M := []) ?_; first | exact K.out | exact K.out.drew))
  refine tk 0 (some 21) ?_
  (try simp only [Act.put, p0, p1, p2])
  refine tk 1 (some 22) ?_
  (try simp only [Act.put, p0, p1, p2])
  refine tk 2 (some 23) ?_
  (try simp only [Act.put, p0, p1, p2])
  refine tk 3 (some 24) ?_
  (try simp only [Act.put, p0, p1, p2])
  refine tk 4 (some 25) ?_
  (try simp only [Act.put, p0, p1, p2])
  refine tk 5 (some 26) ?_
  (try simp only [Act.put, p0, p1, p2])
  refine tk 6 (some 27) ?_
  (try simp only [Act.put, p0, p1, p2])
  refine tk 7 (some 28) ?_
  (try simp only [Act.put, p0, p1, p2])
  refine tk 8 (some 29) ?_
  (try simp only [Act.put, p0, p1, p2])
  refine tk 9 (some 30) ?_
  (try simp only [Act.put, p0, p1, p2])
  refine tk 10 (some 31) ?_
  (try simp only [Act.put, p0, p1, p2])
  refine tk 11 (some 32) ?_
  (try simp only [Act.put, p0, p1, p2])
  refine tk 12 (some 33) ?_
  (try simp only [Act.put, p0, p1, p2])
  refine tk 13 (some 34) ?_
  (try simp only [Act.put, p0, p1, p2])
  refine tk 14 (some 35) ?_
  (try simp only [Act.put, p0, p1, p2])
  refine tk 15 (some 36) ?_
  (try simp only [Act.put, p0, p1, p2])
  refine tk 16 (some 37) ?_
  (try simp only [Act.put, p0, p1, p2])
  refine tk 17 (some 38) ?_
  (try simp only [Act.put, p0, p1, p2])
  refine tk 18 (some 39) ?_
  (try simp only [Act.put, p0, p1, p2])
  refine wpAnyH_ready (rs := [19]) (by kernel_rfl) (by simp) ?_
  refine AllReadyH.cons (o := _) rfl (fun kC hkC => ?_) AllReadyH.nil
  go_simp
  (first | (go_at_call 34; (with_reducible refine ((CN _).out).mono ?_); rintro e w1 ⟨rfl, hb⟩; have K1 := sat.grown (show sat _ _ _ from by first | exact K.out | exact K.out.drew) hb; clear hb; have K2 := Lib.hid K1; clear K1 K; (try clear a0); (try clear l0); (try clear f0); (try clear a1); (try clear l1); (try clear f1); (try clear a2); (try clear l2); (try clear f2); (try clear a3); (try clear l3); (try clear f3); (try clear a4); (try clear l4); (try clear f4); (try clear a5); (try clear l5); (try clear f5); have K := K2; clear K2; (try have a0 := K.out.rd 0 rfl); (try have l0 := K.out.ltp 0 rfl); (try have f0 := K.out.fr 0 rfl); (try have a1 := K.out.rd 1 rfl); (try have l1 := K.out.ltp 1 rfl); (try have f1 := K.out.fr 1 rfl); (try have a2 := K.out.rd 2 rfl); (try have l2 := K.out.ltp 2 rfl); (try have f2 := K.out.fr 2 rfl); (try have a3 := K.out.rd 3 rfl); (try have l3 := K.out.ltp 3 rfl); (try have f3 := K.out.fr 3 rfl)) | (go_at_call 35; (with_reducible refine ((LA _ _ K.out.below).out).mono ?_); rintro e w1 ⟨rfl, hb⟩; have K1 := sat.grown (show sat _ _ _ from by first | exact K.out | exact K.out.drew) hb; clear hb; have K2 := Lib.hid K1; clear K1 K; (try clear a0); (try clear l0); (try clear f0); (try clear a1); (try clear l1); (try clear f1); (try clear a2); (try clear l2); (try clear f2); (try clear a3); (try clear l3); (try clear f3); (try clear a4); (try clear l4); (try clear f4); (try clear a5); (try clear l5); (try clear f5); have K := K2; clear K2; (try have a0 := K.out.rd 0 rfl); (try have l0 := K.out.ltp 0 rfl); (try have f0 := K.out.fr 0 rfl); (try have a1 := K.out.rd 1 rfl); (try have l1 := K.out.ltp 1 rfl); (try have f1 := K.out.fr 1 rfl); (try have a2 := K.out.rd 2 rfl); (try have l2 := K.out.ltp 2 rfl); (try have f2 := K.out.fr 2 rfl); (try have a3 := K.out.rd 3 rfl); (try have l3 := K.out.ltp 3 rfl); (try have f3 := K.out.fr 3 rfl)) | (go_at_call 35; (with_reducible refine ((LA _ _ K.out.drew.below).out).mono ?_); rintro e w1 ⟨rfl, hb⟩; have K1 := sat.grown (show sat _ _ _ from by first | exact K.out | exact K.out.drew) hb; clear hb; have K2 := Lib.hid K1; clear K1 K; (try clear a0); (try clear l0); (try clear f0); (try clear a1); (try clear l1); (try clear f1); (try clear a2); (try clear l2); (try clear f2); (try clear a3); (try clear l3); (try clear f3); (try clear a4); (try clear l4); (try clear f4); (try clear a5); (try clear l5); (try clear f5); have K := K2; clear K2; (try have a0 := K.out.rd 0 rfl); (try have l0 := K.out.ltp 0 rfl); (try have f0 := K.out.fr 0 rfl); (try have a1 := K.out.rd 1 rfl); (try have l1 := K.out.ltp 1 rfl); (try have f1 := K.out.fr 1 rfl); (try have a2 := K.out.rd 2 rfl); (try have l2 := K.out.ltp 2 rfl); (try have f2 := K.out.fr 2 rfl); (try have a3 := K.out.rd 3 rfl); (try have l3 := K.out.ltp 3 rfl); (try have f3 := K.out.fr 3 rfl)))
  refine shown hkC _ _ (by (try dsimp only); (refine lawS (E := w) (M := []) ?_; first | exact K.out | exact K.out.drew)) ?_; clear hkC kC hHeld; intro hHeld
  (try simp only [Act.put, p0, p1, p2])
  refine tk 20 (some 41) ?_
  (try simp only [Act.put, p0, p1, p2])
  refine tk 21 (some 42) ?_
  (try simp only [Act.put, p0, p1, p2])
  refine tk 22 (some 43) ?_
  (try simp only [Act.put, p0, p1, p2])
  refine tk 23 (some 44) ?_
  (try simp only [Act.put, p0, p1, p2])
  refine tk 24 (some 45) ?_
  (try simp only [Act.put, p0, p1, p2])
  refine tk 25 (some 46) ?_
  (try simp only [Act.put, p0, p1, p2])
  refine tk 26 (some 47) ?_
  (try simp only [Act.put, p0, p1, p2])
  refine tk 27 (some 48) ?_
  (try simp only [Act.put, p0, p1, p2])
  refine wpAnyH_ready (rs := [28]) (by kernel_rfl) (by simp) ?_
  refine AllReadyH.cons (o := _) rfl (fun kC hkC => ?_) AllReadyH.nil
  go_simp
  (first | (go_at_call 34; (with_reducible refine ((CN _).out).mono ?_); rintro e w1 ⟨rfl, hb⟩; have K1 := sat.grown (show sat _ _ _ from by first | exact K.out | exact K.out.drew) hb; clear hb; have K2 := Lib.hid K1; clear K1 K; (try clear a0); (try clear l0); (try clear f0); (try clear a1); (try clear l1); (try clear f1); (try clear a2); (try clear l2); (try clear f2); (try clear a3); (try clear l3); (try clear f3); (try clear a4); (try clear l4); (try clear f4); (try clear a5); (try clear l5); (try clear f5); have K := K2; clear K2; (try have a0 := K.out.rd 0 rfl); (try have l0 := K.out.ltp 0 rfl); (try have f0 := K.out.fr 0 rfl); (try have a1 := K.out.rd 1 rfl); (try have l1 := K.out.ltp 1 rfl); (try have f1 := K.out.fr 1 rfl); (try have a2 := K.out.rd 2 rfl); (try have l2 := K.out.ltp 2 rfl); (try have f2 := K.out.fr 2 rfl); (try have a3 := K.out.rd 3 rfl); (try have l3 := K.out.ltp 3 rfl); (try have f3 := K.out.fr 3 rfl)) | (go_at_call 35; (with_reducible refine ((LA _ _ K.out.below).out).mono ?_); rintro e w1 ⟨rfl, hb⟩; have K1 := sat.grown (show sat _ _ _ from by first | exact K.out | exact K.out.drew) hb; clear hb; have K2 := Lib.hid K1; clear K1 K; (try clear a0); (try clear l0); (try clear f0); (try clear a1); (try clear l1); (try clear f1); (try clear a2); (try clear l2); (try clear f2); (try clear a3); (try clear l3); (try clear f3); (try clear a4); (try clear l4); (try clear f4); (try clear a5); (try clear l5); (try clear f5); have K := K2; clear K2; (try have a0 := K.out.rd 0 rfl); (try have l0 := K.out.ltp 0 rfl); (try have f0 := K.out.fr 0 rfl); (try have a1 := K.out.rd 1 rfl); (try have l1 := K.out.ltp 1 rfl); (try have f1 := K.out.fr 1 rfl); (try have a2 := K.out.rd 2 rfl); (try have l2 := K.out.ltp 2 rfl); (try have f2 := K.out.fr 2 rfl); (try have a3 := K.out.rd 3 rfl); (try have l3 := K.out.ltp 3 rfl); (try have f3 := K.out.fr 3 rfl)) | (go_at_call 35; (with_reducible refine ((LA _ _ K.out.drew.below).out).mono ?_); rintro e w1 ⟨rfl, hb⟩; have K1 := sat.grown (show sat _ _ _ from by first | exact K.out | exact K.out.drew) hb; clear hb; have K2 := Lib.hid K1; clear K1 K; (try clear a0); (try clear l0); (try clear f0); (try clear a1); (try clear l1); (try clear f1); (try clear a2); (try clear l2); (try clear f2); (try clear a3); (try clear l3); (try clear f3); (try clear a4); (try clear l4); (try clear f4); (try clear a5); (try clear l5); (try clear f5); have K := K2; clear K2; (try have a0 := K.out.rd 0 rfl); (try have l0 := K.out.ltp 0 rfl); (try have f0 := K.out.fr 0 rfl); (try have a1 := K.out.rd 1 rfl); (try have l1 := K.out.ltp 1 rfl); (try have f1 := K.out.fr 1 rfl); (try have a2 := K.out.rd 2 rfl); (try have l2 := K.out.ltp 2 rfl); (try have f2 := K.out.fr 2 rfl); (try have a3 := K.out.rd 3 rfl); (try have l3 := K.out.ltp 3 rfl); (try have f3 := K.out.fr 3 rfl)))
  refine shown hkC _ _ (by (try dsimp only); (refine lawS (E := w) (M := []) ?_; first | exact K.out | exact K.out.drew)) ?_; clear hkC kC hHeld; intro hHeld
  (try simp only [Act.put, p0, p1, p2])
  refine tk 29 (some 50) ?_
  (try simp only [Act.put, p0, p1, p2])
  refine tk 30 (some 51) ?_
  (try simp only [Act.put, p0, p1, p2])
  refine wpAnyH_done (by kernel_rfl) (NoPanic.normal ?_) _
  (have K1 : sat w _ _ := (by first | exact K.out | exact K.out.drew); clear K; (try clear a0); (try clear l0); (try clear a1); (try clear l1); have K := Lib.hid K1; clear K1)
  have a0 := K.out.rd 0 rfl
  have l0 := K.out.ltp 0 rfl
  have a1 := K.out.rd 1 rfl
  have l1 := K.out.ltp 1 rfl
  go_wp2_with (first | (go_at_call 36; (with_reducible refine ((AL _).out).mono ?_); rintro e w1 ⟨rfl, hb⟩; have K1 := sat.grown (by repeat (with_reducible first | exact K.out | apply sat.alloc_any | apply sat.drew | apply sat.drewN)) hb; clear hb; have K2 := Lib.hid K1; clear K1 K; (try clear a0); (try clear l0); (try clear a1); (try clear l1); (try clear a2); (try clear l2); have K := K2; clear K2; have a0 := K.out.rd 0 rfl; have l0 := K.out.ltp 0 rfl; have a1 := K.out.rd 1 rfl; have l1 := K.out.ltp 1 rfl))
  all_goals (go_ret; exact ⟨ret_b (by simp_all), (show sat w _ _ from by first | exact K.out | exact K.out.drew).below⟩)
end
end Go.Proofs.Ytiladkalijonbaa
