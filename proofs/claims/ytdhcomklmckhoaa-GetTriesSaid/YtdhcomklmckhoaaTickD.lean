/- How stamps are made: a step, by each source. -/
import Derived.Test.YtdhcomklmckhoaaTickB
import Derived.Test.YtdhcomklmckhoaaTickC
namespace Go.Proofs.Ytdhcomklmckhoaa
open Go.RowKit Go.SepYtdhcomklmckhoaa
set_option linter.unusedSimpArgs false
set_option linter.unusedVariables false
set_option maxRecDepth 100000
set_option maxHeartbeats 1000000
/-- A Ticker that is within its bounds. -/
structure TickM.ok (t : TickM) : Prop where
  conf : t.conf.ok
  who0 : 0 ≤ t.who
  who1 : t.who < t.conf.th
  a0 : 0 ≤ t.a
  a1 : t.a ≤ 16777215
  s0 : 0 ≤ t.steps
  s1 : t.steps ≤ 1000000000
attribute [local go_sem] min2_w max2_w min_w max_w
section
variable {E w : World} {L : List SA}
theorem tickS {b : Nat} {t t' : TickM} {M : List SA} (h : sat E w (tickA b t' :: M)) (hc : t'.conf = t.conf) (hw : t'.who = t.who) :
    w.cell? ⟨b, 0, none⟩ = some (.int .i64 t.conf.th) ∧ w.cell? ⟨b, 1, none⟩ = some (.int .i64 t.conf.sl) ∧ w.cell? ⟨b, 2, none⟩ = some (.int .i64 t.conf.src) ∧ w.cell? ⟨b, 3, none⟩ = some (.int .i64 t.conf.dl) ∧ w.cell? ⟨b, 4, none⟩ = some (.int .i64 t.who) := by
  have := h.rd 0 rfl
  rw [← hc, ← hw]
  exact ⟨this 0, this 1, this 2, this 3, this 4⟩
theorem tdone_conf (t : TickM) (s : StampM) : (t.done s).conf = t.conf := by unfold TickM.done; split <;> rfl
theorem tdone_who (t : TickM) (s : StampM) : (t.done s).who = t.who := by unfold TickM.done; split <;> rfl
theorem tdone_steps (t : TickM) (s : StampM) : (t.done s).steps = t.steps := by unfold TickM.done; split <;> rfl
theorem tswap_steps (t : TickM) (m : MemM) : (t.swap m).1.steps = t.steps := by
  unfold TickM.swap TickM.done
  dsimp only
  (repeat' split) <;> rfl
theorem tstutter_steps (t : TickM) (m : MemM) : (t.stutter m).1.steps = t.steps := by
  unfold TickM.stutter TickM.done
  dsimp only
  (repeat' split) <;> rfl
theorem tstep_off (b bm : Nat) (t : TickM) (m : MemM) (now : Int) (hp : t.phase ≠ 0) (h : sat E w (tickA b t :: memA bm m :: L)) :
    Calls Try.prog 66 #[.pointer (some ⟨b, 0, none⟩), .pointer (some ⟨bm, 0, none⟩), .int .i64 now] w fun e w' =>
      e = .returned (.int .i64 t.phase) ∧ sat E w' (tickA b t :: memA bm m :: L) := by
  have K := Lib.hid h
  clear h
  have a0 := K.out.rd 0 rfl; have l0 := K.out.ltp 0 rfl
  have c0 : (t.phase == 0) = false := by simpa using hp
  clear hp
  go_enter Try.func66, Try.ntmps66
  go_wp2
  go_ret
  exact ⟨rfl, K.out⟩
theorem tstep_swap (b bm : Nat) (t : TickM) (m : MemM) (now : Int) (ho : t.ok) (hp : t.phase = 0) (hs : t.conf.src = 2) (hroom : m.log.length < 1000000000) (h : sat E w (tickA b t :: memA bm m :: L)) :
    Calls Try.prog 66 #[.pointer (some ⟨b, 0, none⟩), .pointer (some ⟨bm, 0, none⟩), .int .i64 now] w fun e w' =>
      e = .returned (.int .i64 (t.swap m).1.phase) ∧ sat E w' (tickA b { (t.swap m).1 with steps := (t.swap m).1.steps + 1 } :: memA bm (t.swap m).2 :: L) := by
  have K := Lib.hid h
  clear h
  have a0 := K.out.rd 0 rfl; have l0 := K.out.ltp 0 rfl
  have C := fun w (h : sat E w (tickA b t :: memA bm m :: L)) => Lib.hid (tswap_calls b bm t m ho.conf ho.who0 ho.who1 ⟨ho.a0, ho.a1⟩ hroom h)
  have hst := tswap_steps t m
  obtain ⟨r, hr⟩ : ∃ r, r = t.swap m := ⟨_, rfl⟩
  rw [← hr] at C hst ⊢
  have b0 : 0 ≤ r.1.steps := by rw [hst]; exact ho.s0
  have b1 : r.1.steps ≤ 1000000000 := by rw [hst]; exact ho.s1
  have c0 : (t.phase == 0) = true := by simpa using hp
  have c1 : (t.conf.src == 0) = false := by simp [hs]
  have c2 : (t.conf.src == 1) = false := by simp [hs]
  have c3 : (t.conf.src == 2) = true := by simp [hs]
  clear hp hs hr hst ho
  · go_enter Try.func66, Try.ntmps66
    go_wp2_with (first | (go_at_call 80; (with_reducible refine ((C _ (show sat E _ _ from by iterate 6 (try (with_reducible first | exact K.out | apply sat.alloc_any | apply sat.drew | apply sat.drewN)))).out).mono ?_); rintro e w1 ⟨rfl, K1⟩; have K2 := Lib.hid K1; clear K1 K; (try clear a0); (try clear l0); (try clear a1); (try clear l1); (try clear a2); (try clear l2); have K := K2; clear K2; have a0 := K.out.rd 0 rfl; have l0 := K.out.ltp 0 rfl) | ((with_reducible refine at_store ?_); refine st_store 0 K.out rfl rfl rfl rfl ?_ ?_ ?_ ?_; (· kernel_rfl); (· simp); (· simp [Value.oneCell']); intro w1 K1; simp only [List.set, putL] at K1; have K2 := Lib.hid K1; clear K1 K; (try clear a0); (try clear l0); (try clear a1); (try clear l1); (try clear a2); (try clear l2); have K := K2; clear K2; have a0 := K.out.rd 0 rfl; have l0 := K.out.ltp 0 rfl))
    go_ret
    exact ⟨rfl, K.out⟩
theorem tstep_stutter (b bm : Nat) (t : TickM) (m : MemM) (now : Int) (ho : t.ok) (hp : t.phase = 0) (hs : t.conf.src = 1) (hroom : m.log.length < 1000000000) (h : sat E w (tickA b t :: memA bm m :: L)) :
    Calls Try.prog 66 #[.pointer (some ⟨b, 0, none⟩), .pointer (some ⟨bm, 0, none⟩), .int .i64 now] w fun e w' =>
      e = .returned (.int .i64 (t.stutter m).1.phase) ∧ sat E w' (tickA b { (t.stutter m).1 with steps := (t.stutter m).1.steps + 1 } :: memA bm (t.stutter m).2 :: L) := by
  have K := Lib.hid h
  clear h
  have a0 := K.out.rd 0 rfl; have l0 := K.out.ltp 0 rfl
  have C := fun w (h : sat E w (tickA b t :: memA bm m :: L)) => Lib.hid (tstutter_calls b bm t m ho.conf ho.who0 ho.who1 ho.s0 ⟨ho.a0, ho.a1⟩ hroom h)
  have hst := tstutter_steps t m
  obtain ⟨r, hr⟩ : ∃ r, r = t.stutter m := ⟨_, rfl⟩
  rw [← hr] at C hst ⊢
  have b0 : 0 ≤ r.1.steps := by rw [hst]; exact ho.s0
  have b1 : r.1.steps ≤ 1000000000 := by rw [hst]; exact ho.s1
  have c0 : (t.phase == 0) = true := by simpa using hp
  have c1 : (t.conf.src == 0) = false := by simp [hs]
  have c2 : (t.conf.src == 1) = true := by simp [hs]
  clear hp hs hr hst ho
  · go_enter Try.func66, Try.ntmps66
    go_wp2_with (first | (go_at_call 79; (with_reducible refine ((C _ (show sat E _ _ from by iterate 6 (try (with_reducible first | exact K.out | apply sat.alloc_any | apply sat.drew | apply sat.drewN)))).out).mono ?_); rintro e w1 ⟨rfl, K1⟩; have K2 := Lib.hid K1; clear K1 K; (try clear a0); (try clear l0); (try clear a1); (try clear l1); (try clear a2); (try clear l2); have K := K2; clear K2; have a0 := K.out.rd 0 rfl; have l0 := K.out.ltp 0 rfl) | ((with_reducible refine at_store ?_); refine st_store 0 K.out rfl rfl rfl rfl ?_ ?_ ?_ ?_; (· kernel_rfl); (· simp); (· simp [Value.oneCell']); intro w1 K1; simp only [List.set, putL] at K1; have K2 := Lib.hid K1; clear K1 K; (try clear a0); (try clear l0); (try clear a1); (try clear l1); (try clear a2); (try clear l2); have K := K2; clear K2; have a0 := K.out.rd 0 rfl; have l0 := K.out.ltp 0 rfl))
    go_ret
    exact ⟨rfl, K.out⟩
theorem tstep_count (b bm : Nat) (t : TickM) (m : MemM) (now : Int) (ho : t.ok) (hp : t.phase = 0) (hs : t.conf.src = 0) (hroom : m.log.length < 1000000000) (h : sat E w (tickA b t :: memA bm m :: L)) :
    Calls Try.prog 66 #[.pointer (some ⟨b, 0, none⟩), .pointer (some ⟨bm, 0, none⟩), .int .i64 now] w fun e w' =>
      e = .returned (.int .i64 (t.done (point (cap (m.peek (t.conf.number 0))))).phase) ∧ sat E w' (tickA b { t.done (point (cap (m.peek (t.conf.number 0)))) with steps := t.steps + 1 } :: memA bm (m.touch t.who 3 (t.conf.number 0) 0 1) :: L) := by
  have K := Lib.hid h
  have hpk := MemM.peek_wf (memA_open h.swap).1 (t.conf.number 0)
  clear h
  have a0 := K.out.rd 0 rfl; have l0 := K.out.ltp 0 rfl
  have N := fun w => Lib.hid (number_calls t.conf w ho.conf 0 (by omega) (by have := ho.conf.th1; omega))
  have A := fun w (h : sat E w (memA bm m :: tickA b t :: L)) => Lib.hid (add_calls bm m t.who (t.conf.number 0) 1 (by omega) hroom h)
  have hdone := tdone_steps t (point (cap (m.peek (t.conf.number 0))))
  have D := fun w (h : sat E w (tickA b t :: memA bm (m.touch t.who 3 (t.conf.number 0) 0 1) :: L)) => Lib.hid (tdone_calls b t (point (cap (m.peek (t.conf.number 0)))) h)
  have hcf := Lib.hid (tdone_conf t (point (cap (m.peek (t.conf.number 0)))))
  have hwf := Lib.hid (tdone_who t (point (cap (m.peek (t.conf.number 0)))))
  generalize hx : m.peek (t.conf.number 0) = x at A hpk D hdone hcf hwf
  have e : cap x = min x 16777215 := rfl
  rw [e] at D hdone hcf hwf ⊢
  obtain ⟨x0, x1⟩ := hpk
  have v1 : IntKind.i64.wrap (min x 16777215) = min x 16777215 := wi (by omega) (by omega)
  rw [← hdone]
  generalize hr : t.done (point (min x 16777215)) = r at D hdone hcf hwf
  have b0 : 0 ≤ r.steps := by rw [hdone]; exact ho.s0
  have b1 : r.steps ≤ 1000000000 := by rw [hdone]; exact ho.s1
  have c0 : (t.phase == 0) = true := by simpa using hp
  have c1 : (t.conf.src == 0) = true := by simp [hs]
  clear hp hs hx ho hdone e hr
  go_enter Try.func66, Try.ntmps66
  go_wp2_with fail
  go_region_held3 (fun w' => w'.cell? ⟨b, 0, none⟩ = some (.int .i64 t.conf.th) ∧ w'.cell? ⟨b, 1, none⟩ = some (.int .i64 t.conf.sl) ∧ w'.cell? ⟨b, 2, none⟩ = some (.int .i64 t.conf.src) ∧ w'.cell? ⟨b, 3, none⟩ = some (.int .i64 t.conf.dl) ∧ w'.cell? ⟨b, 4, none⟩ = some (.int .i64 t.who)) (first | exact tickS (M := _) (by repeat (with_reducible first | exact K.out | apply sat.alloc_any | apply sat.drew | apply sat.drewN)) rfl rfl | exact tickS (M := _) (by repeat (with_reducible first | exact K.out | apply sat.alloc_any | apply sat.drew | apply sat.drewN)) hcf.out hwf.out | go_keep)
    (first | (go_at_call 78; (with_reducible refine ((N _).out).mono ?_); rintro e w1 ⟨rfl, hb⟩; have K1 := sat.grown (by repeat (with_reducible first | exact K.out | apply sat.alloc_any | apply sat.drew | apply sat.drewN)) hb; clear hb; have K2 := Lib.hid K1; clear K1 K; (try clear a0); (try clear l0); (try clear a1); (try clear l1); (try clear a2); (try clear l2); have K := K2; clear K2; have a0 := K.out.rd 0 rfl; have l0 := K.out.ltp 0 rfl) | (go_at_call 77; (with_reducible refine ((A _ (show sat E _ _ from by iterate 6 (try (with_reducible first | exact K.out | apply sat.alloc_any | apply sat.drew | apply sat.drewN))).swap).out).mono ?_); rintro e w1 ⟨rfl, K1⟩; replace K1 := K1.swap; have K2 := Lib.hid K1; clear K1 K; (try clear a0); (try clear l0); (try clear a1); (try clear l1); (try clear a2); (try clear l2); have K := K2; clear K2; have a0 := K.out.rd 0 rfl; have l0 := K.out.ltp 0 rfl) | (go_at_call 76; (with_reducible refine (point_calls (min x 16777215) _).mono ?_); rintro e w1 ⟨rfl, hb⟩; have K1 := sat.grown (by repeat (with_reducible first | exact K.out | apply sat.alloc_any | apply sat.drew | apply sat.drewN)) hb; clear hb; have K2 := Lib.hid K1; clear K1 K; (try clear a0); (try clear l0); (try clear a1); (try clear l1); (try clear a2); (try clear l2); have K := K2; clear K2; have a0 := K.out.rd 0 rfl; have l0 := K.out.ltp 0 rfl) | (go_at_call 75; (with_reducible refine ((D _ (show sat E _ _ from by iterate 6 (try (with_reducible first | exact K.out | apply sat.alloc_any | apply sat.drew | apply sat.drewN)))).out).mono ?_); rintro e w1 ⟨rfl, K1⟩; have K2 := Lib.hid K1; clear K1 K; (try clear a0); (try clear l0); (try clear a1); (try clear l1); (try clear a2); (try clear l2); have K := K2; clear K2; have a0 := K.out.rd 0 rfl; have l0 := K.out.ltp 0 rfl))
  go_wp2_with (first | ((with_reducible refine at_store ?_); refine st_store 0 K.out rfl rfl rfl rfl ?_ ?_ ?_ ?_; (· kernel_rfl); (· simp); (· simp [Value.oneCell']); intro w1 K1; simp only [List.set, putL] at K1; have K2 := Lib.hid K1; clear K1 K; (try clear a0); (try clear l0); (try clear a1); (try clear l1); (try clear a2); (try clear l2); have K := K2; clear K2; have a0 := K.out.rd 0 rfl; have l0 := K.out.ltp 0 rfl))
  go_ret
  exact ⟨rfl, K.out⟩
theorem tstep_clock (b bm : Nat) (t : TickM) (m : MemM) (now : Int) (ho : t.ok) (hp : t.phase = 0) (hs : t.conf.src = 3) (h : sat E w (tickA b t :: memA bm m :: L)) :
    Calls Try.prog 66 #[.pointer (some ⟨b, 0, none⟩), .pointer (some ⟨bm, 0, none⟩), .int .i64 now] w fun e w' =>
      e = .returned (.int .i64 (t.done (point (cap now))).phase) ∧ sat E w' (tickA b { t.done (point (cap now)) with steps := t.steps + 1 } :: memA bm m :: L) := by
  have K := Lib.hid h
  clear h
  have a0 := K.out.rd 0 rfl; have l0 := K.out.ltp 0 rfl
  have hdone := tdone_steps t (point (cap now))
  have D := fun w (h : sat E w (tickA b t :: memA bm m :: L)) => Lib.hid (tdone_calls b t (point (cap now)) h)
  have e : cap now = min now 16777215 := rfl
  rw [e] at D hdone ⊢
  rw [← hdone]
  generalize hr : t.done (point (min now 16777215)) = r at D hdone
  have b0 : 0 ≤ r.steps := by rw [hdone]; exact ho.s0
  have b1 : r.steps ≤ 1000000000 := by rw [hdone]; exact ho.s1
  have c0 : (t.phase == 0) = true := by simpa using hp
  have c1 : (t.conf.src == 0) = false := by simp [hs]
  have c2 : (t.conf.src == 1) = false := by simp [hs]
  have c3 : (t.conf.src == 2) = false := by simp [hs]
  have c4 : (t.conf.src == 4) = false := by simp [hs]
  clear hp hs ho hdone e hr
  go_enter Try.func66, Try.ntmps66
  go_wp2_with (first | (go_at_call 76; (with_reducible refine (point_calls (min now 16777215) _).mono ?_); rintro e w1 ⟨rfl, hb⟩; have K1 := sat.grown (by repeat (with_reducible first | exact K.out | apply sat.alloc_any | apply sat.drew | apply sat.drewN)) hb; clear hb; have K2 := Lib.hid K1; clear K1 K; (try clear a0); (try clear l0); (try clear a1); (try clear l1); (try clear a2); (try clear l2); have K := K2; clear K2; have a0 := K.out.rd 0 rfl; have l0 := K.out.ltp 0 rfl) | (go_at_call 75; (with_reducible refine ((D _ (show sat E _ _ from by iterate 6 (try (with_reducible first | exact K.out | apply sat.alloc_any | apply sat.drew | apply sat.drewN)))).out).mono ?_); rintro e w1 ⟨rfl, K1⟩; have K2 := Lib.hid K1; clear K1 K; (try clear a0); (try clear l0); (try clear a1); (try clear l1); (try clear a2); (try clear l2); have K := K2; clear K2; have a0 := K.out.rd 0 rfl; have l0 := K.out.ltp 0 rfl) | ((with_reducible refine at_store ?_); refine st_store 0 K.out rfl rfl rfl rfl ?_ ?_ ?_ ?_; (· kernel_rfl); (· simp); (· simp [Value.oneCell']); intro w1 K1; simp only [List.set, putL] at K1; have K2 := Lib.hid K1; clear K1 K; (try clear a0); (try clear l0); (try clear a1); (try clear l1); (try clear a2); (try clear l2); have K := K2; clear K2; have a0 := K.out.rd 0 rfl; have l0 := K.out.ltp 0 rfl))
  go_ret
  exact ⟨rfl, K.out⟩
theorem tstep_wide1 (b bm : Nat) (t : TickM) (m : MemM) (now : Int) (ho : t.ok) (hp : t.phase = 0) (hs : t.conf.src = 4) (h0 : t.steps = 0) (h : sat E w (tickA b t :: memA bm m :: L)) :
    Calls Try.prog 66 #[.pointer (some ⟨b, 0, none⟩), .pointer (some ⟨bm, 0, none⟩), .int .i64 now] w fun e w' =>
      e = .returned (.int .i64 t.phase) ∧ sat E w' (tickA b { t with a := cap now, steps := t.steps + 1 } :: memA bm m :: L) := by
  have K := Lib.hid h
  clear h
  have a0 := K.out.rd 0 rfl; have l0 := K.out.ltp 0 rfl
  have e : cap now = min now 16777215 := rfl
  rw [e]
  have b0 := ho.s0
  have b1 := ho.s1
  have c0 : (t.phase == 0) = true := by simpa using hp
  have c1 : (t.conf.src == 0) = false := by simp [hs]
  have c2 : (t.conf.src == 1) = false := by simp [hs]
  have c3 : (t.conf.src == 2) = false := by simp [hs]
  have c4 : (t.conf.src == 4) = true := by simp [hs]
  have c5 : (t.steps == 0) = true := by simpa using h0
  have c6 : t.steps ≤ t.conf.dl := by have := ho.conf.dl1; omega
  clear hp hs ho e h0
  go_enter Try.func66, Try.ntmps66
  go_wp2_with (first | ((with_reducible refine at_store ?_); refine st_store 0 K.out rfl rfl rfl rfl ?_ ?_ ?_ ?_; (· kernel_rfl); (· simp); (· simp [Value.oneCell']); intro w1 K1; simp only [List.set, putL] at K1; have K2 := Lib.hid K1; clear K1 K; (try clear a0); (try clear l0); (try clear a1); (try clear l1); (try clear a2); (try clear l2); have K := K2; clear K2; have a0 := K.out.rd 0 rfl; have l0 := K.out.ltp 0 rfl))
  go_quiet (fail); (have K1 := K.out.drewN nq; revert K1; generalize World.drewN w1 nq = w9; intro K1; have K2 := Lib.hid K1; clear K1 K; (try clear a0); (try clear l0); (try clear a1); (try clear l1); (try clear a2); (try clear l2); have K := K2; clear K2; have a0 := K.out.rd 0 rfl; have l0 := K.out.ltp 0 rfl)
  go_wp2_with (first | ((with_reducible refine at_store ?_); refine st_store 0 K.out rfl rfl rfl rfl ?_ ?_ ?_ ?_; (· kernel_rfl); (· simp); (· simp [Value.oneCell']); intro w1 K1; simp only [List.set, putL] at K1; have K2 := Lib.hid K1; clear K1 K; (try clear a0); (try clear l0); (try clear a1); (try clear l1); (try clear a2); (try clear l2); have K := K2; clear K2; have a0 := K.out.rd 0 rfl; have l0 := K.out.ltp 0 rfl))
  go_ret
  exact ⟨rfl, K.out⟩
theorem tstep_wide2 (b bm : Nat) (t : TickM) (m : MemM) (now : Int) (ho : t.ok) (hp : t.phase = 0) (hs : t.conf.src = 4) (h0 : t.steps ≠ 0) (h1 : t.steps ≤ t.conf.dl) (h : sat E w (tickA b t :: memA bm m :: L)) :
    Calls Try.prog 66 #[.pointer (some ⟨b, 0, none⟩), .pointer (some ⟨bm, 0, none⟩), .int .i64 now] w fun e w' =>
      e = .returned (.int .i64 t.phase) ∧ sat E w' (tickA b { t with steps := t.steps + 1 } :: memA bm m :: L) := by
  have K := Lib.hid h
  clear h
  have a0 := K.out.rd 0 rfl; have l0 := K.out.ltp 0 rfl
  have b0 := ho.s0
  have b1 := ho.s1
  have c0 : (t.phase == 0) = true := by simpa using hp
  have c1 : (t.conf.src == 0) = false := by simp [hs]
  have c2 : (t.conf.src == 1) = false := by simp [hs]
  have c3 : (t.conf.src == 2) = false := by simp [hs]
  have c4 : (t.conf.src == 4) = true := by simp [hs]
  have c5 : (t.steps == 0) = false := by simpa using h0
  clear hp hs ho h0
  go_enter Try.func66, Try.ntmps66
  go_wp2_with fail
  go_quiet (fail); (have K1 := K.out.drewN nq; revert K1; generalize World.drewN w nq = w9; intro K1; have K2 := Lib.hid K1; clear K1 K; (try clear a0); (try clear l0); (try clear a1); (try clear l1); (try clear a2); (try clear l2); have K := K2; clear K2; have a0 := K.out.rd 0 rfl; have l0 := K.out.ltp 0 rfl)
  go_wp2_with (first | ((with_reducible refine at_store ?_); refine st_store 0 K.out rfl rfl rfl rfl ?_ ?_ ?_ ?_; (· kernel_rfl); (· simp); (· simp [Value.oneCell']); intro w1 K1; simp only [List.set, putL] at K1; have K2 := Lib.hid K1; clear K1 K; (try clear a0); (try clear l0); (try clear a1); (try clear l1); (try clear a2); (try clear l2); have K := K2; clear K2; have a0 := K.out.rd 0 rfl; have l0 := K.out.ltp 0 rfl))
  go_ret
  exact ⟨rfl, K.out⟩
theorem tstep_wide3 (b bm : Nat) (t : TickM) (m : MemM) (now : Int) (ho : t.ok) (hp : t.phase = 0) (hs : t.conf.src = 4) (h0 : t.steps ≠ 0) (h1 : t.conf.dl < t.steps) (h : sat E w (tickA b t :: memA bm m :: L)) :
    Calls Try.prog 66 #[.pointer (some ⟨b, 0, none⟩), .pointer (some ⟨bm, 0, none⟩), .int .i64 now] w fun e w' =>
      e = .returned (.int .i64 (t.done ⟨t.a, cap now⟩).phase) ∧ sat E w' (tickA b { t.done ⟨t.a, cap now⟩ with steps := t.steps + 1 } :: memA bm m :: L) := by
  have K := Lib.hid h
  clear h
  have a0 := K.out.rd 0 rfl; have l0 := K.out.ltp 0 rfl
  have hdone := tdone_steps t ⟨t.a, cap now⟩
  have D := fun w (h : sat E w (tickA b t :: memA bm m :: L)) => Lib.hid (tdone_calls b t ⟨t.a, cap now⟩ h)
  have e : cap now = min now 16777215 := rfl
  rw [e] at D hdone ⊢
  rw [← hdone]
  generalize hr : t.done ⟨t.a, min now 16777215⟩ = r at D hdone
  have b2 : 0 ≤ r.steps := by rw [hdone]; exact ho.s0
  have b3 : r.steps ≤ 1000000000 := by rw [hdone]; exact ho.s1
  have b0 := ho.s0
  have b1 := ho.s1
  have c0 : (t.phase == 0) = true := by simpa using hp
  have c1 : (t.conf.src == 0) = false := by simp [hs]
  have c2 : (t.conf.src == 1) = false := by simp [hs]
  have c3 : (t.conf.src == 2) = false := by simp [hs]
  have c4 : (t.conf.src == 4) = true := by simp [hs]
  have c5 : (t.steps == 0) = false := by simpa using h0
  clear hp hs ho h0 hr hdone e
  go_enter Try.func66, Try.ntmps66
  go_wp2_with fail
  go_quiet (fail); (have K1 := K.out.drewN nq; revert K1; generalize World.drewN w nq = w9; intro K1; have K2 := Lib.hid K1; clear K1 K; (try clear a0); (try clear l0); (try clear a1); (try clear l1); (try clear a2); (try clear l2); have K := K2; clear K2; have a0 := K.out.rd 0 rfl; have l0 := K.out.ltp 0 rfl)
  go_wp2_with (first | (go_at_call 76; (with_reducible refine (point_calls (min now 16777215) _).mono ?_); rintro e w1 ⟨rfl, hb⟩; have K1 := sat.grown (by repeat (with_reducible first | exact K.out | apply sat.alloc_any | apply sat.drew | apply sat.drewN)) hb; clear hb; have K2 := Lib.hid K1; clear K1 K; (try clear a0); (try clear l0); (try clear a1); (try clear l1); (try clear a2); (try clear l2); have K := K2; clear K2; have a0 := K.out.rd 0 rfl; have l0 := K.out.ltp 0 rfl) | (go_at_call 75; (with_reducible refine ((D _ (show sat E _ _ from by iterate 6 (try (with_reducible first | exact K.out | apply sat.alloc_any | apply sat.drew | apply sat.drewN)))).out).mono ?_); rintro e w1 ⟨rfl, K1⟩; have K2 := Lib.hid K1; clear K1 K; (try clear a0); (try clear l0); (try clear a1); (try clear l1); (try clear a2); (try clear l2); have K := K2; clear K2; have a0 := K.out.rd 0 rfl; have l0 := K.out.ltp 0 rfl) | ((with_reducible refine at_store ?_); refine st_store 0 K.out rfl rfl rfl rfl ?_ ?_ ?_ ?_; (· kernel_rfl); (· simp); (· simp [Value.oneCell']); intro w1 K1; simp only [List.set, putL] at K1; have K2 := Lib.hid K1; clear K1 K; (try clear a0); (try clear l0); (try clear a1); (try clear l1); (try clear a2); (try clear l2); have K := K2; clear K2; have a0 := K.out.rd 0 rfl; have l0 := K.out.ltp 0 rfl))
  go_ret
  exact ⟨rfl, K.out⟩
/-- A step of a Ticker. -/
theorem tstep_calls (b bm : Nat) (t : TickM) (m : MemM) (now : Int) (ho : t.ok) (hroom : m.log.length < 1000000000) (h : sat E w (tickA b t :: memA bm m :: L)) :
    Calls Try.prog 66 #[.pointer (some ⟨b, 0, none⟩), .pointer (some ⟨bm, 0, none⟩), .int .i64 now] w fun e w' =>
      e = .returned (.int .i64 (t.step m now).1.phase) ∧ sat E w' (tickA b (t.step m now).1 :: memA bm (t.step m now).2 :: L) := by
  unfold TickM.step
  by_cases hp : t.phase = 0
  · rw [if_neg (by simpa using hp)]
    have s1 := ho.conf.src1
    have s2 := ho.conf.src2
    by_cases c0 : t.conf.src = 0
    · simp only [c0, if_true]
      have := tstep_count b bm t m now ho hp c0 hroom h
      rw [← tdone_steps t (point (cap (m.peek (t.conf.number 0))))] at this
      exact this
    by_cases c1 : t.conf.src = 1
    · simp only [c1]; exact tstep_stutter b bm t m now ho hp c1 hroom h
    by_cases c2 : t.conf.src = 2
    · simp only [c2]; exact tstep_swap b bm t m now ho hp c2 hroom h
    by_cases c3 : t.conf.src = 3
    · simp only [c3]
      have := tstep_clock b bm t m now ho hp c3 h
      rw [← tdone_steps t (point (cap now))] at this
      exact this
    · have c4 : t.conf.src = 4 := by omega
      simp only [c4]
      by_cases z : t.steps = 0
      · have zd : t.steps ≤ t.conf.dl := by have := ho.conf.dl1; omega
        have := tstep_wide1 b bm t m now ho hp c4 z h
        simpa [z, zd, show (0 : Int) ≤ t.conf.dl from ho.conf.dl1] using this
      · by_cases zd : t.steps ≤ t.conf.dl
        · have := tstep_wide2 b bm t m now ho hp c4 z zd h
          simpa [z, zd] using this
        · have := tstep_wide3 b bm t m now ho hp c4 z (by omega) h
          rw [← tdone_steps t ⟨t.a, cap now⟩] at this
          simpa [z, zd] using this
  · rw [if_pos hp]
    exact tstep_off b bm t m now hp h
end
end Go.Proofs.Ytdhcomklmckhoaa
