/- A call that is under way (package task): what each of its functions does. Conditions: as its parts' (PutM.ok, GetM.ok), room for what is noted. -/
import Derived.Test.YtdhcomklmckhoaaGetS
namespace Go.Proofs.Ytdhcomklmckhoaa
open Go.RowKit Go.SepYtdhcomklmckhoaa
set_option linter.unusedSimpArgs false
set_option linter.unusedVariables false
set_option maxRecDepth 100000
set_option maxHeartbeats 1000000
def workA (v : Value) : WorkM → SA
  | .put p => fun h => ∃ b : Nat, v = .iface 110 (.pointer (some ⟨b, 0, none⟩)) ∧ putA b p h
  | .get g => fun h => ∃ b : Nat, v = .iface 42 (.pointer (some ⟨b, 0, none⟩)) ∧ getA b g h
abbrev CallM.v (c : CallM) : List Value := [.int .i64 c.kind, .int .i64 c.fin, .int .u64 c.value, .int .i64 c.start]
abbrev taskP (b : Nat) (wv : Value) (c : CallM) : SA := pt b (.cells [.int .i64 c.kind, .int .i64 c.fin, .int .u64 c.value, .int .i64 c.start, wv].toArray 109 (0, 0))
def taskA (b : Nat) (t : TaskM) : SA := fun h => ∃ wv : Value, bag [taskP b wv t.call, workA wv t.work] h
section
variable {E w : World} {L : List SA}
theorem taskA_open {b : Nat} {t : TaskM} (h : sat E w (taskA b t :: L)) : ∃ wv : Value, sat E w (taskP b wv t.call :: workA wv t.work :: L) := by
  obtain ⟨wv, h⟩ := h.ex
  exact ⟨wv, h.unbag⟩
theorem taskA_shut {b : Nat} {wv : Value} {t : TaskM} (h : sat E w (taskP b wv t.call :: workA wv t.work :: L)) : sat E w (taskA b t :: L) :=
  sat.mkex wv (sat.bag (M := [_, _]) h)
theorem workA_put {v : Value} {p : PutM} (h : sat E w (workA v (.put p) :: L)) : ∃ b : Nat, v = .iface 110 (.pointer (some ⟨b, 0, none⟩)) ∧ sat E w (putA b p :: L) := by
  have h' : sat E w ((fun g => ∃ b : Nat, v = .iface 110 (.pointer (some ⟨b, 0, none⟩)) ∧ putA b p g) :: L) := h
  obtain ⟨b, h'⟩ := h'.ex
  obtain ⟨e, h'⟩ := h'.pure
  exact ⟨b, e, h'⟩
theorem workA_get {v : Value} {p : GetM} (h : sat E w (workA v (.get p) :: L)) : ∃ b : Nat, v = .iface 42 (.pointer (some ⟨b, 0, none⟩)) ∧ sat E w (getA b p :: L) := by
  have h' : sat E w ((fun g => ∃ b : Nat, v = .iface 42 (.pointer (some ⟨b, 0, none⟩)) ∧ getA b p g) :: L) := h
  obtain ⟨b, h'⟩ := h'.ex
  obtain ⟨e, h'⟩ := h'.pure
  exact ⟨b, e, h'⟩
theorem workA_mkput {b : Nat} {p : PutM} (h : sat E w (putA b p :: L)) : sat E w (workA (.iface 110 (.pointer (some ⟨b, 0, none⟩))) (.put p) :: L) :=
  sat.mkex (P := fun b' g => (Value.iface 110 (.pointer (some ⟨b, 0, none⟩))) = .iface 110 (.pointer (some ⟨b', 0, none⟩)) ∧ putA b' p g) b (sat.mkpure rfl h)
theorem workA_mkget {b : Nat} {p : GetM} (h : sat E w (getA b p :: L)) : sat E w (workA (.iface 42 (.pointer (some ⟨b, 0, none⟩))) (.get p) :: L) :=
  sat.mkex (P := fun b' g => (Value.iface 42 (.pointer (some ⟨b, 0, none⟩))) = .iface 42 (.pointer (some ⟨b', 0, none⟩)) ∧ getA b' p g) b (sat.mkpure rfl h)
theorem pphase_calls (b : Nat) (p : PutM) (h : sat E w (putA b p :: L)) :
    Calls Try.prog 129 #[.pointer (some ⟨b, 0, none⟩)] w fun e w' => e = .returned (.int .i64 p.phase) ∧ w = w' := by
  obtain ⟨bc, bt, h⟩ := putA_open h
  have a0 := h.rd 0 rfl
  clear h
  go_enter Try.func129, Try.ntmps129
  go_wp2
  go_ret
  exact ⟨rfl, rfl⟩
theorem tnew_calls (c : ConfM) (hc : c.ok) (who : Int) (k : CallM) (h : sat E w L) :
    Calls Try.prog 38 #[.agg #[.int .i64 c.th, .int .i64 c.sl, .int .i64 c.src, .int .i64 c.dl], .int .i64 who, .agg #[.int .i64 k.kind, .int .i64 k.fin, .int .u64 k.value, .int .i64 k.start]] w (NewA E L (fun g => taskA g (TaskM.new c who k))) := by
  have K := Lib.hid h
  clear h
  have PN := fun w (M : List SA) (h : sat E w M) => Lib.hid (putnew_calls c who k.fin k.value h)
  have GN := fun w (M : List SA) (h : sat E w M) => Lib.hid (getnew_calls c hc who k.fin k.start h)
  by_cases hk : k.kind = 0
  · have c0 : (k.kind == 0) = true := by simpa using hk
    have HK := Lib.hid hk
    clear hk
    go_enter Try.func38, Try.ntmps38
    go_wp2_with (first | ((fail_if_success (have _h := g1)); ((with_reducible refine at_box ?_); refine st_boxf K.out rfl rfl (fun _ => rfl) ?_; intro g1 w1 K1; have K2 := Lib.hid K1; clear K1 K; (try clear a0); (try clear l0); (try clear a1); (try clear l1); (try clear a2); (try clear l2); have K := K2; clear K2; have a0 := K.out.rd 0 rfl; have l0 := K.out.ltp 0 rfl)) | ((fail_if_success (have _h := g2)); ((with_reducible refine at_box ?_); refine st_boxf K.out rfl rfl (fun _ => rfl) ?_; intro g2 w1 K1; have K2 := Lib.hid K1; clear K1 K; (try clear a0); (try clear l0); (try clear a1); (try clear l1); (try clear a2); (try clear l2); have K := K2; clear K2; have a0 := K.out.rd 0 rfl; have l0 := K.out.ltp 0 rfl; have a1 := K.out.rd 1 rfl; have l1 := K.out.ltp 1 rfl)) | ((with_reducible refine at_box ?_); refine st_boxf K.out rfl rfl (fun _ => rfl) ?_; intro g3 w1 K1; have K2 := Lib.hid K1; clear K1 K; (try clear a0); (try clear l0); (try clear a1); (try clear l1); (try clear a2); (try clear l2); have K := K2; clear K2; have a0 := K.out.rd 0 rfl; have l0 := K.out.ltp 0 rfl; have a1 := K.out.rd 1 rfl; have l1 := K.out.ltp 1 rfl; have a2 := K.out.rd 2 rfl; have l2 := K.out.ltp 2 rfl) | (go_at_call 55; (with_reducible refine ((PN _ _ (show sat E _ _ from by iterate 6 (try (with_reducible first | exact K.out | apply sat.alloc_any | apply sat.drew | apply sat.drewN)))).out).mono ?_); rintro e w1 ⟨gp, rfl, K1⟩; have K2 := Lib.hid K1; clear K1 K; (try clear a0); (try clear l0); (try clear a1); (try clear l1); (try clear a2); (try clear l2); have K := K2; clear K2; have a1 := K.out.rd 1 rfl; have l1 := K.out.ltp 1 rfl; have a2 := K.out.rd 2 rfl; have l2 := K.out.ltp 2 rfl; have a3 := K.out.rd 3 rfl; have l3 := K.out.ltp 3 rfl) | ((with_reducible refine at_store ?_); refine st_store 1 K.out rfl rfl rfl rfl ?_ ?_ ?_ ?_; (· kernel_rfl); (· simp); (· simp [Value.oneCell']); intro w1 K1; simp only [List.set, putL] at K1; have K2 := Lib.hid K1; clear K1 K; (try clear a0); (try clear l0); (try clear a1); (try clear l1); (try clear a2); (try clear l2); have K := K2; clear K2; have a1 := K.out.rd 1 rfl; have l1 := K.out.ltp 1 rfl; have a2 := K.out.rd 2 rfl; have l2 := K.out.ltp 2 rfl; have a3 := K.out.rd 3 rfl; have l3 := K.out.ltp 3 rfl))
    go_ret
    refine ⟨g3, rfl, taskA_shut (t := TaskM.new c who k) (wv := .iface 110 (.pointer (some ⟨gp, 0, none⟩))) ?_⟩
    have e : (TaskM.new c who k).work = .put (PutM.new c who k.fin k.value) := by unfold TaskM.new; rw [if_pos HK.out]
    rw [e]
    exact ((workA_mkput (((K.out.pick 3 rfl).drop.pick 2 rfl).drop)).pick 1 rfl)
  · have c0 : (k.kind == 0) = false := by simpa using hk
    have HK := Lib.hid hk
    clear hk
    go_enter Try.func38, Try.ntmps38
    go_wp2_with (first | ((fail_if_success (have _h := g1)); ((with_reducible refine at_box ?_); refine st_boxf K.out rfl rfl (fun _ => rfl) ?_; intro g1 w1 K1; have K2 := Lib.hid K1; clear K1 K; (try clear a0); (try clear l0); (try clear a1); (try clear l1); (try clear a2); (try clear l2); have K := K2; clear K2; have a0 := K.out.rd 0 rfl; have l0 := K.out.ltp 0 rfl)) | ((fail_if_success (have _h := g2)); ((with_reducible refine at_box ?_); refine st_boxf K.out rfl rfl (fun _ => rfl) ?_; intro g2 w1 K1; have K2 := Lib.hid K1; clear K1 K; (try clear a0); (try clear l0); (try clear a1); (try clear l1); (try clear a2); (try clear l2); have K := K2; clear K2; have a0 := K.out.rd 0 rfl; have l0 := K.out.ltp 0 rfl; have a1 := K.out.rd 1 rfl; have l1 := K.out.ltp 1 rfl)) | ((with_reducible refine at_box ?_); refine st_boxf K.out rfl rfl (fun _ => rfl) ?_; intro g3 w1 K1; have K2 := Lib.hid K1; clear K1 K; (try clear a0); (try clear l0); (try clear a1); (try clear l1); (try clear a2); (try clear l2); have K := K2; clear K2; have a0 := K.out.rd 0 rfl; have l0 := K.out.ltp 0 rfl; have a1 := K.out.rd 1 rfl; have l1 := K.out.ltp 1 rfl; have a2 := K.out.rd 2 rfl; have l2 := K.out.ltp 2 rfl) | (go_at_call 16; (with_reducible refine ((GN _ _ (show sat E _ _ from by iterate 6 (try (with_reducible first | exact K.out | apply sat.alloc_any | apply sat.drew | apply sat.drewN)))).out).mono ?_); rintro e w1 ⟨gp, rfl, K1⟩; have K2 := Lib.hid K1; clear K1 K; (try clear a0); (try clear l0); (try clear a1); (try clear l1); (try clear a2); (try clear l2); have K := K2; clear K2; have a1 := K.out.rd 1 rfl; have l1 := K.out.ltp 1 rfl; have a2 := K.out.rd 2 rfl; have l2 := K.out.ltp 2 rfl; have a3 := K.out.rd 3 rfl; have l3 := K.out.ltp 3 rfl) | ((with_reducible refine at_store ?_); refine st_store 1 K.out rfl rfl rfl rfl ?_ ?_ ?_ ?_; (· kernel_rfl); (· simp); (· simp [Value.oneCell']); intro w1 K1; simp only [List.set, putL] at K1; have K2 := Lib.hid K1; clear K1 K; (try clear a0); (try clear l0); (try clear a1); (try clear l1); (try clear a2); (try clear l2); have K := K2; clear K2; have a1 := K.out.rd 1 rfl; have l1 := K.out.ltp 1 rfl; have a2 := K.out.rd 2 rfl; have l2 := K.out.ltp 2 rfl; have a3 := K.out.rd 3 rfl; have l3 := K.out.ltp 3 rfl))
    go_ret
    refine ⟨g3, rfl, taskA_shut (t := TaskM.new c who k) (wv := .iface 42 (.pointer (some ⟨gp, 0, none⟩))) ?_⟩
    have e : (TaskM.new c who k).work = .get (GetM.new c who k.fin k.start) := by unfold TaskM.new; rw [if_neg HK.out]
    rw [e]
    exact ((workA_mkget (((K.out.pick 3 rfl).drop.pick 2 rfl).drop)).pick 1 rfl)
theorem beq_dec (x y : Int) : (x == y) = decide (x = y) := by by_cases h : x = y <;> simp [h]
theorem bne_dec (x : Int) : (x != 0) = !decide (x = 0) := by by_cases h : x = 0 <;> simp [h]
theorem ta_pp (a : Option Addr) (w : World) : (Instr.typeAssert (.iface 110 (.pointer a)) 107 110 true).run Try.prog w = .ok (.tuple #[.pointer a, .bool true]) w := by kernel_rfl
theorem ta_gp (a : Option Addr) (w : World) : (Instr.typeAssert (.iface 42 (.pointer a)) 107 110 true).run Try.prog w = .ok (.tuple #[.pointer none, .bool false]) w := by kernel_rfl
theorem ta_gg (a : Option Addr) (w : World) : (Instr.typeAssert (.iface 42 (.pointer a)) 107 42 true).run Try.prog w = .ok (.tuple #[.pointer a, .bool true]) w := by kernel_rfl
theorem ta_g1 (a : Option Addr) (w : World) : (Instr.typeAssert (.iface 42 (.pointer a)) 107 42 false).run Try.prog w = .ok (.pointer a) w := by kernel_rfl
attribute [local go_sem] ta_pp ta_gp ta_gg ta_g1
/-- On what a call's steps rest. -/
def WorkM.ok : WorkM → Prop
  | .put p => p.ok
  | .get g => g.ok ∧ g.snap.pass < 1000000000 ∧ g.tries < 1000000000
theorem kstep2_calls (b bm : Nat) (t : TaskM) (m : MemM) (now : Int) (ho : t.work.ok) (hroom : m.log.length < 1000000000) (h : sat E w (taskA b t :: memA bm m :: L)) :
    Calls Try.prog 41 #[.pointer (some ⟨b, 0, none⟩), .pointer (some ⟨bm, 0, none⟩), .int .i64 now] w fun e w' => e = .returned (.bool (t.step m now).1.over) ∧ sat E w' (taskA b (t.step m now).1 :: memA bm (t.step m now).2 :: L) := by
  obtain ⟨wv, h⟩ := taskA_open h
  cases hw : t.work with
  | put p =>
    rw [hw] at h ho
    obtain ⟨bp, rfl, h⟩ := workA_put (h.pick 1 rfl)
    have K := Lib.hid (h.pick 1 rfl)
    clear h
    have PS := fun w (M : List SA) (h : sat E w (putA bp p :: memA bm m :: M)) => Lib.hid (pstep_calls bp bm p m now ho hroom h)
    have e1 : (t.step m now).1 = ⟨t.call, .put (p.step m now).1⟩ := by unfold TaskM.step; rw [hw]
    have e2 : (t.step m now).2 = (p.step m now).2 := by unfold TaskM.step; rw [hw]
    rw [e1, e2]
    generalize p.step m now = r at *
    have e3 : TaskM.over ⟨t.call, .put r.1⟩ = !decide (r.1.phase = 0) := rfl
    rw [e3]
    clear e1 e2 e3 hw ho
    have K1 : sat E w (taskP b (.iface 110 (.pointer (some ⟨bp, 0, none⟩))) t.call :: putA bp p :: memA bm m :: L) := K.out
    clear K
    have K := Lib.hid K1
    clear K1
    have a0 := K.out.rd 0 rfl; have l0 := K.out.ltp 0 rfl
    go_enter Try.func41, Try.ntmps41
    go_wp2_with (first | (go_at_call 56; (with_reducible refine ((PS _ _ (show sat E _ _ from by iterate 6 (try (with_reducible first | exact K.out | apply sat.alloc_any | apply sat.drew | apply sat.drewN))).bca).out).mono ?_); rintro e w1 ⟨rfl, K1⟩; replace K1 := K1.unbca; have K2 := Lib.hid K1; clear K1 K; (try clear a0); (try clear l0); (try clear a1); (try clear l1); (try clear a2); (try clear l2); have K := K2; clear K2; have a0 := K.out.rd 0 rfl; have l0 := K.out.ltp 0 rfl))
    go_ret
    exact ⟨ret_b (bne_dec _), taskA_shut (t := ⟨t.call, .put r.1⟩) ((workA_mkput (K.out.pick 1 rfl)).pick 1 rfl)⟩
  | get g =>
    rw [hw] at h ho
    obtain ⟨bp, rfl, h⟩ := workA_get (h.pick 1 rfl)
    have K := Lib.hid (h.pick 1 rfl)
    clear h
    have PS := fun w (M : List SA) (h : sat E w (getA bp g :: memA bm m :: M)) => Lib.hid (gstep_calls bp bm g m ho.1 ho.2.1 ho.2.2 hroom h)
    have e1 : (t.step m now).1 = ⟨t.call, .get (g.step m).1⟩ := by unfold TaskM.step; rw [hw]
    have e2 : (t.step m now).2 = (g.step m).2 := by unfold TaskM.step; rw [hw]
    rw [e1, e2]
    generalize g.step m = r at *
    have e3 : TaskM.over ⟨t.call, .get r.1⟩ = !decide (r.1.phase = 0) := rfl
    rw [e3]
    clear e1 e2 e3 hw ho
    have K1 : sat E w (taskP b (.iface 42 (.pointer (some ⟨bp, 0, none⟩))) t.call :: getA bp g :: memA bm m :: L) := K.out
    clear K
    have K := Lib.hid K1
    clear K1
    have a0 := K.out.rd 0 rfl; have l0 := K.out.ltp 0 rfl
    go_enter Try.func41, Try.ntmps41
    go_wp2_with (first | (go_at_call 18; (with_reducible refine ((PS _ _ (show sat E _ _ from by iterate 6 (try (with_reducible first | exact K.out | apply sat.alloc_any | apply sat.drew | apply sat.drewN))).bca).out).mono ?_); rintro e w1 ⟨rfl, K1⟩; replace K1 := K1.unbca; have K2 := Lib.hid K1; clear K1 K; (try clear a0); (try clear l0); (try clear a1); (try clear l1); (try clear a2); (try clear l2); have K := K2; clear K2; have a0 := K.out.rd 0 rfl; have l0 := K.out.ltp 0 rfl))
    go_ret
    exact ⟨ret_b (bne_dec _), taskA_shut (t := ⟨t.call, .get r.1⟩) ((workA_mkget (K.out.pick 1 rfl)).pick 1 rfl)⟩
theorem m_put (a : Addr) (w : World) : (method 278 110 (.pointer (some a)) "Phase").run Try.prog w = .ok (129, .pointer (some a)) w := by kernel_rfl
theorem m_get (a : Addr) (w : World) : (method 278 42 (.pointer (some a)) "Phase").run Try.prog w = .ok (20, .pointer (some a)) w := by kernel_rfl
attribute [local go_sem] m_put m_get
theorem kover_calls (b : Nat) (t : TaskM) (h : sat E w (taskA b t :: L)) :
    Calls Try.prog 40 #[.pointer (some ⟨b, 0, none⟩)] w fun e w' => e = .returned (.bool t.over) ∧ w = w' := by
  obtain ⟨wv, h⟩ := taskA_open h
  cases hw : t.work with
  | put p =>
    rw [hw] at h
    obtain ⟨bp, rfl, h⟩ := workA_put (h.pick 1 rfl)
    have PS := Lib.hid (pphase_calls bp p h)
    have h2 := h.pick 1 rfl
    have a0 := h2.rd 0 rfl
    have e3 : t.over = !decide (p.phase = 0) := by unfold TaskM.over; rw [hw]; rfl
    rw [e3]
    clear h h2 hw e3
    go_enter Try.func40, Try.ntmps40
    go_wp2_with (first | (go_at_call 129; (with_reducible refine PS.out.mono ?_); rintro e w1 ⟨rfl, rfl⟩))
    go_ret
    exact ⟨ret_b (bne_dec _), rfl⟩
  | get g =>
    rw [hw] at h
    obtain ⟨bp, rfl, h⟩ := workA_get (h.pick 1 rfl)
    have PS := Lib.hid (gphase_calls bp g h)
    have h2 := h.pick 1 rfl
    have a0 := h2.rd 0 rfl
    have e3 : t.over = !decide (g.phase = 0) := by unfold TaskM.over; rw [hw]; rfl
    rw [e3]
    clear h h2 hw e3
    go_enter Try.func40, Try.ntmps40
    go_wp2_with (first | (go_at_call 20; (with_reducible refine PS.out.mono ?_); rintro e w1 ⟨rfl, rfl⟩))
    go_ret
    exact ⟨ret_b (bne_dec _), rfl⟩
def PutM.stampR (p : PutM) : StampM := if p.phase = 1 then p.tick.stamp else ⟨0, 0⟩
theorem pstamp_calls (b : Nat) (p : PutM) (h : sat E w (putA b p :: L)) :
    Calls Try.prog 57 #[.pointer (some ⟨b, 0, none⟩)] w fun e w' => e = .returned (.agg #[.int .i64 p.stampR.lo, .int .i64 p.stampR.hi]) ∧ sat E w' (putA b p :: L) := by
  have K0 := Lib.hid h
  obtain ⟨bc, bt, h⟩ := putA_open h
  have a0 := h.rd 0 rfl
  have l0 := h.ltp 0 rfl
  have TS := fun w' (M : List SA) (h : sat E w' (tickA bt p.tick :: M)) => Lib.hid (tstamp_calls bt p.tick h)
  have K := Lib.hid h
  clear h
  unfold PutM.stampR
  by_cases hp : p.phase = 1
  · rw [if_pos hp]
    have c0 : (p.phase == 1) = true := by simpa using hp
    clear hp K0
    go_enter Try.func57, Try.ntmps57
    go_wp2_with fail
    have K1 := K.out.alloc (.cells #[.int .i64 0, .int .i64 0] 54)
    obtain ⟨g2, hg2⟩ : ∃ g, g = w.heap.size := ⟨_, rfl⟩
    rw [← hg2] at K1 ⊢
    clear K hg2 a0 l0
    have K := Lib.hid K1
    clear K1
    have a0 := K.out.rd 0 rfl; have l0 := K.out.ltp 0 rfl
    go_wp2_with (first | (go_at_call 70; (with_reducible refine ((TS _ _ ((show sat E _ _ from by iterate 6 (try (with_reducible first | exact K.out | apply sat.alloc_any | apply sat.drew | apply sat.drewN))).pick 3 rfl)).out).mono ?_); rintro e w1 ⟨rfl, K1⟩; replace K1 := (K1.pick 1 rfl); have K2 := Lib.hid K1; clear K1 K; (try clear a0); (try clear l0); (try clear a1); (try clear l1); (try clear a2); (try clear l2); have K := K2; clear K2; have a0 := K.out.rd 0 rfl; have l0 := K.out.ltp 0 rfl) | ((with_reducible refine at_store ?_); refine st_store 0 K.out rfl rfl rfl rfl ?_ ?_ ?_ ?_; (· kernel_rfl); (· simp); (· simp [Value.oneCell']); intro w1 K1; simp only [List.set, putL] at K1; have K2 := Lib.hid K1; clear K1 K; (try clear a0); (try clear l0); (try clear a1); (try clear l1); (try clear a2); (try clear l2); have K := K2; clear K2; have a0 := K.out.rd 0 rfl; have l0 := K.out.ltp 0 rfl))
    refine bodyPost_ret (v := .agg #[.int .i64 p.tick.stamp.lo, .int .i64 p.tick.stamp.hi]) (by simp [results, Try.results57, go_sem, a0]) rfl ⟨rfl, putA_shut (bc := bc) (bt := bt) ?_⟩
    exact (K.out.drop.pick 2 rfl).pick 2 rfl
  · rw [if_neg hp]
    have c0 : (p.phase == 1) = false := by simpa using hp
    clear hp
    go_enter Try.func57, Try.ntmps57
    go_wp2
    exact bodyPost_ret (v := .agg #[.int .i64 0, .int .i64 0]) (by simp [results, Try.results57, go_sem]) rfl ⟨rfl, K0.out.alloc_any _⟩
theorem kreply_calls (b : Nat) (t : TaskM) (h : sat E w (taskA b t :: L)) :
    Calls Try.prog 42 #[.pointer (some ⟨b, 0, none⟩)] w fun e w' => e = .returned (.agg #[.bool t.reply.ok, .int .u64 t.reply.value, .int .i64 t.reply.stamp.lo, .int .i64 t.reply.stamp.hi]) ∧ sat E w' (taskA b t :: L) := by
  have K0 := Lib.hid h
  obtain ⟨wv, h⟩ := taskA_open h
  cases hw : t.work with
  | put p =>
    rw [hw] at h
    obtain ⟨bp, rfl, h⟩ := workA_put (h.pick 1 rfl)
    have K := Lib.hid (h.pick 1 rfl)
    clear h
    have K1 : sat E w (taskP b (.iface 110 (.pointer (some ⟨bp, 0, none⟩))) t.call :: putA bp p :: L) := K.out
    clear K
    have K := Lib.hid K1
    clear K1
    have a0 := K.out.rd 0 rfl; have l0 := K.out.ltp 0 rfl
    have PP := fun w' (M : List SA) (h : sat E w' (putA bp p :: M)) => Lib.hid (pphase_calls bp p h)
    have PS := fun w' (M : List SA) (h : sat E w' (putA bp p :: M)) => Lib.hid (pstamp_calls bp p h)
    have HW := Lib.hid hw
    by_cases hp : p.phase = 1
    · have c0 : (p.phase == 1) = true := by simpa using hp
      have e : t.reply = ⟨true, 0, p.stampR⟩ := by unfold TaskM.reply PutM.stampR; rw [hw]; simp [WorkM.phase, hp]
      rw [e]
      clear hp hw e K0
      go_enter Try.func42, Try.ntmps42
      go_wp2_with fail
      have K1 := K.out.alloc (.cells #[.bool false, .int .u64 0, .int .i64 0, .int .i64 0] 84)
      obtain ⟨g2, hg2⟩ : ∃ g, g = w.heap.size := ⟨_, rfl⟩
      rw [← hg2] at K1 ⊢
      clear K hg2 a0 l0
      have K := Lib.hid K1
      clear K1
      have a0 := K.out.rd 0 rfl; have l0 := K.out.ltp 0 rfl; have a1 := K.out.rd 1 rfl; have l1 := K.out.ltp 1 rfl
      go_wp2_with (first | (go_at_call 129; (with_reducible refine (PP _ _ (K.out.pick 2 rfl)).out.mono ?_); rintro e w1 ⟨rfl, rfl⟩) | (go_at_call 57; (with_reducible refine ((PS _ _ ((show sat E _ _ from by iterate 6 (try (with_reducible first | exact K.out | apply sat.alloc_any | apply sat.drew | apply sat.drewN))).pick 2 rfl)).out).mono ?_); rintro e w1 ⟨rfl, K1⟩; replace K1 := ((K1.pick 2 rfl).pick 2 rfl); have K2 := Lib.hid K1; clear K1 K; (try clear a0); (try clear l0); (try clear a1); (try clear l1); (try clear a2); (try clear l2); have K := K2; clear K2; have a0 := K.out.rd 0 rfl; have l0 := K.out.ltp 0 rfl; have a1 := K.out.rd 1 rfl; have l1 := K.out.ltp 1 rfl) | ((with_reducible refine at_store ?_); refine st_store 0 K.out rfl rfl rfl rfl ?_ ?_ ?_ ?_; (· kernel_rfl); (· simp); (· simp [Value.oneCell']); intro w1 K1; simp only [List.set, putL] at K1; have K2 := Lib.hid K1; clear K1 K; (try clear a0); (try clear l0); (try clear a1); (try clear l1); (try clear a2); (try clear l2); have K := K2; clear K2; have a0 := K.out.rd 0 rfl; have l0 := K.out.ltp 0 rfl; have a1 := K.out.rd 1 rfl; have l1 := K.out.ltp 1 rfl))
      refine bodyPost_ret (v := .agg #[.bool true, .int .u64 0, .int .i64 p.stampR.lo, .int .i64 p.stampR.hi]) (by simp [results, Try.results42, go_sem, a0]) rfl ⟨rfl, taskA_shut (wv := .iface 110 (.pointer (some ⟨bp, 0, none⟩))) ?_⟩
      rw [HW.out]
      exact (workA_mkput (K.out.drop.pick 1 rfl)).pick 1 rfl
    · have c0 : (p.phase == 1) = false := by simpa using hp
      have e : t.reply = ReplyM.zero := by unfold TaskM.reply; rw [hw]; simp [WorkM.phase, hp]
      rw [e]
      clear hp hw e
      go_enter Try.func42, Try.ntmps42
      go_wp2_with (first | (go_at_call 129; (with_reducible refine (PP _ _ ((K.out.alloc_any _).pick 1 rfl)).out.mono ?_); rintro e w1 ⟨rfl, rfl⟩))
      exact bodyPost_ret (v := .agg #[.bool false, .int .u64 0, .int .i64 0, .int .i64 0]) (by simp [results, Try.results42, go_sem]) rfl ⟨rfl, K0.out.alloc_any _⟩
  | get g =>
    rw [hw] at h
    obtain ⟨bp, rfl, h⟩ := workA_get (h.pick 1 rfl)
    have K := Lib.hid (h.pick 1 rfl)
    clear h
    have K1 : sat E w (taskP b (.iface 42 (.pointer (some ⟨bp, 0, none⟩))) t.call :: getA bp g :: L) := K.out
    clear K
    have K := Lib.hid K1
    clear K1
    have a0 := K.out.rd 0 rfl; have l0 := K.out.ltp 0 rfl
    have PP := fun w' (M : List SA) (h : sat E w' (getA bp g :: M)) => Lib.hid (gphase_calls bp g h)
    have PS := fun w' (M : List SA) (h : sat E w' (getA bp g :: M)) => Lib.hid (gvalue_calls bp g h)
    have HW := Lib.hid hw
    by_cases hp : g.phase = 1
    · have c0 : (g.phase == 1) = true := by simpa using hp
      have e : t.reply = ⟨true, g.value, ⟨0, 0⟩⟩ := by unfold TaskM.reply; rw [hw]; simp [WorkM.phase, hp]
      rw [e]
      clear hp hw e K0
      go_enter Try.func42, Try.ntmps42
      go_wp2_with fail
      have K1 := K.out.alloc (.cells #[.bool false, .int .u64 0, .int .i64 0, .int .i64 0] 84)
      obtain ⟨g2, hg2⟩ : ∃ g, g = w.heap.size := ⟨_, rfl⟩
      rw [← hg2] at K1 ⊢
      clear K hg2 a0 l0
      have K := Lib.hid K1
      clear K1
      have a0 := K.out.rd 0 rfl; have l0 := K.out.ltp 0 rfl; have a1 := K.out.rd 1 rfl; have l1 := K.out.ltp 1 rfl
      go_wp2_with (first | (go_at_call 20; (with_reducible refine (PP _ _ (K.out.pick 2 rfl)).out.mono ?_); rintro e w1 ⟨rfl, rfl⟩) | (go_at_call 19; (with_reducible refine (PS _ _ (K.out.pick 2 rfl)).out.mono ?_); rintro e w1 ⟨rfl, rfl⟩) | ((with_reducible refine at_store ?_); refine st_store 0 K.out rfl rfl rfl rfl ?_ ?_ ?_ ?_; (· kernel_rfl); (· simp); (· simp [Value.oneCell']); intro w1 K1; simp only [List.set, putL] at K1; have K2 := Lib.hid K1; clear K1 K; (try clear a0); (try clear l0); (try clear a1); (try clear l1); (try clear a2); (try clear l2); have K := K2; clear K2; have a0 := K.out.rd 0 rfl; have l0 := K.out.ltp 0 rfl; have a1 := K.out.rd 1 rfl; have l1 := K.out.ltp 1 rfl))
      refine bodyPost_ret (v := .agg #[.bool true, .int .u64 g.value, .int .i64 0, .int .i64 0]) (by simp [results, Try.results42, go_sem, a0]) rfl ⟨rfl, taskA_shut (wv := .iface 42 (.pointer (some ⟨bp, 0, none⟩))) ?_⟩
      rw [HW.out]
      exact (workA_mkget (K.out.drop.pick 1 rfl)).pick 1 rfl
    · have c0 : (g.phase == 1) = false := by simpa using hp
      have e : t.reply = ReplyM.zero := by unfold TaskM.reply; rw [hw]; simp [WorkM.phase, hp]
      rw [e]
      clear hp hw e
      go_enter Try.func42, Try.ntmps42
      go_wp2_with (first | (go_at_call 20; (with_reducible refine (PP _ _ ((K.out.alloc_any _).pick 1 rfl)).out.mono ?_); rintro e w1 ⟨rfl, rfl⟩))
      exact bodyPost_ret (v := .agg #[.bool false, .int .u64 0, .int .i64 0, .int .i64 0]) (by simp [results, Try.results42, go_sem]) rfl ⟨rfl, K0.out.alloc_any _⟩
end
end Go.Proofs.Ytdhcomklmckhoaa
