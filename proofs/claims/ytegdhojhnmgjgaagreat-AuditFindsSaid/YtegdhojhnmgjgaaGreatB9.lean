/- Several texts in one: Task TaskR Tasks. Each says ahead of it what it shows. -/
import Derived.Test.YtegdhojhnmgjgaaGreatB8
set_option linter.unusedVariables false
set_option linter.unusedSimpArgs false
/- A call that is under way (package task): what each of its functions does. Conditions: as its parts' (PutM.ok, GetM.ok), room for what is noted. -/
namespace Go.Proofs.YtegdhojhnmgjgaaGreat
open Go.RowKit Go.SepYtegdhojhnmgjgaaGreat
set_option maxRecDepth 100000
set_option maxHeartbeats 1000000
def workA (v : Value) : WorkM → SA
  | .put p => fun h => ∃ b : Nat, v = .iface 103 (.pointer (some ⟨b, 0, none⟩)) ∧ putA b p h
  | .get g => fun h => ∃ b : Nat, v = .iface 105 (.pointer (some ⟨b, 0, none⟩)) ∧ getA b g h
abbrev CallM.v (c : CallM) : List Value := [.int .i64 c.kind, .int .i64 c.fin, .int .u64 c.value, .int .i64 c.start]
abbrev taskP (b : Nat) (wv : Value) (c : CallM) : SA := pt b (.cells [.int .i64 c.kind, .int .i64 c.fin, .int .u64 c.value, .int .i64 c.start, wv].toArray 102 (0, 0))
def taskA (b : Nat) (t : TaskM) : SA := fun h => ∃ wv : Value, bag [taskP b wv t.call, workA wv t.work] h
section
variable {E w : World} {L : List SA}
theorem taskA_open {b : Nat} {t : TaskM} (h : sat E w (taskA b t :: L)) : ∃ wv : Value, sat E w (taskP b wv t.call :: workA wv t.work :: L) := by
  obtain ⟨wv, h⟩ := h.ex
  exact ⟨wv, h.unbag⟩
theorem taskA_shut {b : Nat} {wv : Value} {t : TaskM} (h : sat E w (taskP b wv t.call :: workA wv t.work :: L)) : sat E w (taskA b t :: L) :=
  sat.mkex wv (sat.bag (M := [_, _]) h)
theorem workA_put {v : Value} {p : PutM} (h : sat E w (workA v (.put p) :: L)) : ∃ b : Nat, v = .iface 103 (.pointer (some ⟨b, 0, none⟩)) ∧ sat E w (putA b p :: L) := by
  have h' : sat E w ((fun g => ∃ b : Nat, v = .iface 103 (.pointer (some ⟨b, 0, none⟩)) ∧ putA b p g) :: L) := h
  obtain ⟨b, h'⟩ := h'.ex
  obtain ⟨e, h'⟩ := h'.pure
  exact ⟨b, e, h'⟩
theorem workA_get {v : Value} {p : GetM} (h : sat E w (workA v (.get p) :: L)) : ∃ b : Nat, v = .iface 105 (.pointer (some ⟨b, 0, none⟩)) ∧ sat E w (getA b p :: L) := by
  have h' : sat E w ((fun g => ∃ b : Nat, v = .iface 105 (.pointer (some ⟨b, 0, none⟩)) ∧ getA b p g) :: L) := h
  obtain ⟨b, h'⟩ := h'.ex
  obtain ⟨e, h'⟩ := h'.pure
  exact ⟨b, e, h'⟩
theorem workA_mkput {b : Nat} {p : PutM} (h : sat E w (putA b p :: L)) : sat E w (workA (.iface 103 (.pointer (some ⟨b, 0, none⟩))) (.put p) :: L) :=
  sat.mkex (P := fun b' g => (Value.iface 103 (.pointer (some ⟨b, 0, none⟩))) = .iface 103 (.pointer (some ⟨b', 0, none⟩)) ∧ putA b' p g) b (sat.mkpure rfl h)
theorem workA_mkget {b : Nat} {p : GetM} (h : sat E w (getA b p :: L)) : sat E w (workA (.iface 105 (.pointer (some ⟨b, 0, none⟩))) (.get p) :: L) :=
  sat.mkex (P := fun b' g => (Value.iface 105 (.pointer (some ⟨b, 0, none⟩))) = .iface 105 (.pointer (some ⟨b', 0, none⟩)) ∧ getA b' p g) b (sat.mkpure rfl h)
theorem pphase_calls (b : Nat) (p : PutM) (h : sat E w (putA b p :: L)) :
    Calls Tryz.prog 160 #[.pointer (some ⟨b, 0, none⟩)] w fun e w' => e = .returned (.int .i64 p.phase) ∧ w = w' := by
  obtain ⟨bc, bt, h⟩ := putA_open h
  have a0 := h.rd 0 rfl
  clear h
  go_enter Tryz.func160, Tryz.ntmps160
  go_wp2
  go_ret
  exact ⟨rfl, rfl⟩
theorem tnew_calls (c : ConfM) (hc : c.ok) (who : Int) (k : CallM) (h : sat E w L) :
    Calls Tryz.prog 21 #[.agg #[.int .i64 c.th, .int .i64 c.sl, .int .i64 c.src, .int .i64 c.dl], .int .i64 who, .agg #[.int .i64 k.kind, .int .i64 k.fin, .int .u64 k.value, .int .i64 k.start]] w (NewA E L (fun g => taskA g (TaskM.new c who k))) := by
  have K := Lib.hid h
  clear h
  have PN := fun w (M : List SA) (h : sat E w M) => Lib.hid (putnew_calls c who k.fin k.value h)
  have GN := fun w (M : List SA) (h : sat E w M) => Lib.hid (getnew_calls c hc who k.fin k.start h)
  by_cases hk : k.kind = 0
  · have c0 : (k.kind == 0) = true := by simpa using hk
    have HK := Lib.hid hk
    clear hk
    go_enter Tryz.func21, Tryz.ntmps21
    go_wp2_with (first | ((fail_if_success (have _h := g1)); ((with_reducible refine at_box ?_); refine st_boxf K.out rfl rfl (fun _ => rfl) ?_; intro g1 w1 K1; have K2 := Lib.hid K1; clear K1 K; (try clear a0); (try clear l0); (try clear a1); (try clear l1); (try clear a2); (try clear l2); have K := K2; clear K2; have a0 := K.out.rd 0 rfl; have l0 := K.out.ltp 0 rfl)) | ((fail_if_success (have _h := g2)); ((with_reducible refine at_box ?_); refine st_boxf K.out rfl rfl (fun _ => rfl) ?_; intro g2 w1 K1; have K2 := Lib.hid K1; clear K1 K; (try clear a0); (try clear l0); (try clear a1); (try clear l1); (try clear a2); (try clear l2); have K := K2; clear K2; have a0 := K.out.rd 0 rfl; have l0 := K.out.ltp 0 rfl; have a1 := K.out.rd 1 rfl; have l1 := K.out.ltp 1 rfl)) | ((with_reducible refine at_box ?_); refine st_boxf K.out rfl rfl (fun _ => rfl) ?_; intro g3 w1 K1; have K2 := Lib.hid K1; clear K1 K; (try clear a0); (try clear l0); (try clear a1); (try clear l1); (try clear a2); (try clear l2); have K := K2; clear K2; have a0 := K.out.rd 0 rfl; have l0 := K.out.ltp 0 rfl; have a1 := K.out.rd 1 rfl; have l1 := K.out.ltp 1 rfl; have a2 := K.out.rd 2 rfl; have l2 := K.out.ltp 2 rfl) | (go_at_call 51; (with_reducible refine ((PN _ _ (show sat E _ _ from by iterate 6 (try (with_reducible first | exact K.out | apply sat.alloc_any | apply sat.drew | apply sat.drewN)))).out).mono ?_); rintro e w1 ⟨gp, rfl, K1⟩; have K2 := Lib.hid K1; clear K1 K; (try clear a0); (try clear l0); (try clear a1); (try clear l1); (try clear a2); (try clear l2); have K := K2; clear K2; have a1 := K.out.rd 1 rfl; have l1 := K.out.ltp 1 rfl; have a2 := K.out.rd 2 rfl; have l2 := K.out.ltp 2 rfl; have a3 := K.out.rd 3 rfl; have l3 := K.out.ltp 3 rfl) | ((with_reducible refine at_store ?_); refine st_store 1 K.out rfl rfl rfl rfl ?_ ?_ ?_ ?_; (· kernel_rfl); (· simp); (· simp [Value.oneCell']); intro w1 K1; simp only [List.set, putL] at K1; have K2 := Lib.hid K1; clear K1 K; (try clear a0); (try clear l0); (try clear a1); (try clear l1); (try clear a2); (try clear l2); have K := K2; clear K2; have a1 := K.out.rd 1 rfl; have l1 := K.out.ltp 1 rfl; have a2 := K.out.rd 2 rfl; have l2 := K.out.ltp 2 rfl; have a3 := K.out.rd 3 rfl; have l3 := K.out.ltp 3 rfl))
    go_ret
    refine ⟨g3, rfl, taskA_shut (t := TaskM.new c who k) (wv := .iface 103 (.pointer (some ⟨gp, 0, none⟩))) ?_⟩
    have e : (TaskM.new c who k).work = .put (PutM.new c who k.fin k.value) := by unfold TaskM.new; rw [if_pos HK.out]
    rw [e]
    exact ((workA_mkput (((K.out.pick 3 rfl).drop.pick 2 rfl).drop)).pick 1 rfl)
  · have c0 : (k.kind == 0) = false := by simpa using hk
    have HK := Lib.hid hk
    clear hk
    go_enter Tryz.func21, Tryz.ntmps21
    go_wp2_with (first | ((fail_if_success (have _h := g1)); ((with_reducible refine at_box ?_); refine st_boxf K.out rfl rfl (fun _ => rfl) ?_; intro g1 w1 K1; have K2 := Lib.hid K1; clear K1 K; (try clear a0); (try clear l0); (try clear a1); (try clear l1); (try clear a2); (try clear l2); have K := K2; clear K2; have a0 := K.out.rd 0 rfl; have l0 := K.out.ltp 0 rfl)) | ((fail_if_success (have _h := g2)); ((with_reducible refine at_box ?_); refine st_boxf K.out rfl rfl (fun _ => rfl) ?_; intro g2 w1 K1; have K2 := Lib.hid K1; clear K1 K; (try clear a0); (try clear l0); (try clear a1); (try clear l1); (try clear a2); (try clear l2); have K := K2; clear K2; have a0 := K.out.rd 0 rfl; have l0 := K.out.ltp 0 rfl; have a1 := K.out.rd 1 rfl; have l1 := K.out.ltp 1 rfl)) | ((with_reducible refine at_box ?_); refine st_boxf K.out rfl rfl (fun _ => rfl) ?_; intro g3 w1 K1; have K2 := Lib.hid K1; clear K1 K; (try clear a0); (try clear l0); (try clear a1); (try clear l1); (try clear a2); (try clear l2); have K := K2; clear K2; have a0 := K.out.rd 0 rfl; have l0 := K.out.ltp 0 rfl; have a1 := K.out.rd 1 rfl; have l1 := K.out.ltp 1 rfl; have a2 := K.out.rd 2 rfl; have l2 := K.out.ltp 2 rfl) | (go_at_call 52; (with_reducible refine ((GN _ _ (show sat E _ _ from by iterate 6 (try (with_reducible first | exact K.out | apply sat.alloc_any | apply sat.drew | apply sat.drewN)))).out).mono ?_); rintro e w1 ⟨gp, rfl, K1⟩; have K2 := Lib.hid K1; clear K1 K; (try clear a0); (try clear l0); (try clear a1); (try clear l1); (try clear a2); (try clear l2); have K := K2; clear K2; have a1 := K.out.rd 1 rfl; have l1 := K.out.ltp 1 rfl; have a2 := K.out.rd 2 rfl; have l2 := K.out.ltp 2 rfl; have a3 := K.out.rd 3 rfl; have l3 := K.out.ltp 3 rfl) | ((with_reducible refine at_store ?_); refine st_store 1 K.out rfl rfl rfl rfl ?_ ?_ ?_ ?_; (· kernel_rfl); (· simp); (· simp [Value.oneCell']); intro w1 K1; simp only [List.set, putL] at K1; have K2 := Lib.hid K1; clear K1 K; (try clear a0); (try clear l0); (try clear a1); (try clear l1); (try clear a2); (try clear l2); have K := K2; clear K2; have a1 := K.out.rd 1 rfl; have l1 := K.out.ltp 1 rfl; have a2 := K.out.rd 2 rfl; have l2 := K.out.ltp 2 rfl; have a3 := K.out.rd 3 rfl; have l3 := K.out.ltp 3 rfl))
    go_ret
    refine ⟨g3, rfl, taskA_shut (t := TaskM.new c who k) (wv := .iface 105 (.pointer (some ⟨gp, 0, none⟩))) ?_⟩
    have e : (TaskM.new c who k).work = .get (GetM.new c who k.fin k.start) := by unfold TaskM.new; rw [if_neg HK.out]
    rw [e]
    exact ((workA_mkget (((K.out.pick 3 rfl).drop.pick 2 rfl).drop)).pick 1 rfl)
theorem beq_dec (x y : Int) : (x == y) = decide (x = y) := by by_cases h : x = y <;> simp [h]
theorem bne_dec (x : Int) : (x != 0) = !decide (x = 0) := by by_cases h : x = 0 <;> simp [h]
theorem ta_pp (a : Option Addr) (w : World) : (Instr.typeAssert (.iface 103 (.pointer a)) 100 103 true).run Tryz.prog w = .ok (.tuple #[.pointer a, .bool true]) w := by kernel_rfl
theorem ta_gp (a : Option Addr) (w : World) : (Instr.typeAssert (.iface 105 (.pointer a)) 100 103 true).run Tryz.prog w = .ok (.tuple #[.pointer none, .bool false]) w := by kernel_rfl
theorem ta_gg (a : Option Addr) (w : World) : (Instr.typeAssert (.iface 105 (.pointer a)) 100 105 true).run Tryz.prog w = .ok (.tuple #[.pointer a, .bool true]) w := by kernel_rfl
theorem ta_g1 (a : Option Addr) (w : World) : (Instr.typeAssert (.iface 105 (.pointer a)) 100 105 false).run Tryz.prog w = .ok (.pointer a) w := by kernel_rfl
attribute [local go_sem] ta_pp ta_gp ta_gg ta_g1
/-- On what a call's steps rest. -/
def WorkM.ok : WorkM → Prop
  | .put p => p.ok
  | .get g => g.ok ∧ g.snap.pass < 1000000000 ∧ g.tries < 1000000000
theorem kstep2_calls (b bm : Nat) (t : TaskM) (m : MemM) (now : Int) (ho : t.work.ok) (hroom : m.log.length < 1000000000) (h : sat E w (taskA b t :: memA bm m :: L)) :
    Calls Tryz.prog 25 #[.pointer (some ⟨b, 0, none⟩), .pointer (some ⟨bm, 0, none⟩), .int .i64 now] w fun e w' => e = .returned (.bool (t.step m now).1.over) ∧ sat E w' (taskA b (t.step m now).1 :: memA bm (t.step m now).2 :: L) := by
  obtain ⟨wv, h⟩ := taskA_open h
  cases hw : t.work with
  | put p =>
    rw [hw] at h ho
    obtain ⟨bp, rfl, h⟩ := workA_put (h.pick 1 rfl)
    have K := Lib.hid (h.pick 1 rfl)
    clear h
    have PS := fun w (M : List SA) (h : sat E w (putA bp p :: memA bm m :: M)) => Lib.hid (pstep_calls bp bm p m now ho hroom h)
    have e1 : (t.step m now).1 = ⟨t.call, .put (p.step m now).1⟩ := by unfold TaskM.step; rw [hw]
    have e2 : (t.step m now).2 = (p.step m now).2 := by unfold TaskM.step; rw [hw]
    rw [e1, e2]
    generalize p.step m now = r at *
    have e3 : TaskM.over ⟨t.call, .put r.1⟩ = !decide (r.1.phase = 0) := rfl
    rw [e3]
    clear e1 e2 e3 hw ho
    have K1 : sat E w (taskP b (.iface 103 (.pointer (some ⟨bp, 0, none⟩))) t.call :: putA bp p :: memA bm m :: L) := K.out
    clear K
    have K := Lib.hid K1
    clear K1
    have a0 := K.out.rd 0 rfl; have l0 := K.out.ltp 0 rfl
    go_enter Tryz.func25, Tryz.ntmps25
    go_wp2_with (first | (go_at_call 53; (with_reducible refine ((PS _ _ (show sat E _ _ from by iterate 6 (try (with_reducible first | exact K.out | apply sat.alloc_any | apply sat.drew | apply sat.drewN))).bca).out).mono ?_); rintro e w1 ⟨rfl, K1⟩; replace K1 := K1.unbca; have K2 := Lib.hid K1; clear K1 K; (try clear a0); (try clear l0); (try clear a1); (try clear l1); (try clear a2); (try clear l2); have K := K2; clear K2; have a0 := K.out.rd 0 rfl; have l0 := K.out.ltp 0 rfl))
    go_ret
    exact ⟨ret_b (bne_dec _), taskA_shut (t := ⟨t.call, .put r.1⟩) ((workA_mkput (K.out.pick 1 rfl)).pick 1 rfl)⟩
  | get g =>
    rw [hw] at h ho
    obtain ⟨bp, rfl, h⟩ := workA_get (h.pick 1 rfl)
    have K := Lib.hid (h.pick 1 rfl)
    clear h
    have PS := fun w (M : List SA) (h : sat E w (getA bp g :: memA bm m :: M)) => Lib.hid (gstep_calls bp bm g m ho.1 ho.2.1 ho.2.2 hroom h)
    have e1 : (t.step m now).1 = ⟨t.call, .get (g.step m).1⟩ := by unfold TaskM.step; rw [hw]
    have e2 : (t.step m now).2 = (g.step m).2 := by unfold TaskM.step; rw [hw]
    rw [e1, e2]
    generalize g.step m = r at *
    have e3 : TaskM.over ⟨t.call, .get r.1⟩ = !decide (r.1.phase = 0) := rfl
    rw [e3]
    clear e1 e2 e3 hw ho
    have K1 : sat E w (taskP b (.iface 105 (.pointer (some ⟨bp, 0, none⟩))) t.call :: getA bp g :: memA bm m :: L) := K.out
    clear K
    have K := Lib.hid K1
    clear K1
    have a0 := K.out.rd 0 rfl; have l0 := K.out.ltp 0 rfl
    go_enter Tryz.func25, Tryz.ntmps25
    go_wp2_with (first | (go_at_call 54; (with_reducible refine ((PS _ _ (show sat E _ _ from by iterate 6 (try (with_reducible first | exact K.out | apply sat.alloc_any | apply sat.drew | apply sat.drewN))).bca).out).mono ?_); rintro e w1 ⟨rfl, K1⟩; replace K1 := K1.unbca; have K2 := Lib.hid K1; clear K1 K; (try clear a0); (try clear l0); (try clear a1); (try clear l1); (try clear a2); (try clear l2); have K := K2; clear K2; have a0 := K.out.rd 0 rfl; have l0 := K.out.ltp 0 rfl))
    go_ret
    exact ⟨ret_b (bne_dec _), taskA_shut (t := ⟨t.call, .get r.1⟩) ((workA_mkget (K.out.pick 1 rfl)).pick 1 rfl)⟩
theorem m_put (a : Addr) (w : World) : (method 317 103 (.pointer (some a)) "Phase").run Tryz.prog w = .ok (160, .pointer (some a)) w := by kernel_rfl
theorem m_get (a : Addr) (w : World) : (method 317 105 (.pointer (some a)) "Phase").run Tryz.prog w = .ok (162, .pointer (some a)) w := by kernel_rfl
attribute [local go_sem] m_put m_get
def PutM.stampR (p : PutM) : StampM := if p.phase = 1 then p.tick.stamp else ⟨0, 0⟩
theorem pstamp_calls (b : Nat) (p : PutM) (h : sat E w (putA b p :: L)) :
    Calls Tryz.prog 55 #[.pointer (some ⟨b, 0, none⟩)] w fun e w' => e = .returned (.agg #[.int .i64 p.stampR.lo, .int .i64 p.stampR.hi]) ∧ sat E w' (putA b p :: L) := by
  have K0 := Lib.hid h
  obtain ⟨bc, bt, h⟩ := putA_open h
  have a0 := h.rd 0 rfl
  have l0 := h.ltp 0 rfl
  have TS := fun w' (M : List SA) (h : sat E w' (tickA bt p.tick :: M)) => Lib.hid (tstamp_calls bt p.tick h)
  have K := Lib.hid h
  clear h
  unfold PutM.stampR
  by_cases hp : p.phase = 1
  · rw [if_pos hp]
    have c0 : (p.phase == 1) = true := by simpa using hp
    clear hp K0
    go_enter Tryz.func55, Tryz.ntmps55
    go_wp2_with fail
    have K1 := K.out.alloc (.cells #[.int .i64 0, .int .i64 0] 47)
    obtain ⟨g2, hg2⟩ : ∃ g, g = w.heap.size := ⟨_, rfl⟩
    rw [← hg2] at K1 ⊢
    clear K hg2 a0 l0
    have K := Lib.hid K1
    clear K1
    have a0 := K.out.rd 0 rfl; have l0 := K.out.ltp 0 rfl
    go_wp2_with (first | (go_at_call 79; (with_reducible refine ((TS _ _ ((show sat E _ _ from by iterate 6 (try (with_reducible first | exact K.out | apply sat.alloc_any | apply sat.drew | apply sat.drewN))).pick 3 rfl)).out).mono ?_); rintro e w1 ⟨rfl, K1⟩; replace K1 := (K1.pick 1 rfl); have K2 := Lib.hid K1; clear K1 K; (try clear a0); (try clear l0); (try clear a1); (try clear l1); (try clear a2); (try clear l2); have K := K2; clear K2; have a0 := K.out.rd 0 rfl; have l0 := K.out.ltp 0 rfl) | ((with_reducible refine at_store ?_); refine st_store 0 K.out rfl rfl rfl rfl ?_ ?_ ?_ ?_; (· kernel_rfl); (· simp); (· simp [Value.oneCell']); intro w1 K1; simp only [List.set, putL] at K1; have K2 := Lib.hid K1; clear K1 K; (try clear a0); (try clear l0); (try clear a1); (try clear l1); (try clear a2); (try clear l2); have K := K2; clear K2; have a0 := K.out.rd 0 rfl; have l0 := K.out.ltp 0 rfl))
    refine bodyPost_ret (v := .agg #[.int .i64 p.tick.stamp.lo, .int .i64 p.tick.stamp.hi]) (by simp [results, Tryz.results55, go_sem, a0]) rfl ⟨rfl, putA_shut (bc := bc) (bt := bt) ?_⟩
    exact (K.out.drop.pick 2 rfl).pick 2 rfl
  · rw [if_neg hp]
    have c0 : (p.phase == 1) = false := by simpa using hp
    clear hp
    go_enter Tryz.func55, Tryz.ntmps55
    go_wp2
    exact bodyPost_ret (v := .agg #[.int .i64 0, .int .i64 0]) (by simp [results, Tryz.results55, go_sem]) rfl ⟨rfl, K0.out.alloc_any _⟩
theorem kreply_calls (b : Nat) (t : TaskM) (h : sat E w (taskA b t :: L)) :
    Calls Tryz.prog 26 #[.pointer (some ⟨b, 0, none⟩)] w fun e w' => e = .returned (.agg #[.bool t.reply.ok, .int .u64 t.reply.value, .int .i64 t.reply.stamp.lo, .int .i64 t.reply.stamp.hi]) ∧ sat E w' (taskA b t :: L) := by
  have K0 := Lib.hid h
  obtain ⟨wv, h⟩ := taskA_open h
  cases hw : t.work with
  | put p =>
    rw [hw] at h
    obtain ⟨bp, rfl, h⟩ := workA_put (h.pick 1 rfl)
    have K := Lib.hid (h.pick 1 rfl)
    clear h
    have K1 : sat E w (taskP b (.iface 103 (.pointer (some ⟨bp, 0, none⟩))) t.call :: putA bp p :: L) := K.out
    clear K
    have K := Lib.hid K1
    clear K1
    have a0 := K.out.rd 0 rfl; have l0 := K.out.ltp 0 rfl
    have PP := fun w' (M : List SA) (h : sat E w' (putA bp p :: M)) => Lib.hid (pphase_calls bp p h)
    have PS := fun w' (M : List SA) (h : sat E w' (putA bp p :: M)) => Lib.hid (pstamp_calls bp p h)
    have HW := Lib.hid hw
    by_cases hp : p.phase = 1
    · have c0 : (p.phase == 1) = true := by simpa using hp
      have e : t.reply = ⟨true, 0, p.stampR⟩ := by unfold TaskM.reply PutM.stampR; rw [hw]; simp [WorkM.phase, hp]
      rw [e]
      clear hp hw e K0
      go_enter Tryz.func26, Tryz.ntmps26
      go_wp2_with fail
      have K1 := K.out.alloc (.cells #[.bool false, .int .u64 0, .int .i64 0, .int .i64 0] 49)
      obtain ⟨g2, hg2⟩ : ∃ g, g = w.heap.size := ⟨_, rfl⟩
      rw [← hg2] at K1 ⊢
      clear K hg2 a0 l0
      have K := Lib.hid K1
      clear K1
      have a0 := K.out.rd 0 rfl; have l0 := K.out.ltp 0 rfl; have a1 := K.out.rd 1 rfl; have l1 := K.out.ltp 1 rfl
      go_wp2_with (first | (go_at_call 160; (with_reducible refine (PP _ _ (K.out.pick 2 rfl)).out.mono ?_); rintro e w1 ⟨rfl, rfl⟩) | (go_at_call 55; (with_reducible refine ((PS _ _ ((show sat E _ _ from by iterate 6 (try (with_reducible first | exact K.out | apply sat.alloc_any | apply sat.drew | apply sat.drewN))).pick 2 rfl)).out).mono ?_); rintro e w1 ⟨rfl, K1⟩; replace K1 := ((K1.pick 2 rfl).pick 2 rfl); have K2 := Lib.hid K1; clear K1 K; (try clear a0); (try clear l0); (try clear a1); (try clear l1); (try clear a2); (try clear l2); have K := K2; clear K2; have a0 := K.out.rd 0 rfl; have l0 := K.out.ltp 0 rfl; have a1 := K.out.rd 1 rfl; have l1 := K.out.ltp 1 rfl) | ((with_reducible refine at_store ?_); refine st_store 0 K.out rfl rfl rfl rfl ?_ ?_ ?_ ?_; (· kernel_rfl); (· simp); (· simp [Value.oneCell']); intro w1 K1; simp only [List.set, putL] at K1; have K2 := Lib.hid K1; clear K1 K; (try clear a0); (try clear l0); (try clear a1); (try clear l1); (try clear a2); (try clear l2); have K := K2; clear K2; have a0 := K.out.rd 0 rfl; have l0 := K.out.ltp 0 rfl; have a1 := K.out.rd 1 rfl; have l1 := K.out.ltp 1 rfl))
      refine bodyPost_ret (v := .agg #[.bool true, .int .u64 0, .int .i64 p.stampR.lo, .int .i64 p.stampR.hi]) (by simp [results, Tryz.results26, go_sem, a0]) rfl ⟨rfl, taskA_shut (wv := .iface 103 (.pointer (some ⟨bp, 0, none⟩))) ?_⟩
      rw [HW.out]
      exact (workA_mkput (K.out.drop.pick 1 rfl)).pick 1 rfl
    · have c0 : (p.phase == 1) = false := by simpa using hp
      have e : t.reply = ReplyM.zero := by unfold TaskM.reply; rw [hw]; simp [WorkM.phase, hp]
      rw [e]
      clear hp hw e
      go_enter Tryz.func26, Tryz.ntmps26
      go_wp2_with (first | (go_at_call 160; (with_reducible refine (PP _ _ ((K.out.alloc_any _).pick 1 rfl)).out.mono ?_); rintro e w1 ⟨rfl, rfl⟩))
      exact bodyPost_ret (v := .agg #[.bool false, .int .u64 0, .int .i64 0, .int .i64 0]) (by simp [results, Tryz.results26, go_sem]) rfl ⟨rfl, K0.out.alloc_any _⟩
  | get g =>
    rw [hw] at h
    obtain ⟨bp, rfl, h⟩ := workA_get (h.pick 1 rfl)
    have K := Lib.hid (h.pick 1 rfl)
    clear h
    have K1 : sat E w (taskP b (.iface 105 (.pointer (some ⟨bp, 0, none⟩))) t.call :: getA bp g :: L) := K.out
    clear K
    have K := Lib.hid K1
    clear K1
    have a0 := K.out.rd 0 rfl; have l0 := K.out.ltp 0 rfl
    have PP := fun w' (M : List SA) (h : sat E w' (getA bp g :: M)) => Lib.hid (gphase_calls bp g h)
    have PS := fun w' (M : List SA) (h : sat E w' (getA bp g :: M)) => Lib.hid (gvalue_calls bp g h)
    have HW := Lib.hid hw
    by_cases hp : g.phase = 1
    · have c0 : (g.phase == 1) = true := by simpa using hp
      have e : t.reply = ⟨true, g.value, ⟨0, 0⟩⟩ := by unfold TaskM.reply; rw [hw]; simp [WorkM.phase, hp]
      rw [e]
      clear hp hw e K0
      go_enter Tryz.func26, Tryz.ntmps26
      go_wp2_with fail
      have K1 := K.out.alloc (.cells #[.bool false, .int .u64 0, .int .i64 0, .int .i64 0] 49)
      obtain ⟨g2, hg2⟩ : ∃ g, g = w.heap.size := ⟨_, rfl⟩
      rw [← hg2] at K1 ⊢
      clear K hg2 a0 l0
      have K := Lib.hid K1
      clear K1
      have a0 := K.out.rd 0 rfl; have l0 := K.out.ltp 0 rfl; have a1 := K.out.rd 1 rfl; have l1 := K.out.ltp 1 rfl
      go_wp2_with (first | (go_at_call 162; (with_reducible refine (PP _ _ (K.out.pick 2 rfl)).out.mono ?_); rintro e w1 ⟨rfl, rfl⟩) | (go_at_call 56; (with_reducible refine (PS _ _ (K.out.pick 2 rfl)).out.mono ?_); rintro e w1 ⟨rfl, rfl⟩) | ((with_reducible refine at_store ?_); refine st_store 0 K.out rfl rfl rfl rfl ?_ ?_ ?_ ?_; (· kernel_rfl); (· simp); (· simp [Value.oneCell']); intro w1 K1; simp only [List.set, putL] at K1; have K2 := Lib.hid K1; clear K1 K; (try clear a0); (try clear l0); (try clear a1); (try clear l1); (try clear a2); (try clear l2); have K := K2; clear K2; have a0 := K.out.rd 0 rfl; have l0 := K.out.ltp 0 rfl; have a1 := K.out.rd 1 rfl; have l1 := K.out.ltp 1 rfl))
      refine bodyPost_ret (v := .agg #[.bool true, .int .u64 g.value, .int .i64 0, .int .i64 0]) (by simp [results, Tryz.results26, go_sem, a0]) rfl ⟨rfl, taskA_shut (wv := .iface 105 (.pointer (some ⟨bp, 0, none⟩))) ?_⟩
      rw [HW.out]
      exact (workA_mkget (K.out.drop.pick 1 rfl)).pick 1 rfl
    · have c0 : (g.phase == 1) = false := by simpa using hp
      have e : t.reply = ReplyM.zero := by unfold TaskM.reply; rw [hw]; simp [WorkM.phase, hp]
      rw [e]
      clear hp hw e
      go_enter Tryz.func26, Tryz.ntmps26
      go_wp2_with (first | (go_at_call 162; (with_reducible refine (PP _ _ ((K.out.alloc_any _).pick 1 rfl)).out.mono ?_); rintro e w1 ⟨rfl, rfl⟩))
      exact bodyPost_ret (v := .agg #[.bool false, .int .u64 0, .int .i64 0, .int .i64 0]) (by simp [results, Tryz.results26, go_sem]) rfl ⟨rfl, K0.out.alloc_any _⟩
/-- Which calls there may be. -/
theorem cright_calls (k : CallM) (w : World) : Tells 50 #[.agg #[.int .i64 k.kind, .int .i64 k.fin, .int .u64 k.value, .int .i64 k.start]] w (.bool k.right) := by
  have K := Lib.hid (sat.start w)
  unfold CallM.right
  by_cases h0 : k.kind = 0
  · have c0 : (k.kind == 0) = true := by simpa using h0
    by_cases h1 : k.fin = 0
    · have c1 : (k.fin == 0) = true := by simpa using h1
      go_enter Tryz.func50, Tryz.ntmps50
      go_wp2_with (first | ((with_reducible refine at_box ?_); refine st_boxf K.out rfl rfl (fun _ => rfl) ?_; intro g1 w1 K1; have K2 := Lib.hid K1; clear K1 K; (try clear a0); (try clear l0); (try clear a1); (try clear l1); (try clear a2); (try clear l2); have K := K2; clear K2; have a0 := K.out.rd 0 rfl; have l0 := K.out.ltp 0 rfl))
      go_ret
      exact ⟨ret_b (by simp [h0, h1]), K.out.below⟩
    · have c1 : (k.fin == 0) = false := by simpa using h1
      go_enter Tryz.func50, Tryz.ntmps50
      go_wp2_with (first | ((with_reducible refine at_box ?_); refine st_boxf K.out rfl rfl (fun _ => rfl) ?_; intro g1 w1 K1; have K2 := Lib.hid K1; clear K1 K; (try clear a0); (try clear l0); (try clear a1); (try clear l1); (try clear a2); (try clear l2); have K := K2; clear K2; have a0 := K.out.rd 0 rfl; have l0 := K.out.ltp 0 rfl))
      go_ret
      exact ⟨ret_b (by simp [h0, h1]; exact beq_dec _ _), K.out.below⟩
  · have c0 : (k.kind == 0) = false := by simpa using h0
    by_cases h2 : k.kind = 1
    · have c2 : (k.kind == 1) = true := by simpa using h2
      by_cases h1 : k.fin = 0
      · have c1 : (k.fin == 0) = true := by simpa using h1
        go_enter Tryz.func50, Tryz.ntmps50
        go_wp2_with (first | ((with_reducible refine at_box ?_); refine st_boxf K.out rfl rfl (fun _ => rfl) ?_; intro g1 w1 K1; have K2 := Lib.hid K1; clear K1 K; (try clear a0); (try clear l0); (try clear a1); (try clear l1); (try clear a2); (try clear l2); have K := K2; clear K2; have a0 := K.out.rd 0 rfl; have l0 := K.out.ltp 0 rfl))
        go_ret
        exact ⟨ret_b (by simp [h0, h1, h2]), K.out.below⟩
      · have c1 : (k.fin == 0) = false := by simpa using h1
        go_enter Tryz.func50, Tryz.ntmps50
        go_wp2_with (first | ((with_reducible refine at_box ?_); refine st_boxf K.out rfl rfl (fun _ => rfl) ?_; intro g1 w1 K1; have K2 := Lib.hid K1; clear K1 K; (try clear a0); (try clear l0); (try clear a1); (try clear l1); (try clear a2); (try clear l2); have K := K2; clear K2; have a0 := K.out.rd 0 rfl; have l0 := K.out.ltp 0 rfl))
        go_ret
        exact ⟨ret_b (by simp [h0, h1, h2]; exact beq_dec _ _), K.out.below⟩
    · have c2 : (k.kind == 1) = false := by simpa using h2
      go_enter Tryz.func50, Tryz.ntmps50
      go_wp2_with (first | ((with_reducible refine at_box ?_); refine st_boxf K.out rfl rfl (fun _ => rfl) ?_; intro g1 w1 K1; have K2 := Lib.hid K1; clear K1 K; (try clear a0); (try clear l0); (try clear a1); (try clear l1); (try clear a2); (try clear l2); have K := K2; clear K2; have a0 := K.out.rd 0 rfl; have l0 := K.out.ltp 0 rfl))
      go_ret
      exact ⟨ret_b (by simp [h0, h2]), K.out.below⟩
end
end Go.Proofs.YtegdhojhnmgjgaaGreat
/- What a step of a call keeps of the conditions on which the contracts rest: plain lemmas on the model. -/
namespace Go.Proofs.YtegdhojhnmgjgaaGreat
/-! ### What is put in -/
theorem PutM.new_ok {c : ConfM} (hc : c.ok) {who : Int} (h0 : 0 ≤ who) (h1 : who < c.th) (fin : Int) {value : Int} (hv : 0 ≤ value ∧ value < 18446744073709551616) : (PutM.new c who fin value).ok :=
  ⟨hc, h0, h1, ClaimM.new_ok hc h0 h1, TickM.new_ok hc h0 h1, rfl, rfl, hv.1, hv.2, Int.le_refl _, by show (0 : Int) ≤ 8191; omega⟩
structure PutM.okn (n : Int) (p : PutM) : Prop where
  ok : p.ok
  steps : p.tick.steps ≤ n
  tc : p.tick.conf = p.conf
  tw : p.tick.who = p.who
structure PutM.kept (n : Int) (p p' : PutM) : Prop where
  okn : p'.okn n
  conf : p'.conf = p.conf
  who : p'.who = p.who
  fin : p'.fin = p.fin
  value : p'.value = p.value
theorem PutM.new_okn {c : ConfM} (hc : c.ok) {who : Int} (h0 : 0 ≤ who) (h1 : who < c.th) (fin : Int) {value : Int} (hv : 0 ≤ value ∧ value < 18446744073709551616) : (PutM.new c who fin value).okn 0 :=
  ⟨PutM.new_ok hc h0 h1 fin hv, Int.le_refl _, rfl, rfl⟩
theorem PutM.step_kept {p : PutM} {m : MemM} {now n : Int} (h : p.okn n) (hm : m.wf) (hnow : 0 ≤ now) (hn : n < 1000000000) : PutM.kept (n + 1) p (p.step m now).1 := by
  have hs := h.steps
  unfold PutM.step
  split
  · exact ⟨⟨h.ok, by show p.tick.steps ≤ _; omega, h.tc, h.tw⟩, rfl, rfl, rfl, rfl⟩
  · split
    · have hk := ClaimM.step_kept (m := m) h.ok.claim
      have hg := hk.gen h.ok.gen0 h.ok.gen1
      exact ⟨⟨⟨h.ok.conf, h.ok.who0, h.ok.who1, hk.ok, h.ok.tick, hk.conf.trans h.ok.cc, hk.who.trans h.ok.cw, h.ok.value0, h.ok.value1, hg.1, hg.2⟩, by show p.tick.steps ≤ _; omega, h.tc, h.tw⟩, rfl, rfl, rfl, rfl⟩
    · split
      · have hk := TickM.step_kept (m := m) h.ok.tick hm hnow (by omega)
        have hks := hk.steps
        exact ⟨⟨⟨h.ok.conf, h.ok.who0, h.ok.who1, h.ok.claim, hk.ok, h.ok.cc, h.ok.cw, h.ok.value0, h.ok.value1, h.ok.gen0, h.ok.gen1⟩, by show (p.tick.step m now).1.steps ≤ _; omega, hk.conf.trans h.tc, hk.who.trans h.tw⟩, rfl, rfl, rfl, rfl⟩
      · split
        · exact ⟨⟨⟨h.ok.conf, h.ok.who0, h.ok.who1, h.ok.claim, h.ok.tick, h.ok.cc, h.ok.cw, h.ok.value0, h.ok.value1, h.ok.gen0, h.ok.gen1⟩, by show p.tick.steps ≤ _; omega, h.tc, h.tw⟩, rfl, rfl, rfl, rfl⟩
        · exact ⟨⟨⟨h.ok.conf, h.ok.who0, h.ok.who1, h.ok.claim, h.ok.tick, h.ok.cc, h.ok.cw, h.ok.value0, h.ok.value1, h.ok.gen0, h.ok.gen1⟩, by show p.tick.steps ≤ _; omega, h.tc, h.tw⟩, rfl, rfl, rfl, rfl⟩
/-- The parts of a Put that are not begun, or not yet over. -/
structure PutM.live (p : PutM) : Prop where
  claim : p.phase = 0 → p.claim.phase = 0 ∨ p.claim.phase = 1
  tick : p.phase = 0 → p.tick.phase = 0 ∨ p.tick.phase = 1
/-- What a step does to the cells: it may touch one, or none (a clock). -/
structure MemM.near (m m' : MemM) : Prop where
  len : m'.cells.length = m.cells.length
  wf : m.wf → m'.wf
  log : m'.log.length ≤ m.log.length + 1
theorem near_refl (m : MemM) : MemM.near m m := ⟨rfl, id, by omega⟩
theorem near_touch (m : MemM) (who op cell old x : Int) (hx : 0 ≤ x ∧ x < 18446744073709551616) : MemM.near m (m.touch who op cell old x) :=
  ⟨MemM.touch_length _ _ _ _ _ _, fun hw => MemM.touch_wf hw _ _ _ _ _ hx, MemM.touch_log _ _ _ _ _ _⟩
theorem ClaimM.step_near (c : ClaimM) (m : MemM) : MemM.near m (c.step m).2 := by
  unfold ClaimM.step
  split
  · exact near_refl m
  · split
    · exact near_touch _ _ _ _ _ _ (by omega)
    · exact near_touch _ _ _ _ _ _ (by omega)
theorem TickM.step_near {t : TickM} (ho : t.ok) (m : MemM) (now : Int) : MemM.near m (t.step m now).2 := by
  have ha := ho.a0
  have ha1 := ho.a1
  unfold TickM.step
  split
  · exact near_refl m
  · dsimp only
    split
    · exact near_touch _ _ _ _ _ _ (by omega)
    · split
      · unfold TickM.stutter
        split
        · exact near_touch _ _ _ _ _ _ (by omega)
        · dsimp only
          split
          · exact near_touch _ _ _ _ _ _ (by omega)
          · exact near_refl m
      · split
        · unfold TickM.swap
          (repeat' split) <;> first | exact near_refl m | exact near_touch _ _ _ _ _ _ (by omega)
        · (repeat' split) <;> exact near_refl m
theorem PutM.step_near {p : PutM} (ho : p.ok) (m : MemM) (now : Int) : MemM.near m (p.step m now).2 := by
  have hv := And.intro ho.value0 ho.value1
  unfold PutM.step
  split
  · exact near_refl m
  · split
    · exact ClaimM.step_near _ _
    · split
      · exact TickM.step_near ho.tick _ _
      · split
        · exact near_touch _ _ _ _ _ _ hv
        · exact near_touch _ _ _ _ _ _ (pack_bd _)
theorem SnapM.step_near (s : SnapM) (m : MemM) : MemM.near m (s.step m).2 := by
  unfold SnapM.step
  split
  · exact near_refl m
  · exact near_touch _ _ _ _ _ _ (by omega)
theorem TakeM.step_near {t : TakeM} (ho : t.ok) (m : MemM) : MemM.near m (t.step m).2 := by
  have hal := ho.conf.all_bd
  have h1 := ho.slot0
  have h2 := ho.slot1
  unfold TakeM.step
  split
  · exact near_refl m
  · split
    · exact near_touch _ _ _ _ _ _ (by omega)
    · dsimp only
      (repeat' split)
      · exact near_touch _ _ _ _ _ _ (by omega)
      · exact near_touch _ _ _ _ _ _ (by omega)
      · exact near_touch _ _ _ _ _ _ (by omega)
      · exact near_touch _ _ _ _ _ _ (pack_bd _)
      · exact near_touch _ _ _ _ _ _ (by omega)
theorem GetM.step_near {g : GetM} (ho : g.ok) (m : MemM) : MemM.near m (g.step m).2 := by
  by_cases hp : g.phase = 0
  · cases ht : g.take with
    | none => rw [GetM.step_none hp ht]; exact SnapM.step_near _ _
    | some t => rw [GetM.step_some hp ht]; exact TakeM.step_near (ho.take t ht) _
  · rw [GetM.step_off hp]; exact near_refl m
/-! ### Calls -/
def CallM.wf (c : CallM) : Prop := 0 ≤ c.value ∧ c.value < 18446744073709551616
def WorkM.conf : WorkM → ConfM
  | .put p => p.conf
  | .get g => g.conf
def WorkM.who : WorkM → Int
  | .put p => p.who
  | .get g => g.who
def WorkM.okn (n : Int) : WorkM → Prop
  | .put p => p.okn n
  | .get g => g.okn n
theorem WorkM.okn.ok {n : Int} {k : WorkM} (h : k.okn n) (hn : n < 1000000000) : k.ok := by
  cases k with
  | put p => exact PutM.okn.ok h
  | get g =>
    have h' : g.okn n := h
    have h1 := h'.pass
    have h2 := h'.tries
    exact ⟨h'.ok, by omega, by omega⟩
theorem WorkM.okn.mono {n k : Int} {w : WorkM} (h : w.okn n) (hn : n ≤ k) : w.okn k := by
  cases w with
  | put p =>
    have h' : p.okn n := h
    have := h'.steps
    exact (⟨h'.ok, by omega, h'.tc, h'.tw⟩ : p.okn k)
  | get g =>
    have h' : g.okn n := h
    have h1 := h'.pass
    have h2 := h'.tries
    exact (⟨h'.ok, by omega, by omega, fun t ht => by have := h'.steps t ht; omega⟩ : g.okn k)
structure TaskM.okn (c : ConfM) (who n : Int) (t : TaskM) : Prop where
  work : t.work.okn n
  conf : t.work.conf = c
  who : t.work.who = who
theorem TaskM.okn.mono {c : ConfM} {who n k : Int} {t : TaskM} (h : t.okn c who n) (hn : n ≤ k) : t.okn c who k := ⟨h.work.mono hn, h.conf, h.who⟩
theorem TaskM.new_okn {c : ConfM} (hc : c.ok) {who : Int} (h0 : 0 ≤ who) (h1 : who < c.th) {k : CallM} (hk : k.wf) : (TaskM.new c who k).okn c who 0 := by
  unfold TaskM.new
  split
  · exact ⟨PutM.new_okn hc h0 h1 k.fin hk, rfl, rfl⟩
  · exact ⟨GetM.new_okn hc h0 h1 k.fin k.start, rfl, rfl⟩
theorem TaskM.step_okn {c : ConfM} {who n : Int} {t : TaskM} {m : MemM} {now : Int} (h : t.okn c who n) (h0 : 0 ≤ n) (hn : n < 1000000000) (hm : m.wf) (hnow : 0 ≤ now) : (t.step m now).1.okn c who (n + 1) ∧ (t.step m now).1.call = t.call ∧ MemM.near m (t.step m now).2 := by
  obtain ⟨call, work⟩ := t
  cases work with
  | put p =>
    have h' : p.okn n := h.work
    have hk := PutM.step_kept (m := m) h' hm hnow hn
    exact ⟨⟨hk.okn, hk.conf.trans h.conf, hk.who.trans h.who⟩, rfl, PutM.step_near h'.ok m now⟩
  | get g =>
    have h' : g.okn n := h.work
    have hk := GetM.step_kept (m := m) h' h0 hn hm
    exact ⟨⟨hk.okn, hk.conf.trans h.conf, hk.who.trans h.who⟩, rfl, GetM.step_near h'.ok m⟩
end Go.Proofs.YtegdhojhnmgjgaaGreat
/- Calls that are under way, by threads: a row of pointers and what they point at. Plain lemmas; no condition. -/
namespace Go.Proofs.YtegdhojhnmgjgaaGreat
open Go.RowKit Go.SepYtegdhojhnmgjgaaGreat
def emp : SA := fun h => ∀ b, h b = none
def taskO (v : Value) : Option TaskM → SA
  | none => fun h => v = .pointer none ∧ ∀ b, h b = none
  | some t => fun h => ∃ b : Nat, v = .pointer (some ⟨b, 0, none⟩) ∧ taskA b t h
def tasksA : List Value → List (Option TaskM) → SA
  | [], [] => emp
  | v :: vs, t :: ts => star (taskO v t) (tasksA vs ts)
  | _, _ => fun _ => False
theorem star_emp {A B : SA} {h : Hp} (x : A h) (e : ∀ g, (∀ b, g b = none) → B g) : star B A h :=
  ⟨fun _ => none, h, fun _ => .inl rfl, (both_none_left (fun _ => rfl)).symm, e _ (fun _ => rfl), x⟩
theorem star_left {A B C : SA} {h : Hp} (x : star A (star B C) h) : star (star A B) C h := star_assoc.2 x
theorem tasks_out : ∀ (vs : List Value) (ts : List (Option TaskM)) (i : Nat) (hi : i < ts.length) {h : Hp}, tasksA vs ts h → ∃ v, vs[i]? = some v ∧ star (taskO v ts[i]) (tasksA (vs.set i (.pointer none)) (ts.set i none)) h
  | [], [], i, hi, _, _ => by simp at hi
  | [], _ :: _, _, _, _, x => x.elim
  | _ :: _, [], i, hi, _, _ => by simp at hi
  | v :: vs, t :: ts, 0, _, h, x => by
    refine ⟨v, rfl, ?_⟩
    exact star_mono (fun _ => id) (fun g y => star_emp y (fun g hg => ⟨rfl, hg⟩)) x
  | v :: vs, t :: ts, i + 1, hi, h, x => by
    obtain ⟨h1, h2, a, e, y, z⟩ := x
    obtain ⟨u, hu, w⟩ := tasks_out vs ts i (by simpa using hi) z
    refine ⟨u, hu, ?_⟩
    have q : star (taskO v t) (star (taskO u (ts[i]'(by simpa using hi))) (tasksA (vs.set i (.pointer none)) (ts.set i none))) h := ⟨h1, h2, a, e, y, w⟩
    exact star_swap q
theorem tasks_in : ∀ (vs : List Value) (ts : List (Option TaskM)) (i : Nat) (hi : i < ts.length) (v : Value) (t : Option TaskM) {h : Hp}, star (taskO v t) (tasksA (vs.set i (.pointer none)) (ts.set i none)) h → tasksA (vs.set i v) (ts.set i t) h
  | [], [], i, hi, _, _, _, _ => by simp at hi
  | [], _ :: _, i, _, _, _, _, x => by
    obtain ⟨h1, h2, a, e, y, z⟩ := x
    cases i <;> exact z.elim
  | _ :: _, [], i, hi, _, _, _, _ => by simp at hi
  | v0 :: vs, t0 :: ts, 0, _, v, t, h, x => by
    obtain ⟨h1, h2, a, e, y, z⟩ := x
    obtain ⟨g1, g2, a', e', ⟨_, y'⟩, z'⟩ := z
    have e2 : h2 = g2 := by rw [e']; exact both_none_left y'
    subst e2
    exact ⟨h1, h2, a, e, y, z'⟩
  | v0 :: vs, t0 :: ts, i + 1, hi, v, t, h, x => by
    have q : star (taskO v0 t0) (star (taskO v t) (tasksA (vs.set i (.pointer none)) (ts.set i none))) h := star_swap x
    exact star_mono (fun _ => id) (fun g y => tasks_in vs ts i (by simpa using hi) v t y) q
theorem tasks_new : ∀ n : Nat, ∀ h : Hp, (∀ b, h b = none) → tasksA (List.replicate n (.pointer none)) (List.replicate n none) h
  | 0, _, x => x
  | n + 1, h, x => star_emp (tasks_new n h x) (fun g hg => ⟨rfl, hg⟩)
theorem tasks_len : ∀ (vs : List Value) (ts : List (Option TaskM)) {h : Hp}, tasksA vs ts h → vs.length = ts.length
  | [], [], _, _ => rfl
  | [], _ :: _, _, x => x.elim
  | _ :: _, [], _, x => x.elim
  | v :: vs, t :: ts, h, x => by
    obtain ⟨h1, h2, a, e, y, z⟩ := x
    simp [tasks_len vs ts z]
section
variable {E w : World} {L : List SA}
theorem sat_unstar {A B : SA} (h : sat E w (star A B :: L)) : sat E w (A :: B :: L) := by
  obtain ⟨b, g, x, y⟩ := h
  exact ⟨b, g, star_assoc.1 x, y⟩
theorem sat_star {A B : SA} (h : sat E w (A :: B :: L)) : sat E w (star A B :: L) := by
  obtain ⟨b, g, x, y⟩ := h
  exact ⟨b, g, star_assoc.2 x, y⟩
theorem sat_has {A : SA} {P : Prop} (h : sat E w (A :: L)) (f : ∀ g, A g → P) : P := by
  obtain ⟨_, _, ⟨h1, h2, _, _, z, _⟩, _⟩ := h
  exact f _ z
theorem tasks_pick {vs : List Value} {ts : List (Option TaskM)} (i : Nat) (hi : i < ts.length) (h : sat E w (tasksA vs ts :: L)) : ∃ v, vs[i]? = some v ∧ sat E w (taskO v ts[i] :: tasksA (vs.set i (.pointer none)) (ts.set i none) :: L) := by
  have hl := sat_has h (fun g => tasks_len vs ts)
  obtain ⟨v, hv⟩ : ∃ v, vs[i]? = some v := ⟨vs[i], List.getElem?_eq_getElem (by omega)⟩
  refine ⟨v, hv, sat_unstar (h.imp (fun g x => ?_))⟩
  obtain ⟨u, hu, y⟩ := tasks_out vs ts i hi x
  rw [hv] at hu
  rw [Option.some.inj hu]
  exact y
theorem tasks_put {vs : List Value} {ts : List (Option TaskM)} (i : Nat) (hi : i < ts.length) (v : Value) (t : Option TaskM) (h : sat E w (taskO v t :: tasksA (vs.set i (.pointer none)) (ts.set i none) :: L)) : sat E w (tasksA (vs.set i v) (ts.set i t) :: L) :=
  (sat_star h).imp (fun g x => tasks_in vs ts i hi v t x)
theorem tasks_mk (n : Nat) (h : sat E w L) : sat E w (tasksA (List.replicate n (.pointer none)) (List.replicate n none) :: L) := h.emp (fun g hg => tasks_new n g hg)
theorem taskO_none {v : Value} (h : sat E w (taskO v none :: L)) : v = .pointer none ∧ sat E w L := by
  have h' : sat E w ((fun g => v = .pointer none ∧ ∀ b, g b = none) :: L) := h
  obtain ⟨e, h'⟩ := h'.pure
  exact ⟨e, h'.drop⟩
theorem taskO_mk (h : sat E w L) : sat E w (taskO (.pointer none) none :: L) := h.emp (fun g hg => ⟨rfl, hg⟩)
theorem taskO_some {v : Value} {t : TaskM} (h : sat E w (taskO v (some t) :: L)) : ∃ b : Nat, v = .pointer (some ⟨b, 0, none⟩) ∧ sat E w (taskA b t :: L) := by
  have h' : sat E w ((fun g => ∃ b : Nat, v = .pointer (some ⟨b, 0, none⟩) ∧ taskA b t g) :: L) := h
  obtain ⟨b, h'⟩ := h'.ex
  obtain ⟨e, h'⟩ := h'.pure
  exact ⟨b, e, h'⟩
theorem taskO_put {b : Nat} {t : TaskM} (h : sat E w (taskA b t :: L)) : sat E w (taskO (.pointer (some ⟨b, 0, none⟩)) (some t) :: L) :=
  sat.mkex (P := fun b' g => (Value.pointer (some ⟨b, 0, none⟩)) = .pointer (some ⟨b', 0, none⟩) ∧ taskA b' t g) b (sat.mkpure rfl h)
end
end Go.Proofs.YtegdhojhnmgjgaaGreat
