/- Behind its end a call does nothing more, and its reply stays (TaskRests answers true at every input). No condition beyond the row's own. -/
import Derived.Test.YtlnfbfnccefcnaaTaskH
import Derived.Test.YtlnfbfnccefcnaaPutE
import Derived.Test.YtlnfbfnccefcnaaGetStarts
namespace Go.Proofs.Ytlnfbfnccefcnaa
open Go.RowKit Go.SepYtlnfbfnccefcnaa
set_option linter.unusedSimpArgs false
set_option linter.unusedVariables false
set_option maxRecDepth 100000
set_option maxHeartbeats 40000000
theorem least (P : Nat → Bool) : ∀ K, P K = true → ∃ N, N ≤ K ∧ P N = true ∧ ∀ j, j < N → P j = false := by
  intro K
  induction K using Nat.strongRecOn with
  | _ K ih =>
    intro hK
    by_cases h : ∃ j, j < K ∧ P j = true
    · obtain ⟨j, hj, hp⟩ := h
      obtain ⟨N, h1, h2, h3⟩ := ih j hj hp
      exact ⟨N, by omega, h2, h3⟩
    · refine ⟨K, Nat.le_refl _, hK, fun j hj => ?_⟩
      cases q : P j with
      | false => rfl
      | true => exact (h ⟨j, hj, q⟩).elim
theorem over_step {t : TaskM} (h : t.over = true) (m : MemM) (now : Int) : t.step m now = (t, m) := by
  obtain ⟨k, x⟩ := t
  cases x with
  | put p =>
    have hp : p.phase ≠ 0 := by unfold TaskM.over WorkM.phase at h; simpa using h
    show ((⟨k, .put (p.step m now).1⟩ : TaskM), (p.step m now).2) = _
    unfold PutM.step
    rw [if_pos hp]
  | get g =>
    have hp : g.phase ≠ 0 := by unfold TaskM.over WorkM.phase at h; simpa using h
    show ((⟨k, .get (g.step m).1⟩ : TaskM), (g.step m).2) = _
    unfold GetM.step
    rw [if_pos hp]
theorem put_runs {c : ConfM} {k : CallM} {p : PutM} (hi : p.inv) (hc : p.conf = c) (m : MemM) : ∀ j : Nat, (∀ i, i < j → (TaskM.runT ⟨k, .put p⟩ m i).1.over = false) → ∃ q, (TaskM.runT ⟨k, .put p⟩ m j).1 = ⟨k, .put q⟩ ∧ q.inv ∧ q.conf = c ∧ q.meas + j ≤ p.meas
  | 0, _ => ⟨p, rfl, hi, hc, by show p.meas + 0 ≤ _; omega⟩
  | j + 1, h => by
    obtain ⟨q, e, q1, q2, q3⟩ := put_runs hi hc m j (fun i hi' => h i (by omega))
    have ho := h j (by omega)
    rw [e] at ho
    have hp : q.phase = 0 := by unfold TaskM.over WorkM.phase at ho; simpa using ho
    have f := PutM.step_fell (m := (TaskM.runT ⟨k, .put p⟩ m j).2) (now := (j : Int)) q1 hp
    refine ⟨(q.step (TaskM.runT ⟨k, .put p⟩ m j).2 j).1, ?_, f.inv, f.conf.trans q2, ?_⟩
    · show ((TaskM.runT ⟨k, .put p⟩ m j).1.step (TaskM.runT ⟨k, .put p⟩ m j).2 j).1 = _
      rw [e]; rfl
    · have := f.meas
      omega
theorem get_runs (k : CallM) (g : GetM) (m : MemM) : ∀ j : Nat, TaskM.runT ⟨k, .get g⟩ m j = (⟨k, .get (GetM.run g m j).1⟩, (GetM.run g m j).2)
  | 0 => rfl
  | j + 1 => by
    show (TaskM.runT ⟨k, .get g⟩ m j).1.step (TaskM.runT ⟨k, .get g⟩ m j).2 j = _
    rw [get_runs k g m j]
    rfl
/-- A call that is alone comes to its end. -/
theorem call_ends {c : ConfM} (hc : c.ok) (h4 : c.th ≤ 4) (s4 : c.sl ≤ 4) (d4 : c.dl ≤ 3) {who : Int} (w0 : 0 ≤ who) (w1 : who < c.th) (k : CallM) {m : MemM} (hl : (m.cells.length : Int) = c.cells) :
    ∃ N, N ≤ 100 ∧ (TaskM.runT (TaskM.new c who k) m N).1.over = true ∧ ∀ j, j < N → (TaskM.runT (TaskM.new c who k) m j).1.over = false := by
  have key : ∃ j, j ≤ 100 ∧ (TaskM.runT (TaskM.new c who k) m j).1.over = true := by
    have hth := hc.th1
    have hsl := hc.sl1
    have hdl := hc.dl1
    have hm : c.sl * (c.th + 1) ≤ 4 * 5 := Int.mul_le_mul s4 (by omega) (by omega) (by omega)
    unfold TaskM.new
    split
    · have hi := PutM.new_inv hth hsl hdl who k.fin k.value
      have hme := PutM.new_meas c who k.fin k.value
      have hmost : PutM.most c ≤ 30 := by
        unfold PutM.most TickM.most
        (repeat' split) <;> omega
      by_cases h : ∃ j, j ≤ 100 ∧ (TaskM.runT ⟨k, .put (PutM.new c who k.fin k.value)⟩ m j).1.over = true
      · exact h
      · have hall : ∀ i, i < 60 → (TaskM.runT ⟨k, .put (PutM.new c who k.fin k.value)⟩ m i).1.over = false := fun i hi' => by
          cases q : (TaskM.runT ⟨k, .put (PutM.new c who k.fin k.value)⟩ m i).1.over with
          | false => rfl
          | true => exact (h ⟨i, by omega, q⟩).elim
        obtain ⟨q, e, q1, q2, q3⟩ := put_runs (k := k) hi rfl m 50 (fun i hi' => hall i (by omega))
        have ho := hall 50 (by omega)
        rw [e] at ho
        have hp : q.phase = 0 := by unfold TaskM.over WorkM.phase at ho; simpa using ho
        have := PutM.meas_pos q1 hp
        rw [hme] at q3
        omega
    · have hal : c.all ≤ 4 * 4 := Int.mul_le_mul h4 s4 (by omega) (by omega)
      refine ⟨2 * c.all.toNat + 5, by omega, ?_⟩
      rw [get_runs]
      have hA := (alone_atEnd hc (fin := k.fin) (st := k.start) w0 w1 hl).phase
      show (!decide ((GetM.run (GetM.new c who k.fin k.start) m (2 * c.all.toNat + 5)).1.phase = 0)) = true
      rw [hA]
      split <;> decide
  obtain ⟨K, hK, hp⟩ := key
  obtain ⟨N, h1, h2, h3⟩ := least (fun j => (TaskM.runT (TaskM.new c who k) m j).1.over) K hp
  exact ⟨N, by omega, h2, h3⟩
theorem reply_kind {c : ConfM} {who : Int} {k : CallM} {m : MemM} (N : Nat) : (k.kind = 0 → (TaskM.runT (TaskM.new c who k) m N).1.reply.value = 0) ∧ (k.kind ≠ 0 → (TaskM.runT (TaskM.new c who k) m N).1.reply.stamp = ⟨0, 0⟩) := by
  have hp : ∀ (p : PutM) (j : Nat), ∃ q, (TaskM.runT ⟨k, .put p⟩ m j).1 = ⟨k, .put q⟩ := by
    intro p j
    induction j with
    | zero => exact ⟨p, rfl⟩
    | succ j ih =>
      obtain ⟨q, e⟩ := ih
      exact ⟨(q.step (TaskM.runT ⟨k, .put p⟩ m j).2 j).1, by show ((TaskM.runT ⟨k, .put p⟩ m j).1.step (TaskM.runT ⟨k, .put p⟩ m j).2 j).1 = _; rw [e]; rfl⟩
  constructor
  · intro h
    have e : TaskM.new c who k = ⟨k, .put (PutM.new c who k.fin k.value)⟩ := by unfold TaskM.new; rw [if_pos h]
    rw [e]
    obtain ⟨q, eq⟩ := hp (PutM.new c who k.fin k.value) N
    rw [eq]
    unfold TaskM.reply
    split <;> rfl
  · intro h
    have e : TaskM.new c who k = ⟨k, .get (GetM.new c who k.fin k.start)⟩ := by unfold TaskM.new; rw [if_neg h]
    rw [e, get_runs]
    unfold TaskM.reply
    split <;> rfl
def bitM (b : Bool) : Int := if b = true then 1 else 0
abbrev callV (k : CallM) : Value := .agg #[.int .i64 k.kind, .int .i64 k.fin, .int .u64 k.value, .int .i64 k.start]
theorem make_calls (take right : Bool) (value start : Int) (w : World) : Tells 48 #[.bool take, .bool right, .int .u64 value, .int .i64 start] w (callV ⟨bitM take, bitM right, value, start⟩) := by
  have K := Lib.hid (sat.start w)
  cases take <;> cases right
  all_goals
    go_enter Try.func48, Try.ntmps48
    go_wp2
    exact bodyPost_ret (v := callV ⟨_, _, value, start⟩) (by simp [results, Try.results48, go_sem]; first | rfl | exact ⟨rfl, rfl⟩) rfl ⟨rfl, ((K.out.alloc_any _).alloc_any _).below⟩
abbrev replyV (r : ReplyM) : Value := .agg #[.bool r.ok, .int .u64 r.value, .int .i64 r.stamp.lo, .int .i64 r.stamp.hi]
theorem neqR (r : ReplyM) (w : World) : (binOp .neq 89 (replyV r) (replyV r)).run Try.prog w = .ok (.bool false) w := by
  generalize r.ok = a1
  generalize r.value = a2
  generalize r.stamp.lo = a3
  generalize r.stamp.hi = a4
  go_simp
attribute [local go_sem] neqR
abbrev confPT (g : Nat) (c : ConfM) : SA := pt g (.cells #[.int .i64 c.th, .int .i64 c.sl, .int .i64 c.src, .int .i64 c.dl] 27 (0, 0))
abbrev replyP (g : Nat) (r : ReplyM) : SA := pt g (.cells #[.bool r.ok, .int .u64 r.value, .int .i64 r.stamp.lo, .int .i64 r.stamp.hi] 89 (0, 0))
theorem keepRp {E w : World} {L : List SA} {A B : SA} {g : Nat} {r : ReplyM} (h : sat E w (A :: B :: replyP g r :: L)) : ∀ j, w.cell? ⟨g, j, none⟩ = ([.bool r.ok, .int .u64 r.value, .int .i64 r.stamp.lo, .int .i64 r.stamp.hi] : List Value)[j]? := h.rd 2 rfl
theorem taskRests_main (t s r : Int) (p : Option Addr) (l : List ThingM) (cap : Nat) (take right : Bool) (value : Int) (hv : 0 ≤ value ∧ value < 18446744073709551616) (E : World) (hwf : ∀ x ∈ l, x.wf) (ho : OldS ThingM.v 6 E p l) :
    Calls Try.prog 10 #[.int .i64 t, .int .i64 s, .int .i64 r, .slice p l.length cap, .bool take, .bool right, .int .u64 value] E fun e w' => e = .returned (.bool true) ∧ Below E.heap.size E w' := by
  have K := Lib.hid (sat.start E)
  have HD := fun w => Lib.hid (head12_calls w)
  by_cases h64 : (l.length : Int) > 64
  · have c0 : decide ((l.length : Int) > 64) = true := by simpa using h64
    go_enter Try.func10, Try.ntmps10
    go_wp2_with (first | (go_at_call 44; (with_reducible refine ((HD _).out).mono ?_); rintro e w1 ⟨rfl, hb⟩; have K1 := sat.grown (by repeat (with_reducible first | exact K.out | apply sat.alloc_any | apply sat.drew | apply sat.drewN)) hb; clear hb; have K2 := Lib.hid K1; clear K1 K; (try clear a0); (try clear l0); (try clear a1); (try clear l1); (try clear a2); (try clear l2); have K := K2; clear K2))
    go_ret
    exact ⟨rfl, K.out.below⟩
  · have c0 : decide ((l.length : Int) > 64) = false := by simpa using h64
    have CF := fun w => Lib.hid (conf_calls t s r 1 w)
    have hc := confS_ok t s r 1
    have hsm := confS_small t s r 1
    generalize confS t s r 1 = c at *
    have CE := fun w' (M : List SA) (h : sat E w' M) => Lib.hid (cells_calls c hc p l cap (by omega) hwf ho h)
    have hw := cellsM_wf (c := c) hwf (min c.all.toNat l.length)
    rw [show cellsN c l (min c.all.toNat l.length) = cellsM c l from rfl] at hw
    have hlog : (cellsM c l).log.length ≤ 200 := by have := cellsN_log c l (min c.all.toNat l.length); unfold cellsM; omega
    have hlen := cellsM_clen hc l
    have MK := fun w => Lib.hid (make_calls take right value 1 w)
    have hth1 := hc.th1
    have hkw : (⟨bitM take, bitM right, value, 1⟩ : CallM).wf := hv
    have hko := TaskM.new_okn hc (who := 0) (Int.le_refl _) (by omega) hkw
    obtain ⟨N, hN, hov, hun⟩ := call_ends hc hsm.1 hsm.2.1 hsm.2.2 (who := 0) (Int.le_refl _) (by omega) ⟨bitM take, bitM right, value, 1⟩ hlen
    have hrk := reply_kind (c := c) (who := 0) (k := ⟨bitM take, bitM right, value, 1⟩) (m := cellsM c l) N
    have TN := fun w' (M : List SA) (h : sat E w' M) => Lib.hid (tnew_calls c hc 0 ⟨bitM take, bitM right, value, 1⟩ h)
    have hrT := TaskM.runT_ok hko hw
    have ST := fun w' b bm j (M : List SA) (hj : j < 1000) (h : sat E w' (taskA b (TaskM.runT (TaskM.new c 0 ⟨bitM take, bitM right, value, 1⟩) (cellsM c l) j).1 :: memA bm (TaskM.runT (TaskM.new c 0 ⟨bitM take, bitM right, value, 1⟩) (cellsM c l) j).2 :: M)) => Lib.hid (runT_step hko hw (by omega) b bm j (by omega) h)
    clear hwf ho hw hlen hko hkw hv
    obtain ⟨k, hk⟩ : ∃ k, k = (⟨bitM take, bitM right, value, 1⟩ : CallM) := ⟨_, rfl⟩
    go_enter Try.func10, Try.ntmps10
    go_wp2_with (first | (go_at_call 44; (with_reducible refine ((HD _).out).mono ?_); rintro e w1 ⟨rfl, hb⟩; have K1 := sat.grown (by repeat (with_reducible first | exact K.out | apply sat.alloc_any | apply sat.drew | apply sat.drewN)) hb; clear hb; have K2 := Lib.hid K1; clear K1 K; (try clear a0); (try clear l0); (try clear a1); (try clear l1); (try clear a2); (try clear l2); have K := K2; clear K2) | (go_at_call 14; (with_reducible refine ((CF _).out).mono ?_); rintro e w1 ⟨rfl, hb⟩; have K1 := sat.grown (by repeat (with_reducible first | exact K.out | apply sat.alloc_any | apply sat.drew | apply sat.drewN)) hb; clear hb; have K2 := Lib.hid K1; clear K1 K; (try clear a0); (try clear l0); (try clear a1); (try clear l1); (try clear a2); (try clear l2); have K := K2; clear K2))
    have K1 := K.out.alloc (.cells #[.int .i64 c.th, .int .i64 c.sl, .int .i64 c.src, .int .i64 c.dl] 27)
    obtain ⟨gc, hgc⟩ : ∃ g, g = w1.heap.size := ⟨_, rfl⟩
    rw [← hgc] at K1 ⊢
    clear K hgc
    have K := Lib.hid K1
    clear K1
    have a0 := K.out.rd 0 rfl; have l0 := K.out.ltp 0 rfl
    go_wp2_with (first | (go_at_call 15; (with_reducible refine ((CE _ _ (show sat E _ _ from by iterate 6 (try (with_reducible first | exact K.out | apply sat.alloc_any | apply sat.drew | apply sat.drewN)))).out).mono ?_); rintro e w1 ⟨gm, rfl, K1⟩; have K2 := Lib.hid K1; clear K1 K; (try clear a0); (try clear l0); (try clear a1); (try clear l1); (try clear a2); (try clear l2); have K := K2; clear K2; have a1 := K.out.rd 1 rfl; have l1 := K.out.ltp 1 rfl))
    refine wp_region_noPanic ?_
    refine wp_region_held_drew (S := (fun w' => (∀ j, w'.cell? ⟨gc, j, none⟩ = ([.int .i64 c.th, .int .i64 c.sl, .int .i64 c.src, .int .i64 c.dl] : List Value)[j]?))) (by kernel_rfl) ?_ (fun hHeld => ?_)
    · ((try dsimp only); (first | exact sat.rd 1 (by repeat (with_reducible first | exact K.out | apply sat.alloc_any | apply sat.drew | apply sat.drewN)) rfl | exact sat.rd 2 (by repeat (with_reducible first | exact K.out | apply sat.alloc_any | apply sat.drew | apply sat.drewN)) rfl))
    refine tk 0 (some 34) ?_
    (try simp only [Act.put, p0, p1, p2])
    refine tk 1 (some 35) ?_
    (try simp only [Act.put, p0, p1, p2])
    refine tk 2 (some 36) ?_
    (try simp only [Act.put, p0, p1, p2])
    refine tk 3 (some 37) ?_
    (try simp only [Act.put, p0, p1, p2])
    refine wpAnyH_ready (rs := [4]) (by kernel_rfl) (by simp) ?_
    refine AllReadyH.cons (o := _) rfl (fun kC hkC => ?_) AllReadyH.nil
    go_simp
    (first | (go_at_call 48; (with_reducible refine ((MK _).out).mono ?_); rintro e w1 ⟨rfl, hb⟩; have K1 := sat.grown (show sat _ _ _ from by first | exact K.out | exact K.out.drew) hb; clear hb; have K2 := Lib.hid K1; clear K1 K; (try clear a0); (try clear l0); (try clear f0); (try clear a1); (try clear l1); (try clear f1); (try clear a2); (try clear l2); (try clear f2); (try clear a3); (try clear l3); (try clear f3); (try clear a4); (try clear l4); (try clear f4); (try clear a5); (try clear l5); (try clear f5); have K := K2; clear K2; (try have a0 := K.out.rd 0 rfl); (try have l0 := K.out.ltp 0 rfl); (try have f0 := K.out.fr 0 rfl); (try have a1 := K.out.rd 1 rfl); (try have l1 := K.out.ltp 1 rfl); (try have f1 := K.out.fr 1 rfl); (try have a2 := K.out.rd 2 rfl); (try have l2 := K.out.ltp 2 rfl); (try have f2 := K.out.fr 2 rfl); (try have a3 := K.out.rd 3 rfl); (try have l3 := K.out.ltp 3 rfl); (try have f3 := K.out.fr 3 rfl)) | (go_at_call 47; (with_reducible refine ((TN _ _ (show sat E _ _ from by first | exact K.out | exact K.out.drew)).out).mono ?_); rintro e w1 ⟨gt, rfl, K1⟩; have K2 := Lib.hid K1; clear K1 K; (try clear a0); (try clear l0); (try clear f0); (try clear a1); (try clear l1); (try clear f1); (try clear a2); (try clear l2); (try clear f2); (try clear a3); (try clear l3); (try clear f3); (try clear a4); (try clear l4); (try clear f4); (try clear a5); (try clear l5); (try clear f5); have K := K2; clear K2; (try have a0 := K.out.rd 0 rfl); (try have l0 := K.out.ltp 0 rfl); (try have f0 := K.out.fr 0 rfl); (try have a1 := K.out.rd 1 rfl); (try have l1 := K.out.ltp 1 rfl); (try have f1 := K.out.fr 1 rfl); (try have a2 := K.out.rd 2 rfl); (try have l2 := K.out.ltp 2 rfl); (try have f2 := K.out.fr 2 rfl); (try have a3 := K.out.rd 3 rfl); (try have l3 := K.out.ltp 3 rfl); (try have f3 := K.out.fr 3 rfl)))
    refine shown hkC _ _ (by (try dsimp only); (first | exact sat.rd 1 (by repeat (with_reducible first | exact K.out | apply sat.alloc_any | apply sat.drew | apply sat.drewN)) rfl | exact sat.rd 2 (by repeat (with_reducible first | exact K.out | apply sat.alloc_any | apply sat.drew | apply sat.drewN)) rfl)) ?_; clear hkC kC hHeld; intro hHeld
    (try simp only [Act.put, p0, p1, p2])
    refine wpAnyH_ready (rs := [5]) (by kernel_rfl) (by simp) ?_
    refine AllReadyH.cons (o := _) rfl (fun kC hkC => ?_) AllReadyH.nil
    go_simp
    (first | (go_at_call 48; (with_reducible refine ((MK _).out).mono ?_); rintro e w1 ⟨rfl, hb⟩; have K1 := sat.grown (show sat _ _ _ from by first | exact K.out | exact K.out.drew) hb; clear hb; have K2 := Lib.hid K1; clear K1 K; (try clear a0); (try clear l0); (try clear f0); (try clear a1); (try clear l1); (try clear f1); (try clear a2); (try clear l2); (try clear f2); (try clear a3); (try clear l3); (try clear f3); (try clear a4); (try clear l4); (try clear f4); (try clear a5); (try clear l5); (try clear f5); have K := K2; clear K2; (try have a0 := K.out.rd 0 rfl); (try have l0 := K.out.ltp 0 rfl); (try have f0 := K.out.fr 0 rfl); (try have a1 := K.out.rd 1 rfl); (try have l1 := K.out.ltp 1 rfl); (try have f1 := K.out.fr 1 rfl); (try have a2 := K.out.rd 2 rfl); (try have l2 := K.out.ltp 2 rfl); (try have f2 := K.out.fr 2 rfl); (try have a3 := K.out.rd 3 rfl); (try have l3 := K.out.ltp 3 rfl); (try have f3 := K.out.fr 3 rfl)) | (go_at_call 47; (with_reducible refine ((TN _ _ (show sat E _ _ from by first | exact K.out | exact K.out.drew)).out).mono ?_); rintro e w1 ⟨gt, rfl, K1⟩; have K2 := Lib.hid K1; clear K1 K; (try clear a0); (try clear l0); (try clear f0); (try clear a1); (try clear l1); (try clear f1); (try clear a2); (try clear l2); (try clear f2); (try clear a3); (try clear l3); (try clear f3); (try clear a4); (try clear l4); (try clear f4); (try clear a5); (try clear l5); (try clear f5); have K := K2; clear K2; (try have a0 := K.out.rd 0 rfl); (try have l0 := K.out.ltp 0 rfl); (try have f0 := K.out.fr 0 rfl); (try have a1 := K.out.rd 1 rfl); (try have l1 := K.out.ltp 1 rfl); (try have f1 := K.out.fr 1 rfl); (try have a2 := K.out.rd 2 rfl); (try have l2 := K.out.ltp 2 rfl); (try have f2 := K.out.fr 2 rfl); (try have a3 := K.out.rd 3 rfl); (try have l3 := K.out.ltp 3 rfl); (try have f3 := K.out.fr 3 rfl)))
    refine shown hkC _ _ (by (try dsimp only); (first | exact sat.rd 1 (by repeat (with_reducible first | exact K.out | apply sat.alloc_any | apply sat.drew | apply sat.drewN)) rfl | exact sat.rd 2 (by repeat (with_reducible first | exact K.out | apply sat.alloc_any | apply sat.drew | apply sat.drewN)) rfl)) ?_; clear hkC kC hHeld; intro hHeld
    (try simp only [Act.put, p0, p1, p2])
    refine tk 6 (some 17) ?_
    (try simp only [Act.put, p0, p1, p2])
    refine wpAnyH_done (by kernel_rfl) (NoPanic.normal ?_) _
    go_wp2_with fail
    have K1 : sat E _ [taskA gt (TaskM.runT (TaskM.new c 0 ⟨bitM take, bitM right, value, 1⟩) (cellsM c l) 0).1, memA gm (TaskM.runT (TaskM.new c 0 ⟨bitM take, bitM right, value, 1⟩) (cellsM c l) 0).2, confPT gc c] := K.out
    clear K
    have K := Lib.hid K1
    clear K1
    generalize TaskM.runT (TaskM.new c 0 ⟨bitM take, bitM right, value, 1⟩) (cellsM c l) = R at *
    clear hHeld
    go_loopg [18] N (fun GG i w' => ∃ j : Nat, j + GG = N ∧ i = .int .i64 j ∧ sat E w' [taskA gt (R j).1, memA gm (R j).2, confPT gc c])
    case atStart => exact ⟨0, by simp, rfl, K.out⟩
    case round =>
      obtain ⟨j, hj, rfl, hs⟩ := hrel
      clear K
      have K := Lib.hid hs
      clear hs
      have a2 := K.out.rd 2 rfl
      have l2 := K.out.ltp 2 rfl
      have OV := fun w' (M : List SA) (h : sat E w' (taskA gt (R j).1 :: M)) => Lib.hid (kover_calls gt (R j).1 h)
      have HJ := Lib.hid hj
      rcases Nat.lt_or_ge j N with q | q
      · rw [hun j q] at OV
        have S1 := fun w' (M : List SA) (h : sat E w' (taskA gt (R j).1 :: memA gm (R j).2 :: M)) => ST w' gt gm j M (by omega) h
        have q9 : decide ((j : Int) < 300) = true := by simp; omega
        obtain ⟨gq, rfl⟩ : ∃ g', gk = g' + 1 := ⟨gk - 1, by have := HJ.out; omega⟩
        have hj3 : j < 1000 := by omega
        clear hj hun hrk hov hrT
        go_wp2_with (first | (go_at_call 52; (with_reducible refine (OV _ _ K.out).out.mono ?_); rintro e w1 ⟨rfl, rfl⟩) | (go_at_call 49; (with_reducible refine ((S1 _ _ (show sat E _ _ from by iterate 6 (try (with_reducible first | exact K.out | apply sat.alloc_any | apply sat.drew | apply sat.drewN)))).out).mono ?_); rintro e w1 ⟨rfl, K1⟩; have K2 := Lib.hid K1; clear K1 K; (try clear a0); (try clear l0); (try clear a1); (try clear l1); (try clear a2); (try clear l2); have K := K2; clear K2; have a2 := K.out.rd 2 rfl; have l2 := K.out.ltp 2 rfl))
        go_roundg gq
        case measure => omega
        case rel => exact ⟨j + 1, by have := HJ.out; omega, by first | (simp; done) | (simp; exact w64 (by omega) (by omega)), K.out⟩
      · obtain rfl : j = N := by omega
        rw [hov] at OV
        have hok := hrT j (by omega)
        have hlg := hok.log
        have hwk := hok.okn.work.ok (by omega)
        have hos := fun now => over_step hov (R j).2 now
        have hrk2 := hrk
        have RP := fun w' (M : List SA) (h : sat E w' (taskA gt (R j).1 :: M)) => Lib.hid (kreply_calls gt (R j).1 h)
        have CT := fun w' (M : List SA) (h : sat E w' (memA gm (R j).2 :: M)) => Lib.hid (count_calls gm (R j).2 h)
        have S2 := fun w' now (M : List SA) (h : sat E w' (taskA gt (R j).1 :: memA gm (R j).2 :: M)) => Lib.hid (kstep2_calls gt gm (R j).1 (R j).2 now hwk (by omega) h)
        simp only [hos] at S2
        rw [hov] at S2
        clear hj q hun hrk hos hok hwk hlg hrT ST
        generalize (R j).1 = tF at *
        generalize (R j).2 = mF at *
        have e5 : ((mF.log.length : Int) == (mF.log.length : Int)) = true := by simp
        go_wp2_with (first | (go_at_call 52; (with_reducible refine (OV _ _ K.out).out.mono ?_); rintro e w1 ⟨rfl, rfl⟩) | (go_at_call 50; (with_reducible refine ((RP _ _ (show sat E _ _ from by iterate 6 (try (with_reducible first | exact K.out | apply sat.alloc_any | apply sat.drew | apply sat.drewN)))).out).mono ?_); rintro e w1 ⟨rfl, K1⟩; have K2 := Lib.hid K1; clear K1 K; (try clear a0); (try clear l0); (try clear a1); (try clear l1); (try clear a2); (try clear l2); have K := K2; clear K2; have a2 := K.out.rd 2 rfl; have l2 := K.out.ltp 2 rfl))
        have K1 := K.out.alloc (.cells #[.bool tF.reply.ok, .int .u64 tF.reply.value, .int .i64 tF.reply.stamp.lo, .int .i64 tF.reply.stamp.hi] 89)
        obtain ⟨gr, hgr⟩ : ∃ g, g = w1.heap.size := ⟨_, rfl⟩
        rw [← hgr] at K1 ⊢
        clear K hgr
        have K2 : sat E _ [taskA gt tF, memA gm mF, replyP gr tF.reply, confPT gc c] := (K1.pick 2 rfl).pick 2 rfl
        clear K1
        have K := Lib.hid K2
        clear K2
        have a2 := K.out.rd 2 rfl; have l2 := K.out.ltp 2 rfl
        go_wp2_with (go_at_call 35; (with_reducible refine (CT _ _ (K.out.pick 1 rfl)).out.mono ?_); rintro e w1 ⟨rfl, rfl⟩)
        go_loopg [21] 5 (fun GG i w' => ∃ q : Nat, q + GG = 5 ∧ i = .int .i64 q ∧ sat E w' [taskA gt tF, memA gm mF, replyP gr tF.reply, confPT gc c])
        case atStart => exact ⟨0, by simp, rfl, K.out⟩
        case round =>
          obtain ⟨q, hq, rfl, hs⟩ := hrel
          clear K
          have K := Lib.hid hs
          clear hs
          (try clear a2 l2)
          have a2 := K.out.rd 2 rfl
          have l2 := K.out.ltp 2 rfl
          have HQ := Lib.hid hq
          rcases Nat.lt_or_ge q 5 with q5 | q5
          · have d5 : decide ((q : Int) < 5) = true := by simp; omega
            obtain ⟨gq, rfl⟩ : ∃ g', gk = g' + 1 := ⟨gk - 1, by omega⟩
            clear hq
            go_wp2_with fail
            refine wp_region_noPanic ?_
            refine wp_region_held_drew (S := (fun w' => (∀ j, w'.cell? ⟨gr, j, none⟩ = ([.bool tF.reply.ok, .int .u64 tF.reply.value, .int .i64 tF.reply.stamp.lo, .int .i64 tF.reply.stamp.hi] : List Value)[j]?))) (by kernel_rfl) ?_ (fun hHeld => ?_)
            · ((try dsimp only); (first | exact keepRp (E := E) (r := tF.reply) K.out | exact keepRp (E := E) (r := tF.reply) K.out.drew))
            refine tk 0 (some 61) ?_
            (try simp only [Act.put, p0, p1, p2])
            refine tk 1 (some 62) ?_
            (try simp only [Act.put, p0, p1, p2])
            refine tk 2 (some 63) ?_
            (try simp only [Act.put, p0, p1, p2])
            refine tk 3 (some 64) ?_
            (try simp only [Act.put, p0, p1, p2])
            refine tk 4 (some 65) ?_
            (try simp only [Act.put, p0, p1, p2])
            refine wpAnyH_ready (rs := [5]) (by kernel_rfl) (by simp) ?_
            refine AllReadyH.cons (o := _) rfl (fun kC hkC => ?_) AllReadyH.nil
            go_simp
            (first | (go_at_call 49; (with_reducible refine ((S2 _ _ _ (show sat E _ _ from by first | exact K.out | exact K.out.drew)).out).mono ?_); rintro e w1 ⟨rfl, K1⟩; have K2 := Lib.hid K1; clear K1 K; (try clear a0); (try clear l0); (try clear f0); (try clear a1); (try clear l1); (try clear f1); (try clear a2); (try clear l2); (try clear f2); (try clear a3); (try clear l3); (try clear f3); (try clear a4); (try clear l4); (try clear f4); (try clear a5); (try clear l5); (try clear f5); have K := K2; clear K2; (try have a0 := K.out.rd 0 rfl); (try have l0 := K.out.ltp 0 rfl); (try have f0 := K.out.fr 0 rfl); (try have a1 := K.out.rd 1 rfl); (try have l1 := K.out.ltp 1 rfl); (try have f1 := K.out.fr 1 rfl); (try have a2 := K.out.rd 2 rfl); (try have l2 := K.out.ltp 2 rfl); (try have f2 := K.out.fr 2 rfl); (try have a3 := K.out.rd 3 rfl); (try have l3 := K.out.ltp 3 rfl); (try have f3 := K.out.fr 3 rfl)) | (go_at_call 50; (with_reducible refine ((RP _ _ (show sat E _ _ from by first | exact K.out | exact K.out.drew)).out).mono ?_); rintro e w1 ⟨rfl, K1⟩; have K2 := Lib.hid K1; clear K1 K; (try clear a0); (try clear l0); (try clear f0); (try clear a1); (try clear l1); (try clear f1); (try clear a2); (try clear l2); (try clear f2); (try clear a3); (try clear l3); (try clear f3); (try clear a4); (try clear l4); (try clear f4); (try clear a5); (try clear l5); (try clear f5); have K := K2; clear K2; (try have a0 := K.out.rd 0 rfl); (try have l0 := K.out.ltp 0 rfl); (try have f0 := K.out.fr 0 rfl); (try have a1 := K.out.rd 1 rfl); (try have l1 := K.out.ltp 1 rfl); (try have f1 := K.out.fr 1 rfl); (try have a2 := K.out.rd 2 rfl); (try have l2 := K.out.ltp 2 rfl); (try have f2 := K.out.fr 2 rfl); (try have a3 := K.out.rd 3 rfl); (try have l3 := K.out.ltp 3 rfl); (try have f3 := K.out.fr 3 rfl)))
            refine shown hkC _ _ (by (try dsimp only); (first | exact keepRp (E := E) (r := tF.reply) K.out | exact keepRp (E := E) (r := tF.reply) K.out.drew)) ?_; clear hkC kC hHeld; intro hHeld
            (try simp only [Act.put, p0, p1, p2])
            refine tk 6 (some 67) ?_
            (try simp only [Act.put, p0, p1, p2])
            refine tk 7 (some 68) ?_
            (try simp only [Act.put, p0, p1, p2])
            refine tk 8 (some 69) ?_
            (try simp only [Act.put, p0, p1, p2])
            refine tk 10 (some 71) ?_
            (try simp only [Act.put, p0, p1, p2])
            refine wpAnyH_ready (rs := [9]) (by kernel_rfl) (by simp) ?_
            refine AllReadyH.cons (o := _) rfl (fun kC hkC => ?_) AllReadyH.nil
            go_simp
            (first | (go_at_call 49; (with_reducible refine ((S2 _ _ _ (show sat E _ _ from by first | exact K.out | exact K.out.drew)).out).mono ?_); rintro e w1 ⟨rfl, K1⟩; have K2 := Lib.hid K1; clear K1 K; (try clear a0); (try clear l0); (try clear f0); (try clear a1); (try clear l1); (try clear f1); (try clear a2); (try clear l2); (try clear f2); (try clear a3); (try clear l3); (try clear f3); (try clear a4); (try clear l4); (try clear f4); (try clear a5); (try clear l5); (try clear f5); have K := K2; clear K2; (try have a0 := K.out.rd 0 rfl); (try have l0 := K.out.ltp 0 rfl); (try have f0 := K.out.fr 0 rfl); (try have a1 := K.out.rd 1 rfl); (try have l1 := K.out.ltp 1 rfl); (try have f1 := K.out.fr 1 rfl); (try have a2 := K.out.rd 2 rfl); (try have l2 := K.out.ltp 2 rfl); (try have f2 := K.out.fr 2 rfl); (try have a3 := K.out.rd 3 rfl); (try have l3 := K.out.ltp 3 rfl); (try have f3 := K.out.fr 3 rfl)) | (go_at_call 50; (with_reducible refine ((RP _ _ (show sat E _ _ from by first | exact K.out | exact K.out.drew)).out).mono ?_); rintro e w1 ⟨rfl, K1⟩; have K2 := Lib.hid K1; clear K1 K; (try clear a0); (try clear l0); (try clear f0); (try clear a1); (try clear l1); (try clear f1); (try clear a2); (try clear l2); (try clear f2); (try clear a3); (try clear l3); (try clear f3); (try clear a4); (try clear l4); (try clear f4); (try clear a5); (try clear l5); (try clear f5); have K := K2; clear K2; (try have a0 := K.out.rd 0 rfl); (try have l0 := K.out.ltp 0 rfl); (try have f0 := K.out.fr 0 rfl); (try have a1 := K.out.rd 1 rfl); (try have l1 := K.out.ltp 1 rfl); (try have f1 := K.out.fr 1 rfl); (try have a2 := K.out.rd 2 rfl); (try have l2 := K.out.ltp 2 rfl); (try have f2 := K.out.fr 2 rfl); (try have a3 := K.out.rd 3 rfl); (try have l3 := K.out.ltp 3 rfl); (try have f3 := K.out.fr 3 rfl)))
            refine shown hkC _ _ (by (try dsimp only); (first | exact keepRp (E := E) (r := tF.reply) K.out | exact keepRp (E := E) (r := tF.reply) K.out.drew)) ?_; clear hkC kC hHeld; intro hHeld
            (try simp only [Act.put, p0, p1, p2])
            refine tk 11 (some 72) ?_
            (try simp only [Act.put, p0, p1, p2])
            refine tk 12 (some 73) ?_
            (try simp only [Act.put, p0, p1, p2])
            refine wpAnyH_done (by kernel_rfl) (NoPanic.normal ?_) _
            all_goals
              go_wp2_with fail
              go_roundg gq
              case measure => omega
              case rel => exact ⟨q + 1, by have := HQ.out; omega, by first | (simp; done) | (simp; exact w64 (by omega) (by omega)), K.out⟩
          · have d5 : decide ((q : Int) < 5) = false := by simp; omega
            clear hq
            cases take with
            | true =>
              have e6 := hrk2.2 (show bitM true ≠ 0 by decide)
              have e7 : (tF.reply.stamp.lo == 0) = true := by rw [e6]; rfl
              have e8 : (tF.reply.stamp.hi == 0) = true := by rw [e6]; rfl
              clear e6 hrk2
              go_wp2_with (first | (go_at_call 52; (with_reducible refine (OV _ _ K.out).out.mono ?_); rintro e w1 ⟨rfl, rfl⟩) | (go_at_call 35; (with_reducible refine (CT _ _ (K.out.pick 1 rfl)).out.mono ?_); rintro e w1 ⟨rfl, rfl⟩))
              go_ret
              exact ⟨rfl, K.out.below⟩
            | false =>
              have e6 := hrk2.1 (show bitM false = 0 by decide)
              have e7 : (tF.reply.value == 0) = true := by rw [e6]; rfl
              clear e6 hrk2
              go_wp2_with (first | (go_at_call 52; (with_reducible refine (OV _ _ K.out).out.mono ?_); rintro e w1 ⟨rfl, rfl⟩) | (go_at_call 35; (with_reducible refine (CT _ _ (K.out.pick 1 rfl)).out.mono ?_); rintro e w1 ⟨rfl, rfl⟩))
              go_ret
              exact ⟨rfl, K.out.below⟩
theorem taskRests_calls (W : World) (t : Int) (_ : (Lit.int .i64 t).wf = true) (s : Int) (_ : (Lit.int .i64 s).wf = true) (r : Int) (_ : (Lit.int .i64 r).wf = true) (a : Option Addr) (len cap : Nat) (rows : List (List Value)) (h : RowsAt W thingK a len cap rows) (take right : Bool) (value : Int) (hv : (Lit.int .u64 value).wf = true) :
    Calls Try.prog 10 #[.int .i64 t, .int .i64 s, .int .i64 r, .slice a len cap, .bool take, .bool right, .int .u64 value] W fun e W' => e = .returned (.bool true) ∧ Below W.heap.size W W' := by
  obtain ⟨l, rfl, hwf, ho⟩ := oldT_of h
  exact taskRests_main t s r a l cap take right value (lit_u64 hv) W hwf ho
end Go.Proofs.Ytlnfbfnccefcnaa
