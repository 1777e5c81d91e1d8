/- A call's steps are those of its kind, cell by cell, and its reply is what comes of these (TaskSteps answers true at every input). No condition beyond the row's own. -/
import Derived.Test.YtlnfbfnccefcnaaTaskRests
namespace Go.Proofs.Ytlnfbfnccefcnaa
open Go.RowKit Go.SepYtlnfbfnccefcnaa
set_option linter.unusedSimpArgs false
set_option linter.unusedVariables false
set_option maxRecDepth 100000
set_option maxHeartbeats 40000000
def putOf (c : ConfM) (who : Int) (k : CallM) (t : TaskM) : PutM := match t.work with
  | .put p => p
  | .get _ => PutM.new c who k.fin k.value
def getOf (c : ConfM) (who : Int) (k : CallM) (t : TaskM) : GetM := match t.work with
  | .put _ => GetM.new c who k.fin k.start
  | .get g => g
theorem put_form (c : ConfM) (who : Int) (k : CallM) (m : MemM) (h : k.kind = 0) : ∀ j : Nat, ∃ q, (TaskM.runT (TaskM.new c who k) m j).1 = ⟨k, .put q⟩
  | 0 => ⟨PutM.new c who k.fin k.value, by show TaskM.new c who k = _; unfold TaskM.new; rw [if_pos h]⟩
  | j + 1 => by
    obtain ⟨q, e⟩ := put_form c who k m h j
    exact ⟨(q.step (TaskM.runT (TaskM.new c who k) m j).2 j).1, by show ((TaskM.runT (TaskM.new c who k) m j).1.step (TaskM.runT (TaskM.new c who k) m j).2 j).1 = _; rw [e]; rfl⟩
theorem get_form (c : ConfM) (who : Int) (k : CallM) (m : MemM) (h : k.kind ≠ 0) : ∀ j : Nat, ∃ q, (TaskM.runT (TaskM.new c who k) m j).1 = ⟨k, .get q⟩
  | 0 => ⟨GetM.new c who k.fin k.start, by show TaskM.new c who k = _; unfold TaskM.new; rw [if_neg h]⟩
  | j + 1 => by
    obtain ⟨q, e⟩ := get_form c who k m h j
    exact ⟨(q.step (TaskM.runT (TaskM.new c who k) m j).2).1, by show ((TaskM.runT (TaskM.new c who k) m j).1.step (TaskM.runT (TaskM.new c who k) m j).2 j).1 = _; rw [e]; rfl⟩
structure PutStep (P : Nat → PutM) (G : Nat → GetM) (R : Nat → TaskM × MemM) (j : Nat) : Prop where
  put : P (j + 1) = ((P j).step (R j).2 j).1
  mem : (R (j + 1)).2 = ((P j).step (R j).2 j).2
  get : G (j + 1) = G j
  over : (R (j + 1)).1.over = !decide ((P (j + 1)).phase = 0)
  yes : (P (j + 1)).phase = 1 → (R (j + 1)).1.reply = ⟨true, (G (j + 1)).value, (P (j + 1)).stampR⟩
  no : (P (j + 1)).phase ≠ 1 → (R (j + 1)).1.reply = ⟨false, 0, ⟨0, 0⟩⟩
structure GetStep (P : Nat → PutM) (G : Nat → GetM) (R : Nat → TaskM × MemM) (j : Nat) : Prop where
  get : G (j + 1) = ((G j).step (R j).2).1
  mem : (R (j + 1)).2 = ((G j).step (R j).2).2
  put : P (j + 1) = P j
  over : (R (j + 1)).1.over = !decide ((G (j + 1)).phase = 0)
  yes : (G (j + 1)).phase = 1 → (R (j + 1)).1.reply = ⟨true, (G (j + 1)).value, (P (j + 1)).stampR⟩
  no : (G (j + 1)).phase ≠ 1 → (R (j + 1)).1.reply = ⟨false, 0, ⟨0, 0⟩⟩
theorem reply_put {k : CallM} {q : PutM} (g : GetM) (hg : g.value = 0) : (q.phase = 1 → TaskM.reply ⟨k, .put q⟩ = ⟨true, g.value, q.stampR⟩) ∧ (q.phase ≠ 1 → TaskM.reply ⟨k, .put q⟩ = ⟨false, 0, ⟨0, 0⟩⟩) := by
  constructor
  · intro h
    unfold TaskM.reply PutM.stampR
    rw [if_neg (by show ¬ (q.phase ≠ 1); simpa using h), if_pos h, hg]
  · intro h
    unfold TaskM.reply
    rw [if_pos (show (WorkM.put q).phase ≠ 1 from h)]
    rfl
theorem reply_get {k : CallM} {g : GetM} (q : PutM) (hq : q.phase ≠ 1) : (g.phase = 1 → TaskM.reply ⟨k, .get g⟩ = ⟨true, g.value, q.stampR⟩) ∧ (g.phase ≠ 1 → TaskM.reply ⟨k, .get g⟩ = ⟨false, 0, ⟨0, 0⟩⟩) := by
  constructor
  · intro h
    unfold TaskM.reply PutM.stampR
    rw [if_neg (by show ¬ (g.phase ≠ 1); simpa using h), if_neg hq]
  · intro h
    unfold TaskM.reply
    rw [if_pos (show (WorkM.get g).phase ≠ 1 from h)]
    rfl
theorem put_step (c : ConfM) (who : Int) (k : CallM) (m : MemM) (h : k.kind = 0) (j : Nat) : PutStep (fun j => putOf c who k (TaskM.runT (TaskM.new c who k) m j).1) (fun j => getOf c who k (TaskM.runT (TaskM.new c who k) m j).1) (TaskM.runT (TaskM.new c who k) m) j := by
  obtain ⟨q, e⟩ := put_form c who k m h j
  have s : TaskM.runT (TaskM.new c who k) m (j + 1) = (⟨k, .put (q.step (TaskM.runT (TaskM.new c who k) m j).2 j).1⟩, (q.step (TaskM.runT (TaskM.new c who k) m j).2 j).2) := by
    show (TaskM.runT (TaskM.new c who k) m j).1.step (TaskM.runT (TaskM.new c who k) m j).2 j = _
    rw [e]; rfl
  have r := reply_put (k := k) (q := (q.step (TaskM.runT (TaskM.new c who k) m j).2 j).1) (GetM.new c who k.fin k.start) rfl
  constructor
  · show putOf c who k (TaskM.runT (TaskM.new c who k) m (j + 1)).1 = ((putOf c who k (TaskM.runT (TaskM.new c who k) m j).1).step (TaskM.runT (TaskM.new c who k) m j).2 j).1
    rw [s, e]; rfl
  · show (TaskM.runT (TaskM.new c who k) m (j + 1)).2 = ((putOf c who k (TaskM.runT (TaskM.new c who k) m j).1).step (TaskM.runT (TaskM.new c who k) m j).2 j).2
    rw [s, e]; rfl
  · show getOf c who k (TaskM.runT (TaskM.new c who k) m (j + 1)).1 = getOf c who k (TaskM.runT (TaskM.new c who k) m j).1
    rw [s, e]; rfl
  · show (TaskM.runT (TaskM.new c who k) m (j + 1)).1.over = !decide ((putOf c who k (TaskM.runT (TaskM.new c who k) m (j + 1)).1).phase = 0)
    rw [s]; rfl
  · show (putOf c who k (TaskM.runT (TaskM.new c who k) m (j + 1)).1).phase = 1 → (TaskM.runT (TaskM.new c who k) m (j + 1)).1.reply = ⟨true, (getOf c who k (TaskM.runT (TaskM.new c who k) m (j + 1)).1).value, (putOf c who k (TaskM.runT (TaskM.new c who k) m (j + 1)).1).stampR⟩
    rw [s]; exact r.1
  · show (putOf c who k (TaskM.runT (TaskM.new c who k) m (j + 1)).1).phase ≠ 1 → (TaskM.runT (TaskM.new c who k) m (j + 1)).1.reply = _
    rw [s]; exact r.2
theorem get_step (c : ConfM) (who : Int) (k : CallM) (m : MemM) (h : k.kind ≠ 0) (j : Nat) : GetStep (fun j => putOf c who k (TaskM.runT (TaskM.new c who k) m j).1) (fun j => getOf c who k (TaskM.runT (TaskM.new c who k) m j).1) (TaskM.runT (TaskM.new c who k) m) j := by
  obtain ⟨q, e⟩ := get_form c who k m h j
  have s : TaskM.runT (TaskM.new c who k) m (j + 1) = (⟨k, .get (q.step (TaskM.runT (TaskM.new c who k) m j).2).1⟩, (q.step (TaskM.runT (TaskM.new c who k) m j).2).2) := by
    show (TaskM.runT (TaskM.new c who k) m j).1.step (TaskM.runT (TaskM.new c who k) m j).2 j = _
    rw [e]; rfl
  have r := reply_get (k := k) (g := (q.step (TaskM.runT (TaskM.new c who k) m j).2).1) (PutM.new c who k.fin k.value) (by show (0 : Int) ≠ 1; decide)
  constructor
  · show getOf c who k (TaskM.runT (TaskM.new c who k) m (j + 1)).1 = ((getOf c who k (TaskM.runT (TaskM.new c who k) m j).1).step (TaskM.runT (TaskM.new c who k) m j).2).1
    rw [s, e]; rfl
  · show (TaskM.runT (TaskM.new c who k) m (j + 1)).2 = ((getOf c who k (TaskM.runT (TaskM.new c who k) m j).1).step (TaskM.runT (TaskM.new c who k) m j).2).2
    rw [s, e]; rfl
  · show putOf c who k (TaskM.runT (TaskM.new c who k) m (j + 1)).1 = putOf c who k (TaskM.runT (TaskM.new c who k) m j).1
    rw [s, e]; rfl
  · show (TaskM.runT (TaskM.new c who k) m (j + 1)).1.over = !decide ((getOf c who k (TaskM.runT (TaskM.new c who k) m (j + 1)).1).phase = 0)
    rw [s]; rfl
  · show (getOf c who k (TaskM.runT (TaskM.new c who k) m (j + 1)).1).phase = 1 → (TaskM.runT (TaskM.new c who k) m (j + 1)).1.reply = ⟨true, (getOf c who k (TaskM.runT (TaskM.new c who k) m (j + 1)).1).value, (putOf c who k (TaskM.runT (TaskM.new c who k) m (j + 1)).1).stampR⟩
    rw [s]; exact r.1
  · show (getOf c who k (TaskM.runT (TaskM.new c who k) m (j + 1)).1).phase ≠ 1 → (TaskM.runT (TaskM.new c who k) m (j + 1)).1.reply = _
    rw [s]; exact r.2
theorem runT_stays (t : TaskM) (m : MemM) (N : Nat) (h : (TaskM.runT t m N).1.over = true) : ∀ j : Nat, (TaskM.runT t m (N + j)).1.over = true
  | 0 => h
  | j + 1 => by
    have e : TaskM.runT t m (N + j + 1) = TaskM.runT t m (N + j) := by
      show (TaskM.runT t m (N + j)).1.step (TaskM.runT t m (N + j)).2 ((N + j : Nat) : Int) = _
      rw [over_step (runT_stays t m N h j)]
    show (TaskM.runT t m (N + j + 1)).1.over = true
    rw [e]
    exact runT_stays t m N h j
structure Both (c : ConfM) (who : Int) (k : CallM) (m : MemM) (P : Nat → PutM) (G : Nat → GetM) (R : Nat → TaskM × MemM) : Prop where
  p0 : P 0 = PutM.new c who k.fin k.value
  g0 : G 0 = GetM.new c who k.fin k.start
  puts : k.kind = 0 → ∀ j, PutStep P G R j
  gets : k.kind ≠ 0 → ∀ j, GetStep P G R j
  putf : k.kind = 0 → ∀ j, (R j).1.work = .put (P j)
  getf : k.kind ≠ 0 → ∀ j, (R j).1.work = .get (G j)
  call : (R 0).1.call = k
  over : (R 0).1.over = false
  reply : (R 0).1.reply = ⟨false, 0, ⟨0, 0⟩⟩
  mem : (R 0).2 = m
  new : (R 0).1 = TaskM.new c who k
theorem both (c : ConfM) (who : Int) (k : CallM) (m : MemM) : ∃ P G, Both c who k m P G (TaskM.runT (TaskM.new c who k) m) := by
  refine ⟨fun j => putOf c who k (TaskM.runT (TaskM.new c who k) m j).1, fun j => getOf c who k (TaskM.runT (TaskM.new c who k) m j).1, ?_, ?_, put_step c who k m, get_step c who k m, ?_, ?_, rfl, ?_, ?_, rfl, rfl⟩
  · show putOf c who k (TaskM.new c who k) = _
    unfold TaskM.new
    by_cases h : k.kind = 0
    · rw [if_pos h]; rfl
    · rw [if_neg h]; rfl
  · show getOf c who k (TaskM.new c who k) = _
    unfold TaskM.new
    by_cases h : k.kind = 0
    · rw [if_pos h]; rfl
    · rw [if_neg h]; rfl
  · intro h j
    obtain ⟨q, e⟩ := put_form c who k m h j
    show _ = WorkM.put (putOf c who k (TaskM.runT (TaskM.new c who k) m j).1)
    rw [e]; rfl
  · intro h j
    obtain ⟨q, e⟩ := get_form c who k m h j
    show _ = WorkM.get (getOf c who k (TaskM.runT (TaskM.new c who k) m j).1)
    rw [e]; rfl
  · show (TaskM.new c who k).over = false
    unfold TaskM.new
    by_cases h : k.kind = 0
    · rw [if_pos h]; rfl
    · rw [if_neg h]; rfl
  · show (TaskM.new c who k).reply = _
    unfold TaskM.new
    by_cases h : k.kind = 0
    · rw [if_pos h]; rfl
    · rw [if_neg h]; rfl
theorem oldS_evT {E w : World} {L : List SA} {p : Option Addr} {n c t : Nat} {l : List Ev} (h : sat E w (rowA (.slice p n c) t 6 l.length (evCells l) :: L)) : OldS Ev.cells 6 w p l := oldS_row ev_sz h
abbrev evValT (e : Ev) : Value := .agg #[.int .i64 e.who, .int .i64 e.op, .int .i64 e.cell, .int .u64 e.old, .int .u64 e.new, .bool e.ok]
theorem neqET (e : Ev) (w : World) : (binOp .neq 78 (evValT e) (evValT e)).run Try.prog w = .ok (.bool false) w := by
  generalize e.who = a1
  generalize e.op = a2
  generalize e.cell = a3
  generalize e.old = a4
  generalize e.new = a5
  generalize e.ok = a6
  go_simp
theorem neqR4 (a1 : Bool) (a2 a3 a4 : Int) (w : World) : (binOp .neq 89 (.agg #[.bool a1, .int .u64 a2, .int .i64 a3, .int .i64 a4]) (.agg #[.bool a1, .int .u64 a2, .int .i64 a3, .int .i64 a4])).run Try.prog w = .ok (.bool false) w := by
  go_simp
theorem neqC4 (a1 a2 a3 a4 : Int) (w : World) : (binOp .neq 85 (.agg #[.int .i64 a1, .int .i64 a2, .int .u64 a3, .int .i64 a4]) (.agg #[.int .i64 a1, .int .i64 a2, .int .u64 a3, .int .i64 a4])).run Try.prog w = .ok (.bool false) w := by
  go_simp
attribute [local go_sem] neqET neqR4 neqC4
abbrev callPT (g : Nat) (k : CallM) : SA := pt g (.cells #[.int .i64 k.kind, .int .i64 k.fin, .int .u64 k.value, .int .i64 k.start] 85 (0, 0))
theorem taskSteps_main (t s r who : Int) (p : Option Addr) (l : List ThingM) (cap : Nat) (take right : Bool) (value st : Int) (hv : 0 ≤ value ∧ value < 18446744073709551616) (E : World) (hwf : ∀ x ∈ l, x.wf) (ho : OldS ThingM.v 6 E p l) :
    Calls Try.prog 12 #[.int .i64 t, .int .i64 s, .int .i64 r, .int .i64 who, .slice p l.length cap, .bool take, .bool right, .int .u64 value, .int .i64 st] E fun e w' => e = .returned (.bool true) ∧ Below E.heap.size E w' := by
  have K := Lib.hid (sat.start E)
  have HD := fun w => Lib.hid (head12_calls w)
  by_cases h64 : (l.length : Int) > 64
  · have c0 : decide ((l.length : Int) > 64) = true := by simpa using h64
    go_enter Try.func12, Try.ntmps12
    go_wp2_with (first | (go_at_call 44; (with_reducible refine ((HD _).out).mono ?_); rintro e w1 ⟨rfl, hb⟩; have K1 := sat.grown (by repeat (with_reducible first | exact K.out | apply sat.alloc_any | apply sat.drew | apply sat.drewN)) hb; clear hb; have K2 := Lib.hid K1; clear K1 K; (try clear a0); (try clear l0); (try clear a1); (try clear l1); (try clear a2); (try clear l2); have K := K2; clear K2))
    go_ret
    exact ⟨rfl, K.out.below⟩
  · have c0 : decide ((l.length : Int) > 64) = false := by simpa using h64
    have CF := fun w => Lib.hid (conf_calls t s r 1 w)
    have hc := confS_ok t s r 1
    have hsm := confS_small t s r 1
    generalize confS t s r 1 = c at *
    have CE := fun w' (M : List SA) (h : sat E w' M) => Lib.hid (cells_calls c hc p l cap (by omega) hwf ho h)
    have hw := cellsM_wf (c := c) hwf (min c.all.toNat l.length)
    rw [show cellsN c l (min c.all.toNat l.length) = cellsM c l from rfl] at hw
    have hlog : (cellsM c l).log.length ≤ 200 := by have := cellsN_log c l (min c.all.toNat l.length); unfold cellsM; omega
    have hlen := cellsM_clen hc l
    have MK := fun w => Lib.hid (make_calls take right value st w)
    obtain ⟨k, hk⟩ : ∃ k, k = (⟨bitM take, bitM right, value, st⟩ : CallM) := ⟨_, rfl⟩
    have hkv : k.value = value := by rw [hk]
    have hks : k.start = st := by rw [hk]
    have HKD := Lib.hid (show take = !decide (k.kind = 0) by rw [hk]; cases take <;> rfl)
    have hkw : k.wf := by rw [hk]; exact hv
    rw [← hk] at MK
    clear hk
    subst hkv hks
    have ea1 := and16 who
    obtain ⟨wh0, wh1⟩ := whoS_bd hc who
    have ea2 : Int.tmod (who % 65536) c.th = whoS c who := by unfold whoS; rw [Int.tmod_eq_emod_of_nonneg (by omega)]
    have z1 : (c.th == 0) = false := by have := hc.th1; simp; omega
    have z2 : ¬ c.th = 0 := by have := hc.th1; omega
    have z3 : IntKind.i64.wrap (whoS c who) = whoS c who := wi (by have := hc.th2; omega) (by have := hc.th2; omega)
    obtain ⟨P, G, B⟩ := both c (whoS c who) k (cellsM c l)
    have hko := TaskM.new_okn hc (who := whoS c who) wh0 wh1 hkw
    have hrT := TaskM.runT_ok hko hw
    have hend : (TaskM.runT (TaskM.new c (whoS c who) k) (cellsM c l) 200).1.over = true := by
      obtain ⟨N, hN, hov, _⟩ := call_ends hc hsm.1 hsm.2.1 hsm.2.2 (who := whoS c who) wh0 wh1 k hlen
      have := runT_stays _ _ N hov (200 - N)
      rwa [show N + (200 - N) = 200 by omega] at this
    have TN := fun w' (M : List SA) (h : sat E w' M) => Lib.hid (tnew_calls c hc (whoS c who) k h)
    have PN := fun w' (M : List SA) (h : sat E w' M) => Lib.hid (putnew_calls c (whoS c who) k.fin k.value h)
    have GN := fun w' (M : List SA) (h : sat E w' M) => Lib.hid (getnew_calls c hc (whoS c who) k.fin k.start h)
    rw [← B.p0] at PN
    rw [← B.g0] at GN
    rw [← B.new] at TN
    have ST := fun w' b bm j (M : List SA) (hj : j < 1000) (h : sat E w' (taskA b (TaskM.runT (TaskM.new c (whoS c who) k) (cellsM c l) j).1 :: memA bm (TaskM.runT (TaskM.new c (whoS c who) k) (cellsM c l) j).2 :: M)) => Lib.hid (runT_step hko hw (by omega) b bm j (by omega) h)
    rw [← B.mem] at CE
    clear hwf ho hw hlen hko hkw hv
    generalize TaskM.runT (TaskM.new c (whoS c who) k) (cellsM c l) = R at *
    generalize cellsM c l = m at *
    generalize whoS c who = wh at *
    go_enter Try.func12, Try.ntmps12
    go_wp2_with (first | (go_at_call 44; (with_reducible refine ((HD _).out).mono ?_); rintro e w1 ⟨rfl, hb⟩; have K1 := sat.grown (by repeat (with_reducible first | exact K.out | apply sat.alloc_any | apply sat.drew | apply sat.drewN)) hb; clear hb; have K2 := Lib.hid K1; clear K1 K; (try clear a0); (try clear l0); (try clear a1); (try clear l1); (try clear a2); (try clear l2); have K := K2; clear K2) | (go_at_call 14; (with_reducible refine ((CF _).out).mono ?_); rintro e w1 ⟨rfl, hb⟩; have K1 := sat.grown (by repeat (with_reducible first | exact K.out | apply sat.alloc_any | apply sat.drew | apply sat.drewN)) hb; clear hb; have K2 := Lib.hid K1; clear K1 K; (try clear a0); (try clear l0); (try clear a1); (try clear l1); (try clear a2); (try clear l2); have K := K2; clear K2))
    have K1 := K.out.alloc (.cells #[.int .i64 c.th, .int .i64 c.sl, .int .i64 c.src, .int .i64 c.dl] 27)
    obtain ⟨gc, hgc⟩ : ∃ g, g = w1.heap.size := ⟨_, rfl⟩
    rw [← hgc] at K1 ⊢
    clear K hgc
    have K := Lib.hid K1
    clear K1
    have a0 := K.out.rd 0 rfl; have l0 := K.out.ltp 0 rfl
    go_wp2_with (first | ((fail_if_success (have _h := hM1)); (go_at_call 15; (with_reducible refine ((CE _ _ (show sat E _ _ from by iterate 6 (try (with_reducible first | exact K.out | apply sat.alloc_any | apply sat.drew | apply sat.drewN)))).out).mono ?_); rintro e w1 ⟨gm, rfl, K1⟩; have K2 := Lib.hid K1; clear K1 K; (try clear a0); (try clear l0); (try clear a1); (try clear l1); (try clear a2); (try clear l2); have K := K2; clear K2; have a1 := K.out.rd 1 rfl; have l1 := K.out.ltp 1 rfl); have hM1 := True.intro) | (go_at_call 15; (with_reducible refine ((CE _ _ (show sat E _ _ from by iterate 6 (try (with_reducible first | exact K.out | apply sat.alloc_any | apply sat.drew | apply sat.drewN)))).out).mono ?_); rintro e w1 ⟨gn, rfl, K1⟩; have K2 := Lib.hid K1; clear K1 K; (try clear a0); (try clear l0); (try clear a1); (try clear l1); (try clear a2); (try clear l2); have K := K2; clear K2; have a2 := K.out.rd 2 rfl; have l2 := K.out.ltp 2 rfl) | (go_at_call 48; (with_reducible refine ((MK _).out).mono ?_); rintro e w1 ⟨rfl, hb⟩; have K1 := sat.grown (by repeat (with_reducible first | exact K.out | apply sat.alloc_any | apply sat.drew | apply sat.drewN)) hb; clear hb; have K2 := Lib.hid K1; clear K1 K; (try clear a0); (try clear l0); (try clear a1); (try clear l1); (try clear a2); (try clear l2); have K := K2; clear K2; have a2 := K.out.rd 2 rfl; have l2 := K.out.ltp 2 rfl))
    have K1 := K.out.alloc (.cells #[.int .i64 k.kind, .int .i64 k.fin, .int .u64 k.value, .int .i64 k.start] 85)
    obtain ⟨gl, hgl⟩ : ∃ g, g = w1.heap.size := ⟨_, rfl⟩
    rw [← hgl] at K1 ⊢
    clear K hgl
    have K := Lib.hid K1
    clear K1
    have a0 := K.out.rd 0 rfl; have l0 := K.out.ltp 0 rfl; have a3 := K.out.rd 3 rfl; have l3 := K.out.ltp 3 rfl
    go_wp2_with (first | (go_at_call 47; (with_reducible refine ((TN _ _ (show sat E _ _ from by iterate 6 (try (with_reducible first | exact K.out | apply sat.alloc_any | apply sat.drew | apply sat.drewN)))).out).mono ?_); rintro e w1 ⟨gt, rfl, K1⟩; have K2 := Lib.hid K1; clear K1 K; (try clear a0); (try clear l0); (try clear a1); (try clear l1); (try clear a2); (try clear l2); have K := K2; clear K2; have a1 := K.out.rd 1 rfl; have l1 := K.out.ltp 1 rfl; have a4 := K.out.rd 4 rfl; have l4 := K.out.ltp 4 rfl) | (go_at_call 54; (with_reducible refine ((PN _ _ (show sat E _ _ from by iterate 6 (try (with_reducible first | exact K.out | apply sat.alloc_any | apply sat.drew | apply sat.drewN)))).out).mono ?_); rintro e w1 ⟨gp, rfl, K1⟩; have K2 := Lib.hid K1; clear K1 K; (try clear a0); (try clear l0); (try clear a1); (try clear l1); (try clear a2); (try clear l2); have K := K2; clear K2; have a2 := K.out.rd 2 rfl; have l2 := K.out.ltp 2 rfl; have a5 := K.out.rd 5 rfl; have l5 := K.out.ltp 5 rfl) | (go_at_call 18; (with_reducible refine ((GN _ _ (show sat E _ _ from by iterate 6 (try (with_reducible first | exact K.out | apply sat.alloc_any | apply sat.drew | apply sat.drewN)))).out).mono ?_); rintro e w1 ⟨gg, rfl, K1⟩; have K2 := Lib.hid K1; clear K1 K; (try clear a0); (try clear l0); (try clear a1); (try clear l1); (try clear a2); (try clear l2); have K := K2; clear K2; have a3 := K.out.rd 3 rfl; have l3 := K.out.ltp 3 rfl; have a6 := K.out.rd 6 rfl; have l6 := K.out.ltp 6 rfl))
    have K1 : sat E w1 [taskA gt (R 0).1, memA gm (R 0).2, putA gp (P 0), getA gg (G 0), memA gn (R 0).2, callPT gl k, confPT gc c] := (((((K.out.pick 3 rfl).pick 4 rfl).pick 2 rfl).pick 3 rfl).pick 5 rfl).pick 5 rfl
    clear K
    have K := Lib.hid K1
    clear K1
    have CA := fun w' (M : List SA) (h : sat E w' (taskA gt (R 0).1 :: M)) => Lib.hid (kcall_calls gt (R 0).1 h)
    have OV := fun w' (M : List SA) (h : sat E w' (taskA gt (R 0).1 :: M)) => Lib.hid (kover_calls gt (R 0).1 h)
    have RP := fun w' (M : List SA) (h : sat E w' (taskA gt (R 0).1 :: M)) => Lib.hid (kreply_calls gt (R 0).1 h)
    simp only [B.call] at CA
    simp only [B.over] at OV
    simp only [B.reply] at RP
    go_wp2_with fail
    refine wp_region_noPanic ?_
    refine wp_region_held_drew (S := (fun w' => (∀ j, w'.cell? ⟨gl, j, none⟩ = ([.int .i64 k.kind, .int .i64 k.fin, .int .u64 k.value, .int .i64 k.start] : List Value)[j]?))) (by kernel_rfl) ?_ (fun hHeld => ?_)
    · ((try dsimp only); (exact sat.rd 5 (by repeat (with_reducible first | exact K.out | apply sat.alloc_any | apply sat.drew | apply sat.drewN)) rfl))
    refine tk 0 (some 73) ?_
    (try simp only [Act.put, p0, p1, p2])
    refine tk 2 (some 75) ?_
    (try simp only [Act.put, p0, p1, p2])
    refine wpAnyH_ready (rs := [1]) (by kernel_rfl) (by simp) ?_
    refine AllReadyH.cons (o := _) rfl (fun kC hkC => ?_) AllReadyH.nil
    go_simp
    (first | (go_at_call 52; (with_reducible refine (OV _ _ (show sat E _ _ from by first | exact K.out | exact K.out.drew)).out.mono ?_); rintro e w1 ⟨rfl, rfl⟩) | (go_at_call 55; (with_reducible refine ((CA _ _ (show sat E _ _ from by first | exact K.out | exact K.out.drew)).out).mono ?_); rintro e w1 ⟨rfl, K1⟩; have K2 := Lib.hid K1; clear K1 K; (try clear a0); (try clear l0); (try clear f0); (try clear a1); (try clear l1); (try clear f1); (try clear a2); (try clear l2); (try clear f2); (try clear a3); (try clear l3); (try clear f3); (try clear a4); (try clear l4); (try clear f4); (try clear a5); (try clear l5); (try clear f5); have K := K2; clear K2; (try have a0 := K.out.rd 0 rfl); (try have l0 := K.out.ltp 0 rfl); (try have f0 := K.out.fr 0 rfl); (try have a1 := K.out.rd 1 rfl); (try have l1 := K.out.ltp 1 rfl); (try have f1 := K.out.fr 1 rfl); (try have a2 := K.out.rd 2 rfl); (try have l2 := K.out.ltp 2 rfl); (try have f2 := K.out.fr 2 rfl); (try have a3 := K.out.rd 3 rfl); (try have l3 := K.out.ltp 3 rfl); (try have f3 := K.out.fr 3 rfl)) | (go_at_call 50; (with_reducible refine ((RP _ _ (show sat E _ _ from by first | exact K.out | exact K.out.drew)).out).mono ?_); rintro e w1 ⟨rfl, K1⟩; have K2 := Lib.hid K1; clear K1 K; (try clear a0); (try clear l0); (try clear f0); (try clear a1); (try clear l1); (try clear f1); (try clear a2); (try clear l2); (try clear f2); (try clear a3); (try clear l3); (try clear f3); (try clear a4); (try clear l4); (try clear f4); (try clear a5); (try clear l5); (try clear f5); have K := K2; clear K2; (try have a0 := K.out.rd 0 rfl); (try have l0 := K.out.ltp 0 rfl); (try have f0 := K.out.fr 0 rfl); (try have a1 := K.out.rd 1 rfl); (try have l1 := K.out.ltp 1 rfl); (try have f1 := K.out.fr 1 rfl); (try have a2 := K.out.rd 2 rfl); (try have l2 := K.out.ltp 2 rfl); (try have f2 := K.out.fr 2 rfl); (try have a3 := K.out.rd 3 rfl); (try have l3 := K.out.ltp 3 rfl); (try have f3 := K.out.fr 3 rfl)))
    refine shown hkC _ _ (by (try dsimp only); (exact sat.rd 5 (by repeat (with_reducible first | exact K.out | apply sat.alloc_any | apply sat.drew | apply sat.drewN)) rfl)) ?_; clear hkC kC hHeld; intro hHeld
    (try simp only [Act.put, p0, p1, p2])
    refine tk 3 (some 76) ?_
    (try simp only [Act.put, p0, p1, p2])
    refine tk 4 (some 77) ?_
    (try simp only [Act.put, p0, p1, p2])
    refine tk 5 (some 78) ?_
    (try simp only [Act.put, p0, p1, p2])
    refine wpAnyH_ready (rs := [6]) (by kernel_rfl) (by simp) ?_
    refine AllReadyH.cons (o := _) rfl (fun kC hkC => ?_) AllReadyH.nil
    go_simp
    (first | (go_at_call 52; (with_reducible refine (OV _ _ (show sat E _ _ from by first | exact K.out | exact K.out.drew)).out.mono ?_); rintro e w1 ⟨rfl, rfl⟩) | (go_at_call 55; (with_reducible refine ((CA _ _ (show sat E _ _ from by first | exact K.out | exact K.out.drew)).out).mono ?_); rintro e w1 ⟨rfl, K1⟩; have K2 := Lib.hid K1; clear K1 K; (try clear a0); (try clear l0); (try clear f0); (try clear a1); (try clear l1); (try clear f1); (try clear a2); (try clear l2); (try clear f2); (try clear a3); (try clear l3); (try clear f3); (try clear a4); (try clear l4); (try clear f4); (try clear a5); (try clear l5); (try clear f5); have K := K2; clear K2; (try have a0 := K.out.rd 0 rfl); (try have l0 := K.out.ltp 0 rfl); (try have f0 := K.out.fr 0 rfl); (try have a1 := K.out.rd 1 rfl); (try have l1 := K.out.ltp 1 rfl); (try have f1 := K.out.fr 1 rfl); (try have a2 := K.out.rd 2 rfl); (try have l2 := K.out.ltp 2 rfl); (try have f2 := K.out.fr 2 rfl); (try have a3 := K.out.rd 3 rfl); (try have l3 := K.out.ltp 3 rfl); (try have f3 := K.out.fr 3 rfl)) | (go_at_call 50; (with_reducible refine ((RP _ _ (show sat E _ _ from by first | exact K.out | exact K.out.drew)).out).mono ?_); rintro e w1 ⟨rfl, K1⟩; have K2 := Lib.hid K1; clear K1 K; (try clear a0); (try clear l0); (try clear f0); (try clear a1); (try clear l1); (try clear f1); (try clear a2); (try clear l2); (try clear f2); (try clear a3); (try clear l3); (try clear f3); (try clear a4); (try clear l4); (try clear f4); (try clear a5); (try clear l5); (try clear f5); have K := K2; clear K2; (try have a0 := K.out.rd 0 rfl); (try have l0 := K.out.ltp 0 rfl); (try have f0 := K.out.fr 0 rfl); (try have a1 := K.out.rd 1 rfl); (try have l1 := K.out.ltp 1 rfl); (try have f1 := K.out.fr 1 rfl); (try have a2 := K.out.rd 2 rfl); (try have l2 := K.out.ltp 2 rfl); (try have f2 := K.out.fr 2 rfl); (try have a3 := K.out.rd 3 rfl); (try have l3 := K.out.ltp 3 rfl); (try have f3 := K.out.fr 3 rfl)))
    refine shown hkC _ _ (by (try dsimp only); (exact sat.rd 5 (by repeat (with_reducible first | exact K.out | apply sat.alloc_any | apply sat.drew | apply sat.drewN)) rfl)) ?_; clear hkC kC hHeld; intro hHeld
    (try simp only [Act.put, p0, p1, p2])
    refine tk 7 (some 80) ?_
    (try simp only [Act.put, p0, p1, p2])
    refine tk 8 (some 81) ?_
    (try simp only [Act.put, p0, p1, p2])
    refine tk 9 (some 82) ?_
    (try simp only [Act.put, p0, p1, p2])
    refine tk 11 (some 84) ?_
    (try simp only [Act.put, p0, p1, p2])
    refine wpAnyH_ready (rs := [10]) (by kernel_rfl) (by simp) ?_
    refine AllReadyH.cons (o := _) rfl (fun kC hkC => ?_) AllReadyH.nil
    go_simp
    (first | (go_at_call 52; (with_reducible refine (OV _ _ (show sat E _ _ from by first | exact K.out | exact K.out.drew)).out.mono ?_); rintro e w1 ⟨rfl, rfl⟩) | (go_at_call 55; (with_reducible refine ((CA _ _ (show sat E _ _ from by first | exact K.out | exact K.out.drew)).out).mono ?_); rintro e w1 ⟨rfl, K1⟩; have K2 := Lib.hid K1; clear K1 K; (try clear a0); (try clear l0); (try clear f0); (try clear a1); (try clear l1); (try clear f1); (try clear a2); (try clear l2); (try clear f2); (try clear a3); (try clear l3); (try clear f3); (try clear a4); (try clear l4); (try clear f4); (try clear a5); (try clear l5); (try clear f5); have K := K2; clear K2; (try have a0 := K.out.rd 0 rfl); (try have l0 := K.out.ltp 0 rfl); (try have f0 := K.out.fr 0 rfl); (try have a1 := K.out.rd 1 rfl); (try have l1 := K.out.ltp 1 rfl); (try have f1 := K.out.fr 1 rfl); (try have a2 := K.out.rd 2 rfl); (try have l2 := K.out.ltp 2 rfl); (try have f2 := K.out.fr 2 rfl); (try have a3 := K.out.rd 3 rfl); (try have l3 := K.out.ltp 3 rfl); (try have f3 := K.out.fr 3 rfl)) | (go_at_call 50; (with_reducible refine ((RP _ _ (show sat E _ _ from by first | exact K.out | exact K.out.drew)).out).mono ?_); rintro e w1 ⟨rfl, K1⟩; have K2 := Lib.hid K1; clear K1 K; (try clear a0); (try clear l0); (try clear f0); (try clear a1); (try clear l1); (try clear f1); (try clear a2); (try clear l2); (try clear f2); (try clear a3); (try clear l3); (try clear f3); (try clear a4); (try clear l4); (try clear f4); (try clear a5); (try clear l5); (try clear f5); have K := K2; clear K2; (try have a0 := K.out.rd 0 rfl); (try have l0 := K.out.ltp 0 rfl); (try have f0 := K.out.fr 0 rfl); (try have a1 := K.out.rd 1 rfl); (try have l1 := K.out.ltp 1 rfl); (try have f1 := K.out.fr 1 rfl); (try have a2 := K.out.rd 2 rfl); (try have l2 := K.out.ltp 2 rfl); (try have f2 := K.out.fr 2 rfl); (try have a3 := K.out.rd 3 rfl); (try have l3 := K.out.ltp 3 rfl); (try have f3 := K.out.fr 3 rfl)))
    refine shown hkC _ _ (by (try dsimp only); (exact sat.rd 5 (by repeat (with_reducible first | exact K.out | apply sat.alloc_any | apply sat.drew | apply sat.drewN)) rfl)) ?_; clear hkC kC hHeld; intro hHeld
    (try simp only [Act.put, p0, p1, p2])
    refine tk 12 (some 85) ?_
    (try simp only [Act.put, p0, p1, p2])
    refine tk 13 (some 86) ?_
    (try simp only [Act.put, p0, p1, p2])
    refine wpAnyH_done (by kernel_rfl) (NoPanic.normal ?_) _
    clear CA OV RP
    go_wp2_with fail
    have GVA := fun w' b g (M : List SA) (h : sat E w' (getA b g :: M)) => Lib.hid (gvalue_calls b g h)
    have PSA := fun w' b q (M : List SA) (h : sat E w' (putA b q :: M)) => Lib.hid (pstamp_calls b q h)
    have CTA := fun w' b mm (M : List SA) (h : sat E w' (memA b mm :: M)) => Lib.hid (count_calls b mm h)
    go_loopg [26] 200 (fun GG i w' => ∃ j : Nat, j + GG = 200 ∧ i = .int .i64 j ∧ sat E w' [taskA gt (R j).1, memA gm (R j).2, putA gp (P j), getA gg (G j), memA gn (R j).2, callPT gl k, confPT gc c])
    case atStart => exact ⟨0, by simp, rfl, by first | exact K.out | exact K.out.drew⟩
    case round =>
      obtain ⟨j, hj, rfl, hs⟩ := hrel
      clear K
      have HJ := Lib.hid hj
      rcases Nat.lt_or_ge j 200 with q | q
      · have d0 : decide ((j : Int) < 200) = true := by simp; omega
        obtain ⟨gq, rfl⟩ : ∃ g', gk = g' + 1 := ⟨gk - 1, by have := HJ.out; omega⟩
        have S1 := fun w' (M : List SA) (h : sat E w' (taskA gt (R j).1 :: memA gm (R j).2 :: M)) => ST w' gt gm j M (by omega) h
        have hok := hrT j (by omega)
        have hlg := hok.log
        have hwk := hok.okn.work.ok (by omega)
        have hj3 : j < 1000 := by omega
        have OV := fun w' (M : List SA) (h : sat E w' (taskA gt (R (j + 1)).1 :: M)) => Lib.hid (kover_calls gt (R (j + 1)).1 h)
        have RP := fun w' (M : List SA) (h : sat E w' (taskA gt (R (j + 1)).1 :: M)) => Lib.hid (kreply_calls gt (R (j + 1)).1 h)
        have e9 : (((R (j + 1)).2.log.length : Int) != ((R (j + 1)).2.log.length : Int)) = false := by simp
        by_cases hk0 : k.kind = 0
        · skip
          have hT : take = false := by rw [HKD.out]; simp [hk0]
          have PS := B.puts hk0 j
          rw [B.putf hk0 j] at hwk
          have PC := fun w' (M : List SA) (h : sat E w' (putA gp (P j) :: memA gn (R j).2 :: M)) => Lib.hid (pstep_calls gp gn (P j) (R j).2 j hwk (by omega) h)
          simp only [← PS.put, ← PS.mem] at PC
          rw [← PS.get] at hs
          obtain ⟨b, hb⟩ : ∃ b, b = !decide ((P (j + 1)).phase = 0) := ⟨_, rfl⟩
          have ho := PS.over
          rw [← hb] at ho
          have e1 : ((P (j + 1)).phase != 0) = b := by rw [hb]; by_cases hx : (P (j + 1)).phase = 0 <;> simp [hx]
          have e2 : (b != b) = false := by simp
          simp only [ho] at S1 OV
          have hT := Lib.hid hT
          by_cases hx : (P (j + 1)).phase = 1
          · have hr := PS.yes hx
            have e3 : ((P (j + 1)).phase == 1) = true := by simpa using hx
            simp only [hr] at RP
            clear hb ho hr hx hk0 PS hwk hlg hok hj HKD hrT ST B
            obtain rfl := hT.out
            clear hT
            have K := Lib.hid hs
            clear hs
            go_wp2_with (first | (go_at_call 56; (with_reducible refine ((PC _ _ (((show sat E _ _ from by iterate 6 (try (with_reducible first | exact K.out | apply sat.alloc_any | apply sat.drew | apply sat.drewN))).pick 4 rfl).pick 3 rfl)).out).mono ?_); rintro e w1 ⟨rfl, K1⟩; replace K1 := (show sat E w1 [taskA gt (R j).1, memA gm (R j).2, putA gp (P (j + 1)), getA gg (G (j + 1)), memA gn (R (j + 1)).2, callPT gl k, confPT gc c] from (((K1.pick 4 rfl).pick 1 rfl).pick 4 rfl).pick 4 rfl); have K2 := Lib.hid K1; clear K1 K; (try clear a0); (try clear l0); (try clear a1); (try clear l1); (try clear a2); (try clear l2); have K := K2; clear K2) | (go_at_call 49; (with_reducible refine ((S1 _ _ (show sat E _ _ from by iterate 6 (try (with_reducible first | exact K.out | apply sat.alloc_any | apply sat.drew | apply sat.drewN)))).out).mono ?_); rintro e w1 ⟨rfl, K1⟩; have K2 := Lib.hid K1; clear K1 K; (try clear a0); (try clear l0); (try clear a1); (try clear l1); (try clear a2); (try clear l2); have K := K2; clear K2) | (go_at_call 52; (with_reducible refine (OV _ _ K.out).out.mono ?_); rintro e w1 ⟨rfl, rfl⟩) | (go_at_call 35; (first | (with_reducible refine (CTA _ _ _ _ (K.out.pick 1 rfl)).out.mono ?_) | (with_reducible refine (CTA _ _ _ _ (K.out.pick 4 rfl)).out.mono ?_)); rintro e w1 ⟨rfl, rfl⟩))
            have K1 := K.out.alloc (.cells #[.bool true, .int .u64 0, .int .i64 0, .int .i64 0] 89)
            obtain ⟨gw, hgw⟩ : ∃ g, g = w1.heap.size := ⟨_, rfl⟩
            rw [← hgw] at K1 ⊢
            clear K hgw
            have K := Lib.hid K1
            clear K1
            have a0 := K.out.rd 0 rfl; have l0 := K.out.ltp 0 rfl
            go_wp2_with (first | ((with_reducible refine at_store ?_); refine st_store 0 K.out rfl rfl rfl rfl ?_ ?_ ?_ ?_; (· kernel_rfl); (· simp); (· simp [Value.oneCell']); intro w1 K1; simp only [List.set, putL] at K1; have K2 := Lib.hid K1; clear K1 K; (try clear a0); (try clear l0); (try clear a1); (try clear l1); (try clear a2); (try clear l2); have K := K2; clear K2; have a0 := K.out.rd 0 rfl; have l0 := K.out.ltp 0 rfl) | (go_at_call 23; (with_reducible refine (GVA _ _ _ _ (K.out.pick 4 rfl)).out.mono ?_); rintro e w1 ⟨rfl, rfl⟩) | (go_at_call 57; (with_reducible refine ((PSA _ _ _ _ ((show sat E _ _ from by iterate 6 (try (with_reducible first | exact K.out | apply sat.alloc_any | apply sat.drew | apply sat.drewN))).pick 3 rfl)).out).mono ?_); rintro e w1 ⟨rfl, K1⟩; replace K1 := (show sat E w1 [pt gw (.cells #[.bool true, .int .u64 (G (j + 1)).value, .int .i64 0, .int .i64 0] 89 (0, 0)), taskA gt (R (j + 1)).1, memA gm (R (j + 1)).2, putA gp (P (j + 1)), getA gg (G (j + 1)), memA gn (R (j + 1)).2, callPT gl k, confPT gc c] from ((K1.pick 3 rfl).pick 3 rfl).pick 3 rfl); have K2 := Lib.hid K1; clear K1 K; (try clear a0); (try clear l0); (try clear a1); (try clear l1); (try clear a2); (try clear l2); have K := K2; clear K2; have a0 := K.out.rd 0 rfl; have l0 := K.out.ltp 0 rfl))
            refine wp_region_noPanic ?_
            refine wp_region_held_drew (S := (fun w' => (∀ q, w'.cell? ⟨gw, q, none⟩ = ([.bool true, .int .u64 (G (j + 1)).value, .int .i64 (P (j + 1)).stampR.lo, .int .i64 (P (j + 1)).stampR.hi] : List Value)[q]?))) (by kernel_rfl) ?_ (fun hHeld => ?_)
            · ((try dsimp only); (exact sat.rd 0 (by repeat (with_reducible first | exact K.out | apply sat.alloc_any | apply sat.drew | apply sat.drewN)) rfl))
            refine tk 0 (some 130) ?_
            (try simp only [Act.put, p0, p1, p2])
            refine tk 2 (some 132) ?_
            (try simp only [Act.put, p0, p1, p2])
            refine wpAnyH_ready (rs := [1]) (by kernel_rfl) (by simp) ?_
            refine AllReadyH.cons (o := _) rfl (fun kC hkC => ?_) AllReadyH.nil
            go_simp
            (go_at_call 50; (with_reducible refine ((RP _ _ ((show sat E _ _ from by first | exact K.out | exact K.out.drew).pick 1 rfl)).out).mono ?_); rintro e w1 ⟨rfl, K1⟩; replace K1 := K1.pick 1 rfl; have K2 := Lib.hid K1; clear K1 K; (try clear a0); (try clear l0); (try clear f0); (try clear a1); (try clear l1); (try clear f1); (try clear a2); (try clear l2); (try clear f2); (try clear a3); (try clear l3); (try clear f3); (try clear a4); (try clear l4); (try clear f4); (try clear a5); (try clear l5); (try clear f5); have K := K2; clear K2; (try have a0 := K.out.rd 0 rfl); (try have l0 := K.out.ltp 0 rfl); (try have f0 := K.out.fr 0 rfl); (try have a1 := K.out.rd 1 rfl); (try have l1 := K.out.ltp 1 rfl); (try have f1 := K.out.fr 1 rfl); (try have a2 := K.out.rd 2 rfl); (try have l2 := K.out.ltp 2 rfl); (try have f2 := K.out.fr 2 rfl); (try have a3 := K.out.rd 3 rfl); (try have l3 := K.out.ltp 3 rfl); (try have f3 := K.out.fr 3 rfl))
            refine shown hkC _ _ (by (try dsimp only); (exact sat.rd 0 (by repeat (with_reducible first | exact K.out | apply sat.alloc_any | apply sat.drew | apply sat.drewN)) rfl)) ?_; clear hkC kC hHeld; intro hHeld
            (try simp only [Act.put, p0, p1, p2])
            refine tk 3 (some 133) ?_
            (try simp only [Act.put, p0, p1, p2])
            refine wpAnyH_done (by kernel_rfl) (NoPanic.normal ?_) _
            all_goals
              go_wp2_with fail
              go_roundg gq
              case measure => omega
              case rel => exact ⟨j + 1, by have := HJ.out; omega, by first | (simp; done) | (simp; exact w64 (by omega) (by omega)), (show sat E _ _ from by first | exact K.out | exact K.out.drew).drop⟩
          · have hr := PS.no hx
            have e3 : ((P (j + 1)).phase == 1) = false := by simpa using hx
            simp only [hr] at RP
            clear hb ho hr hx hk0 PS hwk hlg hok hj HKD hrT ST B
            obtain rfl := hT.out
            clear hT
            have K := Lib.hid hs
            clear hs
            go_wp2_with (first | (go_at_call 56; (with_reducible refine ((PC _ _ (((show sat E _ _ from by iterate 6 (try (with_reducible first | exact K.out | apply sat.alloc_any | apply sat.drew | apply sat.drewN))).pick 4 rfl).pick 3 rfl)).out).mono ?_); rintro e w1 ⟨rfl, K1⟩; replace K1 := (show sat E w1 [taskA gt (R j).1, memA gm (R j).2, putA gp (P (j + 1)), getA gg (G (j + 1)), memA gn (R (j + 1)).2, callPT gl k, confPT gc c] from (((K1.pick 4 rfl).pick 1 rfl).pick 4 rfl).pick 4 rfl); have K2 := Lib.hid K1; clear K1 K; (try clear a0); (try clear l0); (try clear a1); (try clear l1); (try clear a2); (try clear l2); have K := K2; clear K2) | (go_at_call 49; (with_reducible refine ((S1 _ _ (show sat E _ _ from by iterate 6 (try (with_reducible first | exact K.out | apply sat.alloc_any | apply sat.drew | apply sat.drewN)))).out).mono ?_); rintro e w1 ⟨rfl, K1⟩; have K2 := Lib.hid K1; clear K1 K; (try clear a0); (try clear l0); (try clear a1); (try clear l1); (try clear a2); (try clear l2); have K := K2; clear K2) | (go_at_call 52; (with_reducible refine (OV _ _ K.out).out.mono ?_); rintro e w1 ⟨rfl, rfl⟩) | (go_at_call 35; (first | (with_reducible refine (CTA _ _ _ _ (K.out.pick 1 rfl)).out.mono ?_) | (with_reducible refine (CTA _ _ _ _ (K.out.pick 4 rfl)).out.mono ?_)); rintro e w1 ⟨rfl, rfl⟩))
            have K1 := K.out.alloc (.cells #[.bool false, .int .u64 0, .int .i64 0, .int .i64 0] 89)
            obtain ⟨gw, hgw⟩ : ∃ g, g = w1.heap.size := ⟨_, rfl⟩
            rw [← hgw] at K1 ⊢
            clear K hgw
            have K := Lib.hid K1
            clear K1
            have a0 := K.out.rd 0 rfl; have l0 := K.out.ltp 0 rfl
            refine wp_region_noPanic ?_
            refine wp_region_held_drew (S := (fun w' => (∀ j, w'.cell? ⟨gw, j, none⟩ = ([.bool false, .int .u64 0, .int .i64 0, .int .i64 0] : List Value)[j]?))) (by kernel_rfl) ?_ (fun hHeld => ?_)
            · ((try dsimp only); (exact sat.rd 0 (by repeat (with_reducible first | exact K.out | apply sat.alloc_any | apply sat.drew | apply sat.drewN)) rfl))
            refine tk 0 (some 130) ?_
            (try simp only [Act.put, p0, p1, p2])
            refine tk 2 (some 132) ?_
            (try simp only [Act.put, p0, p1, p2])
            refine wpAnyH_ready (rs := [1]) (by kernel_rfl) (by simp) ?_
            refine AllReadyH.cons (o := _) rfl (fun kC hkC => ?_) AllReadyH.nil
            go_simp
            (go_at_call 50; (with_reducible refine ((RP _ _ ((show sat E _ _ from by first | exact K.out | exact K.out.drew).pick 1 rfl)).out).mono ?_); rintro e w1 ⟨rfl, K1⟩; replace K1 := K1.pick 1 rfl; have K2 := Lib.hid K1; clear K1 K; (try clear a0); (try clear l0); (try clear f0); (try clear a1); (try clear l1); (try clear f1); (try clear a2); (try clear l2); (try clear f2); (try clear a3); (try clear l3); (try clear f3); (try clear a4); (try clear l4); (try clear f4); (try clear a5); (try clear l5); (try clear f5); have K := K2; clear K2; (try have a0 := K.out.rd 0 rfl); (try have l0 := K.out.ltp 0 rfl); (try have f0 := K.out.fr 0 rfl); (try have a1 := K.out.rd 1 rfl); (try have l1 := K.out.ltp 1 rfl); (try have f1 := K.out.fr 1 rfl); (try have a2 := K.out.rd 2 rfl); (try have l2 := K.out.ltp 2 rfl); (try have f2 := K.out.fr 2 rfl); (try have a3 := K.out.rd 3 rfl); (try have l3 := K.out.ltp 3 rfl); (try have f3 := K.out.fr 3 rfl))
            refine shown hkC _ _ (by (try dsimp only); (exact sat.rd 0 (by repeat (with_reducible first | exact K.out | apply sat.alloc_any | apply sat.drew | apply sat.drewN)) rfl)) ?_; clear hkC kC hHeld; intro hHeld
            (try simp only [Act.put, p0, p1, p2])
            refine tk 3 (some 133) ?_
            (try simp only [Act.put, p0, p1, p2])
            refine wpAnyH_done (by kernel_rfl) (NoPanic.normal ?_) _
            all_goals
              go_wp2_with fail
              go_roundg gq
              case measure => omega
              case rel => exact ⟨j + 1, by have := HJ.out; omega, by first | (simp; done) | (simp; exact w64 (by omega) (by omega)), (show sat E _ _ from by first | exact K.out | exact K.out.drew).drop⟩

        · skip
          have hT : take = true := by rw [HKD.out]; simp [hk0]
          have PS := B.gets hk0 j
          rw [B.getf hk0 j] at hwk
          have PC := fun w' (M : List SA) (h : sat E w' (getA gg (G j) :: memA gn (R j).2 :: M)) => Lib.hid (gstep_calls gg gn (G j) (R j).2 hwk.1 hwk.2.1 hwk.2.2 (by omega) h)
          simp only [← PS.get, ← PS.mem] at PC
          rw [← PS.put] at hs
          obtain ⟨b, hb⟩ : ∃ b, b = !decide ((G (j + 1)).phase = 0) := ⟨_, rfl⟩
          have ho := PS.over
          rw [← hb] at ho
          have e1 : ((G (j + 1)).phase != 0) = b := by rw [hb]; by_cases hx : (G (j + 1)).phase = 0 <;> simp [hx]
          have e2 : (b != b) = false := by simp
          simp only [ho] at S1 OV
          have hT := Lib.hid hT
          by_cases hx : (G (j + 1)).phase = 1
          · have hr := PS.yes hx
            have e3 : ((G (j + 1)).phase == 1) = true := by simpa using hx
            simp only [hr] at RP
            clear hb ho hr hx hk0 PS hwk hlg hok hj HKD hrT ST B
            obtain rfl := hT.out
            clear hT
            have K := Lib.hid hs
            clear hs
            go_wp2_with (first | (go_at_call 21; (with_reducible refine ((PC _ _ (((show sat E _ _ from by iterate 6 (try (with_reducible first | exact K.out | apply sat.alloc_any | apply sat.drew | apply sat.drewN))).pick 4 rfl).pick 4 rfl)).out).mono ?_); rintro e w1 ⟨rfl, K1⟩; replace K1 := (show sat E w1 [taskA gt (R j).1, memA gm (R j).2, putA gp (P (j + 1)), getA gg (G (j + 1)), memA gn (R (j + 1)).2, callPT gl k, confPT gc c] from ((K1.pick 4 rfl).pick 4 rfl).pick 4 rfl); have K2 := Lib.hid K1; clear K1 K; (try clear a0); (try clear l0); (try clear a1); (try clear l1); (try clear a2); (try clear l2); have K := K2; clear K2) | (go_at_call 49; (with_reducible refine ((S1 _ _ (show sat E _ _ from by iterate 6 (try (with_reducible first | exact K.out | apply sat.alloc_any | apply sat.drew | apply sat.drewN)))).out).mono ?_); rintro e w1 ⟨rfl, K1⟩; have K2 := Lib.hid K1; clear K1 K; (try clear a0); (try clear l0); (try clear a1); (try clear l1); (try clear a2); (try clear l2); have K := K2; clear K2) | (go_at_call 52; (with_reducible refine (OV _ _ K.out).out.mono ?_); rintro e w1 ⟨rfl, rfl⟩) | (go_at_call 35; (first | (with_reducible refine (CTA _ _ _ _ (K.out.pick 1 rfl)).out.mono ?_) | (with_reducible refine (CTA _ _ _ _ (K.out.pick 4 rfl)).out.mono ?_)); rintro e w1 ⟨rfl, rfl⟩))
            have K1 := K.out.alloc (.cells #[.bool true, .int .u64 0, .int .i64 0, .int .i64 0] 89)
            obtain ⟨gw, hgw⟩ : ∃ g, g = w1.heap.size := ⟨_, rfl⟩
            rw [← hgw] at K1 ⊢
            clear K hgw
            have K := Lib.hid K1
            clear K1
            have a0 := K.out.rd 0 rfl; have l0 := K.out.ltp 0 rfl
            go_wp2_with (first | ((with_reducible refine at_store ?_); refine st_store 0 K.out rfl rfl rfl rfl ?_ ?_ ?_ ?_; (· kernel_rfl); (· simp); (· simp [Value.oneCell']); intro w1 K1; simp only [List.set, putL] at K1; have K2 := Lib.hid K1; clear K1 K; (try clear a0); (try clear l0); (try clear a1); (try clear l1); (try clear a2); (try clear l2); have K := K2; clear K2; have a0 := K.out.rd 0 rfl; have l0 := K.out.ltp 0 rfl) | (go_at_call 23; (with_reducible refine (GVA _ _ _ _ (K.out.pick 4 rfl)).out.mono ?_); rintro e w1 ⟨rfl, rfl⟩) | (go_at_call 57; (with_reducible refine ((PSA _ _ _ _ ((show sat E _ _ from by iterate 6 (try (with_reducible first | exact K.out | apply sat.alloc_any | apply sat.drew | apply sat.drewN))).pick 3 rfl)).out).mono ?_); rintro e w1 ⟨rfl, K1⟩; replace K1 := (show sat E w1 [pt gw (.cells #[.bool true, .int .u64 (G (j + 1)).value, .int .i64 0, .int .i64 0] 89 (0, 0)), taskA gt (R (j + 1)).1, memA gm (R (j + 1)).2, putA gp (P (j + 1)), getA gg (G (j + 1)), memA gn (R (j + 1)).2, callPT gl k, confPT gc c] from ((K1.pick 3 rfl).pick 3 rfl).pick 3 rfl); have K2 := Lib.hid K1; clear K1 K; (try clear a0); (try clear l0); (try clear a1); (try clear l1); (try clear a2); (try clear l2); have K := K2; clear K2; have a0 := K.out.rd 0 rfl; have l0 := K.out.ltp 0 rfl))
            refine wp_region_noPanic ?_
            refine wp_region_held_drew (S := (fun w' => (∀ q, w'.cell? ⟨gw, q, none⟩ = ([.bool true, .int .u64 (G (j + 1)).value, .int .i64 (P (j + 1)).stampR.lo, .int .i64 (P (j + 1)).stampR.hi] : List Value)[q]?))) (by kernel_rfl) ?_ (fun hHeld => ?_)
            · ((try dsimp only); (exact sat.rd 0 (by repeat (with_reducible first | exact K.out | apply sat.alloc_any | apply sat.drew | apply sat.drewN)) rfl))
            refine tk 0 (some 130) ?_
            (try simp only [Act.put, p0, p1, p2])
            refine tk 2 (some 132) ?_
            (try simp only [Act.put, p0, p1, p2])
            refine wpAnyH_ready (rs := [1]) (by kernel_rfl) (by simp) ?_
            refine AllReadyH.cons (o := _) rfl (fun kC hkC => ?_) AllReadyH.nil
            go_simp
            (go_at_call 50; (with_reducible refine ((RP _ _ ((show sat E _ _ from by first | exact K.out | exact K.out.drew).pick 1 rfl)).out).mono ?_); rintro e w1 ⟨rfl, K1⟩; replace K1 := K1.pick 1 rfl; have K2 := Lib.hid K1; clear K1 K; (try clear a0); (try clear l0); (try clear f0); (try clear a1); (try clear l1); (try clear f1); (try clear a2); (try clear l2); (try clear f2); (try clear a3); (try clear l3); (try clear f3); (try clear a4); (try clear l4); (try clear f4); (try clear a5); (try clear l5); (try clear f5); have K := K2; clear K2; (try have a0 := K.out.rd 0 rfl); (try have l0 := K.out.ltp 0 rfl); (try have f0 := K.out.fr 0 rfl); (try have a1 := K.out.rd 1 rfl); (try have l1 := K.out.ltp 1 rfl); (try have f1 := K.out.fr 1 rfl); (try have a2 := K.out.rd 2 rfl); (try have l2 := K.out.ltp 2 rfl); (try have f2 := K.out.fr 2 rfl); (try have a3 := K.out.rd 3 rfl); (try have l3 := K.out.ltp 3 rfl); (try have f3 := K.out.fr 3 rfl))
            refine shown hkC _ _ (by (try dsimp only); (exact sat.rd 0 (by repeat (with_reducible first | exact K.out | apply sat.alloc_any | apply sat.drew | apply sat.drewN)) rfl)) ?_; clear hkC kC hHeld; intro hHeld
            (try simp only [Act.put, p0, p1, p2])
            refine tk 3 (some 133) ?_
            (try simp only [Act.put, p0, p1, p2])
            refine wpAnyH_done (by kernel_rfl) (NoPanic.normal ?_) _
            all_goals
              go_wp2_with fail
              go_roundg gq
              case measure => omega
              case rel => exact ⟨j + 1, by have := HJ.out; omega, by first | (simp; done) | (simp; exact w64 (by omega) (by omega)), (show sat E _ _ from by first | exact K.out | exact K.out.drew).drop⟩
          · have hr := PS.no hx
            have e3 : ((G (j + 1)).phase == 1) = false := by simpa using hx
            simp only [hr] at RP
            clear hb ho hr hx hk0 PS hwk hlg hok hj HKD hrT ST B
            obtain rfl := hT.out
            clear hT
            have K := Lib.hid hs
            clear hs
            go_wp2_with (first | (go_at_call 21; (with_reducible refine ((PC _ _ (((show sat E _ _ from by iterate 6 (try (with_reducible first | exact K.out | apply sat.alloc_any | apply sat.drew | apply sat.drewN))).pick 4 rfl).pick 4 rfl)).out).mono ?_); rintro e w1 ⟨rfl, K1⟩; replace K1 := (show sat E w1 [taskA gt (R j).1, memA gm (R j).2, putA gp (P (j + 1)), getA gg (G (j + 1)), memA gn (R (j + 1)).2, callPT gl k, confPT gc c] from ((K1.pick 4 rfl).pick 4 rfl).pick 4 rfl); have K2 := Lib.hid K1; clear K1 K; (try clear a0); (try clear l0); (try clear a1); (try clear l1); (try clear a2); (try clear l2); have K := K2; clear K2) | (go_at_call 49; (with_reducible refine ((S1 _ _ (show sat E _ _ from by iterate 6 (try (with_reducible first | exact K.out | apply sat.alloc_any | apply sat.drew | apply sat.drewN)))).out).mono ?_); rintro e w1 ⟨rfl, K1⟩; have K2 := Lib.hid K1; clear K1 K; (try clear a0); (try clear l0); (try clear a1); (try clear l1); (try clear a2); (try clear l2); have K := K2; clear K2) | (go_at_call 52; (with_reducible refine (OV _ _ K.out).out.mono ?_); rintro e w1 ⟨rfl, rfl⟩) | (go_at_call 35; (first | (with_reducible refine (CTA _ _ _ _ (K.out.pick 1 rfl)).out.mono ?_) | (with_reducible refine (CTA _ _ _ _ (K.out.pick 4 rfl)).out.mono ?_)); rintro e w1 ⟨rfl, rfl⟩))
            have K1 := K.out.alloc (.cells #[.bool false, .int .u64 0, .int .i64 0, .int .i64 0] 89)
            obtain ⟨gw, hgw⟩ : ∃ g, g = w1.heap.size := ⟨_, rfl⟩
            rw [← hgw] at K1 ⊢
            clear K hgw
            have K := Lib.hid K1
            clear K1
            have a0 := K.out.rd 0 rfl; have l0 := K.out.ltp 0 rfl
            refine wp_region_noPanic ?_
            refine wp_region_held_drew (S := (fun w' => (∀ j, w'.cell? ⟨gw, j, none⟩ = ([.bool false, .int .u64 0, .int .i64 0, .int .i64 0] : List Value)[j]?))) (by kernel_rfl) ?_ (fun hHeld => ?_)
            · ((try dsimp only); (exact sat.rd 0 (by repeat (with_reducible first | exact K.out | apply sat.alloc_any | apply sat.drew | apply sat.drewN)) rfl))
            refine tk 0 (some 130) ?_
            (try simp only [Act.put, p0, p1, p2])
            refine tk 2 (some 132) ?_
            (try simp only [Act.put, p0, p1, p2])
            refine wpAnyH_ready (rs := [1]) (by kernel_rfl) (by simp) ?_
            refine AllReadyH.cons (o := _) rfl (fun kC hkC => ?_) AllReadyH.nil
            go_simp
            (go_at_call 50; (with_reducible refine ((RP _ _ ((show sat E _ _ from by first | exact K.out | exact K.out.drew).pick 1 rfl)).out).mono ?_); rintro e w1 ⟨rfl, K1⟩; replace K1 := K1.pick 1 rfl; have K2 := Lib.hid K1; clear K1 K; (try clear a0); (try clear l0); (try clear f0); (try clear a1); (try clear l1); (try clear f1); (try clear a2); (try clear l2); (try clear f2); (try clear a3); (try clear l3); (try clear f3); (try clear a4); (try clear l4); (try clear f4); (try clear a5); (try clear l5); (try clear f5); have K := K2; clear K2; (try have a0 := K.out.rd 0 rfl); (try have l0 := K.out.ltp 0 rfl); (try have f0 := K.out.fr 0 rfl); (try have a1 := K.out.rd 1 rfl); (try have l1 := K.out.ltp 1 rfl); (try have f1 := K.out.fr 1 rfl); (try have a2 := K.out.rd 2 rfl); (try have l2 := K.out.ltp 2 rfl); (try have f2 := K.out.fr 2 rfl); (try have a3 := K.out.rd 3 rfl); (try have l3 := K.out.ltp 3 rfl); (try have f3 := K.out.fr 3 rfl))
            refine shown hkC _ _ (by (try dsimp only); (exact sat.rd 0 (by repeat (with_reducible first | exact K.out | apply sat.alloc_any | apply sat.drew | apply sat.drewN)) rfl)) ?_; clear hkC kC hHeld; intro hHeld
            (try simp only [Act.put, p0, p1, p2])
            refine tk 3 (some 133) ?_
            (try simp only [Act.put, p0, p1, p2])
            refine wpAnyH_done (by kernel_rfl) (NoPanic.normal ?_) _
            all_goals
              go_wp2_with fail
              go_roundg gq
              case measure => omega
              case rel => exact ⟨j + 1, by have := HJ.out; omega, by first | (simp; done) | (simp; exact w64 (by omega) (by omega)), (show sat E _ _ from by first | exact K.out | exact K.out.drew).drop⟩

      · obtain rfl : j = 200 := by omega
        have d0 : decide (((200 : Nat) : Int) < 200) = false := by decide
        have hlg := (hrT 200 (by omega)).log
        have LM := fun w' b (M : List SA) (h : sat E w' (memA b (R 200).2 :: M)) => Lib.hid (log_calls b (R 200).2 (by omega) h)
        have OV := fun w' (M : List SA) (h : sat E w' (taskA gt (R 200).1 :: M)) => Lib.hid (kover_calls gt (R 200).1 h)
        simp only [hend] at OV
        have hll : (R 200).2.log.length ≤ 1000 := by omega
        generalize (R 200).1 = tF at *
        generalize (R 200).2 = mF at *
        have K := Lib.hid hs
        clear hs hj q hlg hrT ST B HKD
        generalize P 200 = pF at *
        generalize G 200 = gF at *
        have K1 : sat E wr [memA gm mF, memA gn mF, taskA gt tF] := ((((K.out.pick 6 rfl).drop.pick 5 rfl).drop.pick 3 rfl).drop.pick 2 rfl).drop.pick 2 rfl |>.pick 2 rfl
        clear K
        have K := Lib.hid K1
        clear K1
        go_wp2_with (first | ((fail_if_success (have _h := hM2)); (go_at_call 43; (with_reducible refine ((LM _ gm _ (show sat E _ _ from by iterate 6 (try (with_reducible first | exact K.out | apply sat.alloc_any | apply sat.drew | apply sat.drewN)))).out).mono ?_); rintro e w1 ⟨p1, c1, rfl, K1⟩; have K2 := Lib.hid K1; clear K1 K; (try clear a0); (try clear l0); (try clear a1); (try clear l1); (try clear a2); (try clear l2); have K := K2; clear K2); have K1 : sat E w1 [memA gn mF, rowA (.slice p1 mF.log.length c1) 78 6 mF.log.length (evCells mF.log), taskA gt tF] := ((K.out.pick 1 rfl).drop.pick 1 rfl); clear K; have K := Lib.hid K1; clear K1; have hM2 := True.intro) | (go_at_call 43; (with_reducible refine ((LM _ gn _ (show sat E _ _ from by iterate 6 (try (with_reducible first | exact K.out | apply sat.alloc_any | apply sat.drew | apply sat.drewN)))).out).mono ?_); rintro e w1 ⟨p2, c2, rfl, K1⟩; have K2 := Lib.hid K1; clear K1 K; (try clear a0); (try clear l0); (try clear a1); (try clear l1); (try clear a2); (try clear l2); have K := K2; clear K2))
        have K1 : sat E w1 [rowA (.slice p2 mF.log.length c2) 78 6 mF.log.length (evCells mF.log), rowA (.slice p1 mF.log.length c1) 78 6 mF.log.length (evCells mF.log), taskA gt tF] := (K.out.pick 1 rfl).drop
        clear K
        have K := Lib.hid K1
        clear K1
        generalize hl0 : mF.log = l0 at *
        clear hl0
        go_loopg [140] l0.length (fun GG i w' => ∃ n : Nat, n + GG = l0.length ∧ i = .int .i64 n ∧ sat E w' [rowA (.slice p2 l0.length c2) 78 6 l0.length (evCells l0), rowA (.slice p1 l0.length c1) 78 6 l0.length (evCells l0), taskA gt tF])
        case atStart => exact ⟨0, by simp, rfl, K.out⟩
        case round =>
          obtain ⟨n, hn, rfl, hs⟩ := hrel
          clear K
          have K := Lib.hid hs
          clear hs
          have HN := Lib.hid hn
          by_cases hlt : n < l0.length
          · have d1 : decide (n < l0.length) = true := by simpa using hlt
            obtain ⟨b1, o1, hp1, hb1, hx1⟩ := oldS_evT (K.out.pick 1 rfl) n hlt
            obtain ⟨b2, o2, hp2, hb2, hx2⟩ := oldS_evT K.out n hlt
            subst hp1 hp2
            generalize l0[n] = e at *
            have Y := Lib.hid (show (wr.cell? ⟨b1, o1 + n * 6, none⟩ = some (Value.int .i64 e.who) ∧ wr.cell? ⟨b1, o1 + n * 6 + 1, none⟩ = some (Value.int .i64 e.op) ∧ wr.cell? ⟨b1, o1 + n * 6 + 2, none⟩ = some (Value.int .i64 e.cell) ∧ wr.cell? ⟨b1, o1 + n * 6 + 3, none⟩ = some (Value.int .u64 e.old) ∧ wr.cell? ⟨b1, o1 + n * 6 + 4, none⟩ = some (Value.int .u64 e.new) ∧ wr.cell? ⟨b1, o1 + n * 6 + 5, none⟩ = some (Value.bool e.ok)) ∧ (wr.cell? ⟨b2, o2 + n * 6, none⟩ = some (Value.int .i64 e.who) ∧ wr.cell? ⟨b2, o2 + n * 6 + 1, none⟩ = some (Value.int .i64 e.op) ∧ wr.cell? ⟨b2, o2 + n * 6 + 2, none⟩ = some (Value.int .i64 e.cell) ∧ wr.cell? ⟨b2, o2 + n * 6 + 3, none⟩ = some (Value.int .u64 e.old) ∧ wr.cell? ⟨b2, o2 + n * 6 + 4, none⟩ = some (Value.int .u64 e.new) ∧ wr.cell? ⟨b2, o2 + n * 6 + 5, none⟩ = some (Value.bool e.ok)) from ⟨⟨hx1 0 _ rfl, hx1 1 _ rfl, hx1 2 _ rfl, hx1 3 _ rfl, hx1 4 _ rfl, hx1 5 _ rfl⟩, hx2 0 _ rfl, hx2 1 _ rfl, hx2 2 _ rfl, hx2 3 _ rfl, hx2 4 _ rfl, hx2 5 _ rfl⟩)
            obtain ⟨gk', rfl⟩ : ∃ g', gk = g' + 1 := ⟨gk - 1, by omega⟩
            have hn3 : n < 1000001 := by omega
            clear hx1 hx2 hb1 hb2 hn
            go_wp2_with fail
            refine wp_region_noPanic ?_
            refine wp_region_held_drew (S := (fun w' => (w'.cell? ⟨b1, o1 + n * 6, none⟩ = some (Value.int .i64 e.who) ∧ w'.cell? ⟨b1, o1 + n * 6 + 1, none⟩ = some (Value.int .i64 e.op) ∧ w'.cell? ⟨b1, o1 + n * 6 + 2, none⟩ = some (Value.int .i64 e.cell) ∧ w'.cell? ⟨b1, o1 + n * 6 + 3, none⟩ = some (Value.int .u64 e.old) ∧ w'.cell? ⟨b1, o1 + n * 6 + 4, none⟩ = some (Value.int .u64 e.new) ∧ w'.cell? ⟨b1, o1 + n * 6 + 5, none⟩ = some (Value.bool e.ok)) ∧ (w'.cell? ⟨b2, o2 + n * 6, none⟩ = some (Value.int .i64 e.who) ∧ w'.cell? ⟨b2, o2 + n * 6 + 1, none⟩ = some (Value.int .i64 e.op) ∧ w'.cell? ⟨b2, o2 + n * 6 + 2, none⟩ = some (Value.int .i64 e.cell) ∧ w'.cell? ⟨b2, o2 + n * 6 + 3, none⟩ = some (Value.int .u64 e.old) ∧ w'.cell? ⟨b2, o2 + n * 6 + 4, none⟩ = some (Value.int .u64 e.new) ∧ w'.cell? ⟨b2, o2 + n * 6 + 5, none⟩ = some (Value.bool e.ok)))) (by kernel_rfl) ?_ (fun hHeld => ?_)
            · ((try dsimp only); (exact Y.out))
            refine tk 0 (some 143) ?_
            (try simp only [Act.put, p0, p1, p2])
            refine tk 1 (some 144) ?_
            (try simp only [Act.put, p0, p1, p2])
            refine tk 2 (some 145) ?_
            (try simp only [Act.put, p0, p1, p2])
            refine tk 3 (some 146) ?_
            (try simp only [Act.put, p0, p1, p2])
            refine tk 4 (some 147) ?_
            (try simp only [Act.put, p0, p1, p2])
            refine tk 5 (some 148) ?_
            (try simp only [Act.put, p0, p1, p2])
            refine tk 6 (some 149) ?_
            (try simp only [Act.put, p0, p1, p2])
            refine tk 7 (some 150) ?_
            (try simp only [Act.put, p0, p1, p2])
            refine tk 8 (some 151) ?_
            (try simp only [Act.put, p0, p1, p2])
            refine wpAnyH_done (by kernel_rfl) (NoPanic.normal ?_) _
            all_goals
              go_wp2_with fail
              go_roundg gk'
              case measure => omega
              case rel => exact ⟨n + 1, by have := HN.out; omega, by first | (simp; done) | (simp; exact w64 (by omega) (by omega)), by first | exact K.out | exact K.out.drew⟩
          · have d1 : decide (n < l0.length) = false := by simpa using hlt
            clear hn
            go_wp2_with (go_at_call 52; (with_reducible refine (OV _ _ (K.out.pick 2 rfl)).out.mono ?_); rintro e w1 ⟨rfl, rfl⟩)
            go_ret
            exact ⟨rfl, K.out.below⟩
theorem taskSteps_calls (W : World) (t : Int) (_ : (Lit.int .i64 t).wf = true) (s : Int) (_ : (Lit.int .i64 s).wf = true) (r : Int) (_ : (Lit.int .i64 r).wf = true) (who : Int) (_ : (Lit.int .i64 who).wf = true) (a : Option Addr) (len cap : Nat) (rows : List (List Value)) (h : RowsAt W thingK a len cap rows) (take right : Bool) (value : Int) (hv : (Lit.int .u64 value).wf = true) (st : Int) (_ : (Lit.int .i64 st).wf = true) :
    Calls Try.prog 12 #[.int .i64 t, .int .i64 s, .int .i64 r, .int .i64 who, .slice a len cap, .bool take, .bool right, .int .u64 value, .int .i64 st] W fun e W' => e = .returned (.bool true) ∧ Below W.heap.size W W' := by
  obtain ⟨l, rfl, hwf, ho⟩ := oldT_of h
  exact taskSteps_main t s r who a l cap take right value st (lit_u64 hv) W hwf ho
end Go.Proofs.Ytlnfbfnccefcnaa
