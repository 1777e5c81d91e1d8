/- Several texts in one: Tick TickB TickC TickD. Each says ahead of it what it shows. -/
import Derived.Test.YtegdhojhnmgjgaaGreatB2
import Derived.RegionTactic
import Derived.ChangeAlike
import Derived.Deep.QuietTactic
import Derived.BigQuiet
set_option linter.unusedVariables false
set_option linter.unusedSimpArgs false
/- How stamps are made, step by step (package tick): what each of its functions does to its Ticker and to the cells. Conditions: a Right layout, a thread of it, room for what is noted. -/
namespace Go.Proofs.YtegdhojhnmgjgaaGreat
open Go.RowKit Go.SepYtegdhojhnmgjgaaGreat
set_option maxRecDepth 100000
set_option maxHeartbeats 1000000
abbrev TickM.v (t : TickM) : List Value := [.int .i64 t.conf.th, .int .i64 t.conf.sl, .int .i64 t.conf.src, .int .i64 t.conf.dl, .int .i64 t.who, .int .i64 t.steps, .int .i64 t.a, .int .i64 t.b, .int .i64 t.stamp.lo, .int .i64 t.stamp.hi, .int .i64 t.phase]
abbrev tickA (b : Nat) (t : TickM) : SA := pt b (.cells t.v.toArray 153 (0, 0))
/-- A call that makes something new. -/
def NewA (E : World) (L : List SA) (A : Nat → SA) (e : Ending) (w' : World) : Prop := ∃ g, e = .returned (.pointer (some ⟨g, 0, none⟩)) ∧ sat E w' (A g :: L)
section
variable {E w : World} {L : List SA}
theorem point_calls (n : Int) (w : World) : Tells 99 #[.int .i64 n] w (.agg #[.int .i64 n, .int .i64 n]) := by
  go_enter Tryz.func99, Tryz.ntmps99
  go_wp2
  exact bodyPost_ret (v := .agg #[.int .i64 n, .int .i64 n]) (by simp [results, Tryz.results99, go_sem]) rfl ⟨rfl, (Below.refl _ _).alloc (Nat.le_refl _) _⟩
theorem ticknew_calls (c : ConfM) (who : Int) (h : sat E w L) :
    Calls Tryz.prog 68 #[.agg #[.int .i64 c.th, .int .i64 c.sl, .int .i64 c.src, .int .i64 c.dl], .int .i64 who] w (NewA E L (fun g => tickA g (TickM.new c who))) := by
  have K := Lib.hid h
  clear h
  go_enter Tryz.func68, Tryz.ntmps68
  go_wp2
  go_ret
  exact ⟨w.heap.size + 1, rfl, K.out.alloc2⟩
theorem tphase_calls (b : Nat) (t : TickM) (h : sat E w (tickA b t :: L)) :
    Calls Tryz.prog 73 #[.pointer (some ⟨b, 0, none⟩)] w fun e w' => e = .returned (.int .i64 t.phase) ∧ w = w' := by
  have a0 := h.rd 0 rfl
  clear h
  go_enter Tryz.func73, Tryz.ntmps73
  go_wp2
  go_ret
  exact ⟨rfl, rfl⟩
theorem tstamp_calls (b : Nat) (t : TickM) (h : sat E w (tickA b t :: L)) :
    Calls Tryz.prog 79 #[.pointer (some ⟨b, 0, none⟩)] w fun e w' => e = .returned (.agg #[.int .i64 t.stamp.lo, .int .i64 t.stamp.hi]) ∧ sat E w' (tickA b t :: L) := by
  have K := Lib.hid h
  clear h
  have a0 := K.out.rd 0 rfl; have l0 := K.out.ltp 0 rfl
  go_enter Tryz.func79, Tryz.ntmps79
  go_wp2
  exact bodyPost_ret (v := .agg #[.int .i64 t.stamp.lo, .int .i64 t.stamp.hi]) (by simp [results, Tryz.results79, go_sem]) rfl ⟨rfl, (by repeat (with_reducible first | exact K.out | apply sat.alloc_any | apply sat.drew | apply sat.drewN))⟩
theorem tload_calls (b bm : Nat) (t : TickM) (m : MemM) (th : Int) (hc : t.conf.ok) (h0 : 0 ≤ th) (h1 : th < t.conf.th) (hroom : m.log.length < 1000000000) (h : sat E w (tickA b t :: memA bm m :: L)) :
    Calls Tryz.prog 114 #[.pointer (some ⟨b, 0, none⟩), .pointer (some ⟨bm, 0, none⟩), .int .i64 th] w fun e w' =>
      e = .returned (.int .i64 (t.read m th)) ∧ sat E w' (tickA b t :: memA bm (t.load m th) :: L) := by
  have P := Lib.hid (MemM.peek_wf (memA_open h.swap).1 (t.conf.number th))
  have K := Lib.hid h
  clear h
  have a0 := K.out.rd 0 rfl; have l0 := K.out.ltp 0 rfl
  go_enter Tryz.func114, Tryz.ntmps114
  go_wp2_with fail
  go_region_held3 (fun w' => (∀ j, w'.cell? ⟨b, j, none⟩ = (t.v)[j]?) ∧ b < w'.heap.size) (first | exact sat.s0 (by repeat (with_reducible first | exact K.out | apply sat.alloc_any | apply sat.drew | apply sat.drewN)) | go_keep) (first | (go_at_call 101; (with_reducible refine (number_calls t.conf _ hc th h0 h1).mono ?_); rintro e w1 ⟨rfl, hb⟩; have K1 := sat.grown (by repeat (with_reducible first | exact K.out | apply sat.alloc_any | apply sat.drew | apply sat.drewN)) hb; clear hb; have K2 := Lib.hid K1; clear K1 K; (try clear a0); (try clear l0); (try clear a1); (try clear l1); (try clear a2); (try clear l2); have K := K2; clear K2; have a0 := K.out.rd 0 rfl; have l0 := K.out.ltp 0 rfl) | (go_at_call 95; (with_reducible refine (load_calls bm m t.who (t.conf.number th) hroom (show sat E _ _ from by iterate 6 (try (with_reducible first | exact K.out | apply sat.alloc_any | apply sat.drew | apply sat.drewN))).swap).mono ?_); rintro e w1 ⟨rfl, K1⟩; replace K1 := K1.swap; have K2 := Lib.hid K1; clear K1 K; (try clear a0); (try clear l0); (try clear a1); (try clear l1); (try clear a2); (try clear l2); have K := K2; clear K2; have a0 := K.out.rd 0 rfl; have l0 := K.out.ltp 0 rfl))
  go_wp2
  all_goals
    go_ret
    exact ⟨ret_i (by unfold TickM.read cap; have := P.out; rw [wi (by omega) (by omega)]; simp only [Top]; omega), K.out⟩
theorem tdone_calls (b : Nat) (t : TickM) (s : StampM) (h : sat E w (tickA b t :: L)) :
    Calls Tryz.prog 98 #[.pointer (some ⟨b, 0, none⟩), .agg #[.int .i64 s.lo, .int .i64 s.hi]] w fun e w' =>
      e = .returned (.tuple #[]) ∧ sat E w' (tickA b (t.done s) :: L) := by
  have K := Lib.hid h
  clear h
  have a0 := K.out.rd 0 rfl; have l0 := K.out.ltp 0 rfl
  go_enter Tryz.func98, Tryz.ntmps98
  go_wp2_with (first | ((with_reducible refine at_box ?_); refine st_boxf K.out rfl rfl (fun _ => rfl) ?_; intro g1 w1 K1; have K2 := Lib.hid K1; clear K1 K; (try clear a0); (try clear l0); (try clear a1); (try clear l1); (try clear a2); (try clear l2); have K := K2; clear K2; have a0 := K.out.rd 0 rfl; have l0 := K.out.ltp 0 rfl; have a1 := K.out.rd 1 rfl; have l1 := K.out.ltp 1 rfl) | ((with_reducible refine at_store ?_); refine st_store 1 K.out rfl rfl rfl rfl ?_ ?_ ?_ ?_; (· kernel_rfl); (· simp); (· simp [Value.oneCell']); intro w1 K1; simp only [List.set, putL] at K1; have K2 := Lib.hid K1; clear K1 K; (try clear a0); (try clear l0); (try clear a1); (try clear l1); (try clear a2); (try clear l2); have K := K2; clear K2; have a0 := K.out.rd 0 rfl; have l0 := K.out.ltp 0 rfl; have a1 := K.out.rd 1 rfl; have l1 := K.out.ltp 1 rfl) | (go_at_call 92; (with_reducible refine (sright_calls s _).mono ?_); rintro e w1 ⟨rfl, hb⟩; have K1 := sat.grown (by repeat (with_reducible first | exact K.out | apply sat.alloc_any | apply sat.drew | apply sat.drewN)) hb; clear hb; have K2 := Lib.hid K1; clear K1 K; (try clear a0); (try clear l0); (try clear a1); (try clear l1); (try clear a2); (try clear l2); have K := K2; clear K2; have a0 := K.out.rd 0 rfl; have l0 := K.out.ltp 0 rfl; have a1 := K.out.rd 1 rfl; have l1 := K.out.ltp 1 rfl))
  · (first | go_end0 | ((try simp only [Exit.inBlock, Exit.then]); refine bodyPost_ret (results_none rfl _ _ _) rfl ?_))
    rename_i hr
    have e : t.done s = { t with phase := 2 } := if_neg (by simpa using hr)
    rw [e]
    exact ⟨rfl, K.out.drop⟩
  · rename_i hr
    have hne := K.out.ne
    have f1 := K.out.fr 1 rfl
    go_region_held3 (fun w' => (∀ j, w'.cell? ⟨g1, j, none⟩ = [.int .i64 s.lo, .int .i64 s.hi][j]?) ∧ (∀ j, w'.frozen? ⟨b, j, none⟩ = false)) (first | exact ⟨fun j => by first | exact a0 j | (simp [World.cell?_setCell_far _ _ _ _ (show (⟨b, _, none⟩ : Addr).block ≠ (⟨g1, j, none⟩ : Addr).block from hne.symm), a0]), fun j => by first | exact f1 j | simp [f1]⟩ | go_keep) (fail)
    go_wp2
    (first | go_end0 | ((try simp only [Exit.inBlock, Exit.then]); refine bodyPost_ret (results_none rfl _ _ _) rfl ?_))
    have e : t.done s = { t with phase := 1, stamp := s } := if_pos (by simpa using hr)
    rw [e]
    exact ⟨rfl, (((K.out.drop.set0 (i := 10) (v := .int .i64 1)).set0 (i := 8) (v := .int .i64 s.lo)).set0 (i := 9) (v := .int .i64 s.hi)).drew⟩
end
end Go.Proofs.YtegdhojhnmgjgaaGreat
/- How stamps are made out of all threads' numbers, step by step. -/
namespace Go.Proofs.YtegdhojhnmgjgaaGreat
open Go.RowKit Go.SepYtegdhojhnmgjgaaGreat
set_option maxRecDepth 100000
set_option maxHeartbeats 1000000
section
variable {E w : World} {L : List SA}
theorem tstutter_calls (b bm : Nat) (t : TickM) (m : MemM) (hc : t.conf.ok) (hw0 : 0 ≤ t.who) (hw1 : t.who < t.conf.th) (hs : 0 ≤ t.steps) (ha : 0 ≤ t.a ∧ t.a ≤ 16777215) (hroom : m.log.length < 1000000000) (h : sat E w (tickA b t :: memA bm m :: L)) :
    Calls Tryz.prog 102 #[.pointer (some ⟨b, 0, none⟩), .pointer (some ⟨bm, 0, none⟩)] w fun e w' =>
      e = .returned (.tuple #[]) ∧ sat E w' (tickA b (t.stutter m).1 :: memA bm (t.stutter m).2 :: L) := by
  have K := Lib.hid h
  clear h
  have a0 := K.out.rd 0 rfl; have l0 := K.out.ltp 0 rfl
  by_cases hlt : t.steps < t.conf.th
  · have e : t.stutter m = ({ t with a := max t.a (t.read m t.steps) }, t.load m t.steps) := if_pos hlt
    rw [e]
    clear e
    generalize hx : t.read m t.steps = x
    have X := Lib.hid hx
    clear hx
    by_cases hm : t.a < x
    all_goals
      go_enter Tryz.func102, Tryz.ntmps102
      go_wp2_with fail
      go_quiet (fail)
      go_wp2_with fail
      go_region_with (first | ((go_at_call 114; (with_reducible refine (tload_calls b bm t m t.steps hc hs hlt hroom (show sat E _ _ from by iterate 6 (try (with_reducible first | exact K.out | apply sat.alloc_any | apply sat.drew | apply sat.drewN)))).mono ?_); rintro e w1 ⟨rfl, K1⟩; have K2 := Lib.hid K1; clear K1 K; (try clear a0); (try clear l0); (try clear a1); (try clear l1); (try clear a2); (try clear l2); have K := K2; clear K2; have a0 := K.out.rd 0 rfl; have l0 := K.out.ltp 0 rfl); rw [X.out]; have f0 := K.out.fr 0 rfl))
      all_goals
        go_wp2
        (first | go_end0 | ((try simp only [Exit.inBlock, Exit.then]); refine bodyPost_ret (results_none rfl _ _ _) rfl ?_))
        rw [show max t.a x = (if t.a < x then x else t.a) by omega]
        first | rw [if_pos hm] | rw [if_neg (by omega)]
        exact ⟨rfl, by first | exact K.out.set0 (i := 6) | exact (K.out.set0 (i := 6)).drew⟩
  · have e : t.stutter m = (t.done (point (t.a + 1)), if (t.done (point (t.a + 1))).phase = 1 then m.touch t.who 1 (t.conf.number t.who) 0 (t.a + 1) else m) := if_neg hlt
    rw [e]
    clear e
    obtain ⟨ha0, ha1⟩ := ha
    obtain ⟨t1, ht1⟩ : ∃ t1, t1 = t.done (point (t.a + 1)) := ⟨_, rfl⟩
    have hq : t1.conf = t.conf ∧ t1.who = t.who ∧ t1.a = t.a := by subst ht1; unfold TickM.done; split <;> exact ⟨rfl, rfl, rfl⟩
    rw [← ht1]
    obtain ⟨q1, q2, q3⟩ := hq
    have D := fun w (h : sat E w (tickA b t :: memA bm m :: L)) => Lib.hid (tdone_calls b t (point (t.a + 1)) h)
    rw [← ht1] at D
    have N := fun w => Lib.hid (number_calls t1.conf w (by rw [q1]; exact hc) t1.who (by rw [q2]; exact hw0) (by rw [q2, q1]; exact hw1))
    have S := fun w (h : sat E w (memA bm m :: tickA b t1 :: L)) => Lib.hid (store_calls bm m t1.who (t1.conf.number t1.who) (t1.a + 1) (by rw [q3]; omega) hroom h)
    rw [← q1, ← q2, ← q3]
    have Q := Lib.hid (And.intro q3 ht1)
    have ha0 : 0 ≤ t1.a := by rw [q3]; exact ha0
    have ha1 : t1.a ≤ 16777215 := by rw [q3]; exact ha1
    clear q1 q2 q3 ht1
    cases hp : decide (t1.phase = 1) with
    | false =>
      have hp1 : ¬ t1.phase = 1 := by simpa using hp
      rw [if_neg hp1]
      have hb : (t1.phase == 1) = false := by simpa using hp1
      clear hp hp1
      go_enter Tryz.func102, Tryz.ntmps102
      go_wp2_with fail
      go_quiet (fail)
      go_wp2_with (first | (go_at_call 99; (with_reducible refine (point_calls (t.a + 1) _).mono ?_); rintro e w1 ⟨rfl, hb⟩; have K1 := sat.grown (by repeat (with_reducible first | exact K.out | apply sat.alloc_any | apply sat.drew | apply sat.drewN)) hb; clear hb; have K2 := Lib.hid K1; clear K1 K; (try clear a0); (try clear l0); (try clear a1); (try clear l1); (try clear a2); (try clear l2); have K := K2; clear K2; have a0 := K.out.rd 0 rfl; have l0 := K.out.ltp 0 rfl) | (go_at_call 98; (with_reducible refine ((D _ (show sat E _ _ from by iterate 6 (try (with_reducible first | exact K.out | apply sat.alloc_any | apply sat.drew | apply sat.drewN)))).out).mono ?_); rintro e w1 ⟨rfl, K1⟩; have K2 := Lib.hid K1; clear K1 K; (try clear a0); (try clear l0); (try clear a1); (try clear l1); (try clear a2); (try clear l2); have K := K2; clear K2; have a0 := K.out.rd 0 rfl; have l0 := K.out.ltp 0 rfl))
      (first | go_end0 | ((try simp only [Exit.inBlock, Exit.then]); refine bodyPost_ret (results_none rfl _ _ _) rfl ?_))
      exact ⟨rfl, K.out⟩
    | true =>
      have hp1 : t1.phase = 1 := by simpa using hp
      rw [if_pos hp1]
      have hb : (t1.phase == 1) = true := by simpa using hp1
      clear hp hp1
      go_enter Tryz.func102, Tryz.ntmps102
      go_wp2_with fail
      go_quiet (fail)
      go_wp2_with (first | (go_at_call 99; (with_reducible refine (point_calls (t.a + 1) _).mono ?_); rintro e w1 ⟨rfl, hb⟩; have K1 := sat.grown (by repeat (with_reducible first | exact K.out | apply sat.alloc_any | apply sat.drew | apply sat.drewN)) hb; clear hb; have K2 := Lib.hid K1; clear K1 K; (try clear a0); (try clear l0); (try clear a1); (try clear l1); (try clear a2); (try clear l2); have K := K2; clear K2; have a0 := K.out.rd 0 rfl; have l0 := K.out.ltp 0 rfl) | (go_at_call 98; (with_reducible refine ((D _ (show sat E _ _ from by iterate 6 (try (with_reducible first | exact K.out | apply sat.alloc_any | apply sat.drew | apply sat.drewN)))).out).mono ?_); rintro e w1 ⟨rfl, K1⟩; have K2 := Lib.hid K1; clear K1 K; (try clear a0); (try clear l0); (try clear a1); (try clear l1); (try clear a2); (try clear l2); have K := K2; clear K2; have a0 := K.out.rd 0 rfl; have l0 := K.out.ltp 0 rfl))
      have v1 : IntKind.i64.wrap (t1.a + 1) = t1.a + 1 := wi (by omega) (by omega)
      have v2 : IntKind.u64.wrap (t1.a + 1) = t1.a + 1 := by rw [IntKind.wrap_u64]; omega
      go_region_held3 (fun w' => (∀ j, w'.cell? ⟨b, j, none⟩ = (t1.v)[j]?) ∧ b < w'.heap.size) (first | exact sat.s0 (by repeat (with_reducible first | exact K.out | apply sat.alloc_any | apply sat.drew | apply sat.drewN)) | go_keep) (first | (go_at_call 101; (with_reducible refine ((N _).out).mono ?_); rintro e w1 ⟨rfl, hb⟩; have K1 := sat.grown (by repeat (with_reducible first | exact K.out | apply sat.alloc_any | apply sat.drew | apply sat.drewN)) hb; clear hb; have K2 := Lib.hid K1; clear K1 K; (try clear a0); (try clear l0); (try clear a1); (try clear l1); (try clear a2); (try clear l2); have K := K2; clear K2; have a0 := K.out.rd 0 rfl; have l0 := K.out.ltp 0 rfl) | (go_at_call 75; (with_reducible refine ((S _ (show sat E _ _ from by iterate 6 (try (with_reducible first | exact K.out | apply sat.alloc_any | apply sat.drew | apply sat.drewN))).swap).out).mono ?_); rintro e w1 ⟨rfl, K1⟩; replace K1 := K1.swap; have K2 := Lib.hid K1; clear K1 K; (try clear a0); (try clear l0); (try clear a1); (try clear l1); (try clear a2); (try clear l2); have K := K2; clear K2; have a0 := K.out.rd 0 rfl; have l0 := K.out.ltp 0 rfl))
      go_wp2
      (first | go_end0 | ((try simp only [Exit.inBlock, Exit.then]); refine bodyPost_ret (results_none rfl _ _ _) rfl ?_))
      exact ⟨rfl, K.out⟩
end
end Go.Proofs.YtegdhojhnmgjgaaGreat
/- How stamps are made by a counter that is counted up if nobody else did, step by step. -/
namespace Go.Proofs.YtegdhojhnmgjgaaGreat
open Go.RowKit Go.SepYtegdhojhnmgjgaaGreat
set_option maxRecDepth 100000
set_option maxHeartbeats 1000000
section
variable {E w : World} {L : List SA}
theorem tread_bd (t : TickM) (m : MemM) (hw : m.wf) (th : Int) : 0 ≤ t.read m th ∧ t.read m th ≤ 16777215 := by
  have := MemM.peek_wf hw (t.conf.number th)
  unfold TickM.read cap Top
  omega
theorem tswap_calls (b bm : Nat) (t : TickM) (m : MemM) (hc : t.conf.ok) (hw0 : 0 ≤ t.who) (hw1 : t.who < t.conf.th) (ha : 0 ≤ t.a ∧ t.a ≤ 16777215) (hroom : m.log.length < 1000000000) (h : sat E w (tickA b t :: memA bm m :: L)) :
    Calls Tryz.prog 103 #[.pointer (some ⟨b, 0, none⟩), .pointer (some ⟨bm, 0, none⟩)] w fun e w' =>
      e = .returned (.tuple #[]) ∧ sat E w' (tickA b (t.swap m).1 :: memA bm (t.swap m).2 :: L) := by
  have K := Lib.hid h
  have P := Lib.hid (MemM.peek_wf (memA_open h.swap).1 (t.conf.number 0))
  clear h
  have a0 := K.out.rd 0 rfl; have l0 := K.out.ltp 0 rfl
  have LD := fun w (h : sat E w (tickA b t :: memA bm m :: L)) => Lib.hid (tload_calls b bm t m 0 hc (by omega) (by have := hc.th1; omega) hroom h)
  by_cases s0 : t.steps = 0
  · generalize hx : t.read m 0 = x at LD
    by_cases hx1 : 16777215 ≤ x
    · have e : t.swap m = ({ t with a := x, phase := 2 }, t.load m 0) := by unfold TickM.swap; rw [if_pos s0, hx]; simp only [Top, ge_iff_le, hx1, if_true]
      rw [e]
      have b0 : (t.steps == 0) = true := by simpa using s0
      clear e s0 hx
      go_enter Tryz.func103, Tryz.ntmps103
      go_wp2_with (first | (go_at_call 114; (with_reducible refine ((LD _ (show sat E _ _ from by iterate 6 (try (with_reducible first | exact K.out | apply sat.alloc_any | apply sat.drew | apply sat.drewN)))).out).mono ?_); rintro e w1 ⟨rfl, K1⟩; have K2 := Lib.hid K1; clear K1 K; (try clear a0); (try clear l0); (try clear a1); (try clear l1); (try clear a2); (try clear l2); have K := K2; clear K2; have a0 := K.out.rd 0 rfl; have l0 := K.out.ltp 0 rfl) | ((with_reducible refine at_store ?_); refine st_store 0 K.out rfl rfl rfl rfl ?_ ?_ ?_ ?_; (· kernel_rfl); (· simp); (· simp [Value.oneCell']); intro w1 K1; simp only [List.set, putL] at K1; have K2 := Lib.hid K1; clear K1 K; (try clear a0); (try clear l0); (try clear a1); (try clear l1); (try clear a2); (try clear l2); have K := K2; clear K2; have a0 := K.out.rd 0 rfl; have l0 := K.out.ltp 0 rfl))
      (first | go_end0 | ((try simp only [Exit.inBlock, Exit.then]); refine bodyPost_ret (results_none rfl _ _ _) rfl ?_))
      exact ⟨rfl, K.out⟩
    · have e : t.swap m = ({ t with a := x }, t.load m 0) := by unfold TickM.swap; rw [if_pos s0, hx]; simp only [Top, ge_iff_le, hx1, if_false]
      rw [e]
      have b0 : (t.steps == 0) = true := by simpa using s0
      clear e s0 hx
      go_enter Tryz.func103, Tryz.ntmps103
      go_wp2_with (first | (go_at_call 114; (with_reducible refine ((LD _ (show sat E _ _ from by iterate 6 (try (with_reducible first | exact K.out | apply sat.alloc_any | apply sat.drew | apply sat.drewN)))).out).mono ?_); rintro e w1 ⟨rfl, K1⟩; have K2 := Lib.hid K1; clear K1 K; (try clear a0); (try clear l0); (try clear a1); (try clear l1); (try clear a2); (try clear l2); have K := K2; clear K2; have a0 := K.out.rd 0 rfl; have l0 := K.out.ltp 0 rfl) | ((with_reducible refine at_store ?_); refine st_store 0 K.out rfl rfl rfl rfl ?_ ?_ ?_ ?_; (· kernel_rfl); (· simp); (· simp [Value.oneCell']); intro w1 K1; simp only [List.set, putL] at K1; have K2 := Lib.hid K1; clear K1 K; (try clear a0); (try clear l0); (try clear a1); (try clear l1); (try clear a2); (try clear l2); have K := K2; clear K2; have a0 := K.out.rd 0 rfl; have l0 := K.out.ltp 0 rfl))
      (first | go_end0 | ((try simp only [Exit.inBlock, Exit.then]); refine bodyPost_ret (results_none rfl _ _ _) rfl ?_))
      exact ⟨rfl, K.out⟩
  · have c0 : (t.steps == 0) = false := by simpa using s0
    by_cases s1 : t.steps = 1
    · have c1 : (t.steps == 1) = true := by simpa using s1
      have hxb := tread_bd t m (memA_open K.out.swap).1 0
      generalize hx : t.read m 0 = x at LD hxb
      obtain ⟨x0, x1⟩ := hxb
      by_cases hne : x = t.a
      · have e : t.swap m = ({ t with b := x }, t.load m 0) := by unfold TickM.swap; rw [if_neg s0, if_pos s1, hx]; simp [hne]
        rw [e]
        have c2 : (x == t.a) = true := by simpa using hne
        clear e s0 s1 hx hne
        go_enter Tryz.func103, Tryz.ntmps103
        go_wp2_with (first | (go_at_call 114; (with_reducible refine ((LD _ (show sat E _ _ from by iterate 6 (try (with_reducible first | exact K.out | apply sat.alloc_any | apply sat.drew | apply sat.drewN)))).out).mono ?_); rintro e w1 ⟨rfl, K1⟩; have K2 := Lib.hid K1; clear K1 K; (try clear a0); (try clear l0); (try clear a1); (try clear l1); (try clear a2); (try clear l2); have K := K2; clear K2; have a0 := K.out.rd 0 rfl; have l0 := K.out.ltp 0 rfl) | ((with_reducible refine at_store ?_); refine st_store 0 K.out rfl rfl rfl rfl ?_ ?_ ?_ ?_; (· kernel_rfl); (· simp); (· simp [Value.oneCell']); intro w1 K1; simp only [List.set, putL] at K1; have K2 := Lib.hid K1; clear K1 K; (try clear a0); (try clear l0); (try clear a1); (try clear l1); (try clear a2); (try clear l2); have K := K2; clear K2; have a0 := K.out.rd 0 rfl; have l0 := K.out.ltp 0 rfl))
        go_quiet (fail)
        go_wp2_with fail
        (first | go_end0 | ((try simp only [Exit.inBlock, Exit.then]); refine bodyPost_ret (results_none rfl _ _ _) rfl ?_))
        exact ⟨rfl, (by repeat (with_reducible first | exact K.out | apply sat.alloc_any | apply sat.drew | apply sat.drewN))⟩
      · have e : t.swap m = ({ t with b := x }.done ⟨t.a, x - 1⟩, t.load m 0) := by unfold TickM.swap; rw [if_neg s0, if_pos s1, hx]; simp [hne]
        rw [e]
        have c2 : (x == t.a) = false := by simpa using hne
        have D := fun w (h : sat E w (tickA b { t with b := x } :: memA bm (t.load m 0) :: L)) => Lib.hid (tdone_calls b { t with b := x } ⟨t.a, x - 1⟩ h)
        have v1 : IntKind.i64.wrap (x - 1) = x - 1 := wi (by omega) (by omega)
        clear e s0 s1 hx hne
        go_enter Tryz.func103, Tryz.ntmps103
        go_wp2_with (first | (go_at_call 114; (with_reducible refine ((LD _ (show sat E _ _ from by iterate 6 (try (with_reducible first | exact K.out | apply sat.alloc_any | apply sat.drew | apply sat.drewN)))).out).mono ?_); rintro e w1 ⟨rfl, K1⟩; have K2 := Lib.hid K1; clear K1 K; (try clear a0); (try clear l0); (try clear a1); (try clear l1); (try clear a2); (try clear l2); have K := K2; clear K2; have a0 := K.out.rd 0 rfl; have l0 := K.out.ltp 0 rfl) | ((with_reducible refine at_store ?_); refine st_store 0 K.out rfl rfl rfl rfl ?_ ?_ ?_ ?_; (· kernel_rfl); (· simp); (· simp [Value.oneCell']); intro w1 K1; simp only [List.set, putL] at K1; have K2 := Lib.hid K1; clear K1 K; (try clear a0); (try clear l0); (try clear a1); (try clear l1); (try clear a2); (try clear l2); have K := K2; clear K2; have a0 := K.out.rd 0 rfl; have l0 := K.out.ltp 0 rfl))
        go_quiet (fail)
        go_wp2_with fail
        go_region_with (first | (go_at_call 98; (with_reducible refine ((D _ (show sat E _ _ from by iterate 6 (try (with_reducible first | exact K.out | apply sat.alloc_any | apply sat.drew | apply sat.drewN)))).out).mono ?_); rintro e w1 ⟨rfl, K1⟩; have K2 := Lib.hid K1; clear K1 K; (try clear a0); (try clear l0); (try clear a1); (try clear l1); (try clear a2); (try clear l2); have K := K2; clear K2; have a0 := K.out.rd 0 rfl; have l0 := K.out.ltp 0 rfl))
        all_goals
          go_wp2
          (first | go_end0 | ((try simp only [Exit.inBlock, Exit.then]); refine bodyPost_ret (results_none rfl _ _ _) rfl ?_))
          exact ⟨rfl, (by repeat (with_reducible first | exact K.out | apply sat.alloc_any | apply sat.drew | apply sat.drewN))⟩
    · have c1 : (t.steps == 1) = false := by simpa using s1
      by_cases s2 : t.steps = 2
      · have c2 : (t.steps == 2) = true := by simpa using s2
        have N := fun w => Lib.hid (number_calls t.conf w hc 0 (by omega) (by have := hc.th1; omega))
        have S := fun w (h : sat E w (memA bm m :: tickA b t :: L)) => Lib.hid (swapc_calls bm m t.who (t.conf.number 0) t.a (t.a + 1) (by omega) hroom h)
        have D := fun w (h : sat E w (tickA b t :: memA bm (m.touch t.who 2 (t.conf.number 0) t.a (t.a + 1)) :: L)) => Lib.hid (tdone_calls b t (point t.a) h)
        obtain ⟨ha0, ha1⟩ := ha
        have v1 : IntKind.i64.wrap (t.a + 1) = t.a + 1 := wi (by omega) (by omega)
        have v2 : IntKind.u64.wrap (t.a + 1) = t.a + 1 := by rw [IntKind.wrap_u64]; omega
        have v3 : IntKind.u64.wrap t.a = t.a := by rw [IntKind.wrap_u64]; omega
        cases hk : m.okOf 2 (t.conf.number 0) t.a with
        | false =>
          have e : t.swap m = (t, m.touch t.who 2 (t.conf.number 0) t.a (t.a + 1)) := by unfold TickM.swap; rw [if_neg s0, if_neg s1, if_pos s2]; simp [hk]
          rw [e]
          rw [hk] at S
          clear e s0 s1 s2 hk D
          go_enter Tryz.func103, Tryz.ntmps103
          go_wp2_with fail
          go_region_held3 (fun w' => (∀ j, w'.cell? ⟨b, j, none⟩ = (t.v)[j]?) ∧ b < w'.heap.size) (first | exact sat.s0 (by repeat (with_reducible first | exact K.out | apply sat.alloc_any | apply sat.drew | apply sat.drewN)) | go_keep) (first | (go_at_call 101; (with_reducible refine ((N _).out).mono ?_); rintro e w1 ⟨rfl, hb⟩; have K1 := sat.grown (by repeat (with_reducible first | exact K.out | apply sat.alloc_any | apply sat.drew | apply sat.drewN)) hb; clear hb; have K2 := Lib.hid K1; clear K1 K; (try clear a0); (try clear l0); (try clear a1); (try clear l1); (try clear a2); (try clear l2); have K := K2; clear K2; have a0 := K.out.rd 0 rfl; have l0 := K.out.ltp 0 rfl) | (go_at_call 110; (with_reducible refine ((S _ (show sat E _ _ from by iterate 6 (try (with_reducible first | exact K.out | apply sat.alloc_any | apply sat.drew | apply sat.drewN))).swap).out).mono ?_); rintro e w1 ⟨rfl, K1⟩; replace K1 := K1.swap; have K2 := Lib.hid K1; clear K1 K; (try clear a0); (try clear l0); (try clear a1); (try clear l1); (try clear a2); (try clear l2); have K := K2; clear K2; have a0 := K.out.rd 0 rfl; have l0 := K.out.ltp 0 rfl))
          go_wp2
          (first | go_end0 | ((try simp only [Exit.inBlock, Exit.then]); refine bodyPost_ret (results_none rfl _ _ _) rfl ?_))
          exact ⟨rfl, K.out⟩
        | true =>
          have e : t.swap m = (t.done (point t.a), m.touch t.who 2 (t.conf.number 0) t.a (t.a + 1)) := by unfold TickM.swap; rw [if_neg s0, if_neg s1, if_pos s2]; simp [hk]
          rw [e]
          rw [hk] at S
          clear e s0 s1 s2 hk
          go_enter Tryz.func103, Tryz.ntmps103
          go_wp2_with fail
          go_region_held3 (fun w' => (∀ j, w'.cell? ⟨b, j, none⟩ = (t.v)[j]?) ∧ b < w'.heap.size) (first | exact sat.s0 (by repeat (with_reducible first | exact K.out | apply sat.alloc_any | apply sat.drew | apply sat.drewN)) | go_keep) (first | (go_at_call 101; (with_reducible refine ((N _).out).mono ?_); rintro e w1 ⟨rfl, hb⟩; have K1 := sat.grown (by repeat (with_reducible first | exact K.out | apply sat.alloc_any | apply sat.drew | apply sat.drewN)) hb; clear hb; have K2 := Lib.hid K1; clear K1 K; (try clear a0); (try clear l0); (try clear a1); (try clear l1); (try clear a2); (try clear l2); have K := K2; clear K2; have a0 := K.out.rd 0 rfl; have l0 := K.out.ltp 0 rfl) | (go_at_call 110; (with_reducible refine ((S _ (show sat E _ _ from by iterate 6 (try (with_reducible first | exact K.out | apply sat.alloc_any | apply sat.drew | apply sat.drewN))).swap).out).mono ?_); rintro e w1 ⟨rfl, K1⟩; replace K1 := K1.swap; have K2 := Lib.hid K1; clear K1 K; (try clear a0); (try clear l0); (try clear a1); (try clear l1); (try clear a2); (try clear l2); have K := K2; clear K2; have a0 := K.out.rd 0 rfl; have l0 := K.out.ltp 0 rfl))
          go_wp2_with (first | (go_at_call 99; (with_reducible refine (point_calls t.a _).mono ?_); rintro e w1 ⟨rfl, hb⟩; have K1 := sat.grown (by repeat (with_reducible first | exact K.out | apply sat.alloc_any | apply sat.drew | apply sat.drewN)) hb; clear hb; have K2 := Lib.hid K1; clear K1 K; (try clear a0); (try clear l0); (try clear a1); (try clear l1); (try clear a2); (try clear l2); have K := K2; clear K2; have a0 := K.out.rd 0 rfl; have l0 := K.out.ltp 0 rfl) | (go_at_call 98; (with_reducible refine ((D _ (show sat E _ _ from by iterate 6 (try (with_reducible first | exact K.out | apply sat.alloc_any | apply sat.drew | apply sat.drewN)))).out).mono ?_); rintro e w1 ⟨rfl, K1⟩; have K2 := Lib.hid K1; clear K1 K; (try clear a0); (try clear l0); (try clear a1); (try clear l1); (try clear a2); (try clear l2); have K := K2; clear K2; have a0 := K.out.rd 0 rfl; have l0 := K.out.ltp 0 rfl))
          (first | go_end0 | ((try simp only [Exit.inBlock, Exit.then]); refine bodyPost_ret (results_none rfl _ _ _) rfl ?_))
          exact ⟨rfl, K.out⟩
      · have c2 : (t.steps == 2) = false := by simpa using s2
        by_cases s3 : t.steps = 3
        · have c3 : (t.steps == 3) = true := by simpa using s3
          have hxb := tread_bd t m (memA_open K.out.swap).1 0
          generalize hx : t.read m 0 = x at LD hxb
          obtain ⟨x0, x1⟩ := hxb
          have e : t.swap m = ({ t with b := x }.done ⟨t.a, x - 1⟩, t.load m 0) := by unfold TickM.swap; rw [if_neg s0, if_neg s1, if_neg s2, if_pos s3, hx]
          rw [e]
          have D := fun w (h : sat E w (tickA b { t with b := x } :: memA bm (t.load m 0) :: L)) => Lib.hid (tdone_calls b { t with b := x } ⟨t.a, x - 1⟩ h)
          have v1 : IntKind.i64.wrap (x - 1) = x - 1 := wi (by omega) (by omega)
          clear e s0 s1 s2 s3 hx
          go_enter Tryz.func103, Tryz.ntmps103
          go_wp2_with (first | (go_at_call 114; (with_reducible refine ((LD _ (show sat E _ _ from by iterate 6 (try (with_reducible first | exact K.out | apply sat.alloc_any | apply sat.drew | apply sat.drewN)))).out).mono ?_); rintro e w1 ⟨rfl, K1⟩; have K2 := Lib.hid K1; clear K1 K; (try clear a0); (try clear l0); (try clear a1); (try clear l1); (try clear a2); (try clear l2); have K := K2; clear K2; have a0 := K.out.rd 0 rfl; have l0 := K.out.ltp 0 rfl) | ((with_reducible refine at_store ?_); refine st_store 0 K.out rfl rfl rfl rfl ?_ ?_ ?_ ?_; (· kernel_rfl); (· simp); (· simp [Value.oneCell']); intro w1 K1; simp only [List.set, putL] at K1; have K2 := Lib.hid K1; clear K1 K; (try clear a0); (try clear l0); (try clear a1); (try clear l1); (try clear a2); (try clear l2); have K := K2; clear K2; have a0 := K.out.rd 0 rfl; have l0 := K.out.ltp 0 rfl))
          go_region_with (first | (go_at_call 98; (with_reducible refine ((D _ (show sat E _ _ from by iterate 6 (try (with_reducible first | exact K.out | apply sat.alloc_any | apply sat.drew | apply sat.drewN)))).out).mono ?_); rintro e w1 ⟨rfl, K1⟩; have K2 := Lib.hid K1; clear K1 K; (try clear a0); (try clear l0); (try clear a1); (try clear l1); (try clear a2); (try clear l2); have K := K2; clear K2; have a0 := K.out.rd 0 rfl; have l0 := K.out.ltp 0 rfl))
          all_goals
            go_wp2
            (first | go_end0 | ((try simp only [Exit.inBlock, Exit.then]); refine bodyPost_ret (results_none rfl _ _ _) rfl ?_))
            exact ⟨rfl, (by repeat (with_reducible first | exact K.out | apply sat.alloc_any | apply sat.drew | apply sat.drewN))⟩
        · have c3 : (t.steps == 3) = false := by simpa using s3
          have e : t.swap m = (t, m) := by unfold TickM.swap; rw [if_neg s0, if_neg s1, if_neg s2, if_neg s3]
          rw [e]
          clear e s0 s1 s2 s3
          go_enter Tryz.func103, Tryz.ntmps103
          go_wp2
          (first | go_end0 | ((try simp only [Exit.inBlock, Exit.then]); refine bodyPost_ret (results_none rfl _ _ _) rfl ?_))
          exact ⟨rfl, K.out⟩
end
end Go.Proofs.YtegdhojhnmgjgaaGreat
/- How stamps are made: a step, by each source. -/
namespace Go.Proofs.YtegdhojhnmgjgaaGreat
open Go.RowKit Go.SepYtegdhojhnmgjgaaGreat
set_option maxRecDepth 100000
set_option maxHeartbeats 1000000
/-- A Ticker that is within its bounds. -/
structure TickM.ok (t : TickM) : Prop where
  conf : t.conf.ok
  who0 : 0 ≤ t.who
  who1 : t.who < t.conf.th
  a0 : 0 ≤ t.a
  a1 : t.a ≤ 16777215
  s0 : 0 ≤ t.steps
  s1 : t.steps ≤ 1000000000
attribute [local go_sem] min2_w max2_w min_w max_w
section
variable {E w : World} {L : List SA}
theorem tickS {b : Nat} {t t' : TickM} {M : List SA} (h : sat E w (tickA b t' :: M)) (hc : t'.conf = t.conf) (hw : t'.who = t.who) :
    w.cell? ⟨b, 0, none⟩ = some (.int .i64 t.conf.th) ∧ w.cell? ⟨b, 1, none⟩ = some (.int .i64 t.conf.sl) ∧ w.cell? ⟨b, 2, none⟩ = some (.int .i64 t.conf.src) ∧ w.cell? ⟨b, 3, none⟩ = some (.int .i64 t.conf.dl) ∧ w.cell? ⟨b, 4, none⟩ = some (.int .i64 t.who) := by
  have := h.rd 0 rfl
  rw [← hc, ← hw]
  exact ⟨this 0, this 1, this 2, this 3, this 4⟩
theorem tdone_conf (t : TickM) (s : StampM) : (t.done s).conf = t.conf := by unfold TickM.done; split <;> rfl
theorem tdone_who (t : TickM) (s : StampM) : (t.done s).who = t.who := by unfold TickM.done; split <;> rfl
theorem tdone_steps (t : TickM) (s : StampM) : (t.done s).steps = t.steps := by unfold TickM.done; split <;> rfl
theorem tswap_steps (t : TickM) (m : MemM) : (t.swap m).1.steps = t.steps := by
  unfold TickM.swap TickM.done
  dsimp only
  (repeat' split) <;> rfl
theorem tstutter_steps (t : TickM) (m : MemM) : (t.stutter m).1.steps = t.steps := by
  unfold TickM.stutter TickM.done
  dsimp only
  (repeat' split) <;> rfl
theorem tstep_off (b bm : Nat) (t : TickM) (m : MemM) (now : Int) (hp : t.phase ≠ 0) (h : sat E w (tickA b t :: memA bm m :: L)) :
    Calls Tryz.prog 74 #[.pointer (some ⟨b, 0, none⟩), .pointer (some ⟨bm, 0, none⟩), .int .i64 now] w fun e w' =>
      e = .returned (.int .i64 t.phase) ∧ sat E w' (tickA b t :: memA bm m :: L) := by
  have K := Lib.hid h
  clear h
  have a0 := K.out.rd 0 rfl; have l0 := K.out.ltp 0 rfl
  have c0 : (t.phase == 0) = false := by simpa using hp
  clear hp
  go_enter Tryz.func74, Tryz.ntmps74
  go_wp2
  go_ret
  exact ⟨rfl, K.out⟩
theorem tstep_swap (b bm : Nat) (t : TickM) (m : MemM) (now : Int) (ho : t.ok) (hp : t.phase = 0) (hs : t.conf.src = 2) (hroom : m.log.length < 1000000000) (h : sat E w (tickA b t :: memA bm m :: L)) :
    Calls Tryz.prog 74 #[.pointer (some ⟨b, 0, none⟩), .pointer (some ⟨bm, 0, none⟩), .int .i64 now] w fun e w' =>
      e = .returned (.int .i64 (t.swap m).1.phase) ∧ sat E w' (tickA b { (t.swap m).1 with steps := (t.swap m).1.steps + 1 } :: memA bm (t.swap m).2 :: L) := by
  have K := Lib.hid h
  clear h
  have a0 := K.out.rd 0 rfl; have l0 := K.out.ltp 0 rfl
  have C := fun w (h : sat E w (tickA b t :: memA bm m :: L)) => Lib.hid (tswap_calls b bm t m ho.conf ho.who0 ho.who1 ⟨ho.a0, ho.a1⟩ hroom h)
  have hst := tswap_steps t m
  obtain ⟨r, hr⟩ : ∃ r, r = t.swap m := ⟨_, rfl⟩
  rw [← hr] at C hst ⊢
  have b0 : 0 ≤ r.1.steps := by rw [hst]; exact ho.s0
  have b1 : r.1.steps ≤ 1000000000 := by rw [hst]; exact ho.s1
  have c0 : (t.phase == 0) = true := by simpa using hp
  have c1 : (t.conf.src == 0) = false := by simp [hs]
  have c2 : (t.conf.src == 1) = false := by simp [hs]
  have c3 : (t.conf.src == 2) = true := by simp [hs]
  clear hp hs hr hst ho
  · go_enter Tryz.func74, Tryz.ntmps74
    go_wp2_with (first | (go_at_call 103; (with_reducible refine ((C _ (show sat E _ _ from by iterate 6 (try (with_reducible first | exact K.out | apply sat.alloc_any | apply sat.drew | apply sat.drewN)))).out).mono ?_); rintro e w1 ⟨rfl, K1⟩; have K2 := Lib.hid K1; clear K1 K; (try clear a0); (try clear l0); (try clear a1); (try clear l1); (try clear a2); (try clear l2); have K := K2; clear K2; have a0 := K.out.rd 0 rfl; have l0 := K.out.ltp 0 rfl) | ((with_reducible refine at_store ?_); refine st_store 0 K.out rfl rfl rfl rfl ?_ ?_ ?_ ?_; (· kernel_rfl); (· simp); (· simp [Value.oneCell']); intro w1 K1; simp only [List.set, putL] at K1; have K2 := Lib.hid K1; clear K1 K; (try clear a0); (try clear l0); (try clear a1); (try clear l1); (try clear a2); (try clear l2); have K := K2; clear K2; have a0 := K.out.rd 0 rfl; have l0 := K.out.ltp 0 rfl))
    go_ret
    exact ⟨rfl, K.out⟩
theorem tstep_stutter (b bm : Nat) (t : TickM) (m : MemM) (now : Int) (ho : t.ok) (hp : t.phase = 0) (hs : t.conf.src = 1) (hroom : m.log.length < 1000000000) (h : sat E w (tickA b t :: memA bm m :: L)) :
    Calls Tryz.prog 74 #[.pointer (some ⟨b, 0, none⟩), .pointer (some ⟨bm, 0, none⟩), .int .i64 now] w fun e w' =>
      e = .returned (.int .i64 (t.stutter m).1.phase) ∧ sat E w' (tickA b { (t.stutter m).1 with steps := (t.stutter m).1.steps + 1 } :: memA bm (t.stutter m).2 :: L) := by
  have K := Lib.hid h
  clear h
  have a0 := K.out.rd 0 rfl; have l0 := K.out.ltp 0 rfl
  have C := fun w (h : sat E w (tickA b t :: memA bm m :: L)) => Lib.hid (tstutter_calls b bm t m ho.conf ho.who0 ho.who1 ho.s0 ⟨ho.a0, ho.a1⟩ hroom h)
  have hst := tstutter_steps t m
  obtain ⟨r, hr⟩ : ∃ r, r = t.stutter m := ⟨_, rfl⟩
  rw [← hr] at C hst ⊢
  have b0 : 0 ≤ r.1.steps := by rw [hst]; exact ho.s0
  have b1 : r.1.steps ≤ 1000000000 := by rw [hst]; exact ho.s1
  have c0 : (t.phase == 0) = true := by simpa using hp
  have c1 : (t.conf.src == 0) = false := by simp [hs]
  have c2 : (t.conf.src == 1) = true := by simp [hs]
  clear hp hs hr hst ho
  · go_enter Tryz.func74, Tryz.ntmps74
    go_wp2_with (first | (go_at_call 102; (with_reducible refine ((C _ (show sat E _ _ from by iterate 6 (try (with_reducible first | exact K.out | apply sat.alloc_any | apply sat.drew | apply sat.drewN)))).out).mono ?_); rintro e w1 ⟨rfl, K1⟩; have K2 := Lib.hid K1; clear K1 K; (try clear a0); (try clear l0); (try clear a1); (try clear l1); (try clear a2); (try clear l2); have K := K2; clear K2; have a0 := K.out.rd 0 rfl; have l0 := K.out.ltp 0 rfl) | ((with_reducible refine at_store ?_); refine st_store 0 K.out rfl rfl rfl rfl ?_ ?_ ?_ ?_; (· kernel_rfl); (· simp); (· simp [Value.oneCell']); intro w1 K1; simp only [List.set, putL] at K1; have K2 := Lib.hid K1; clear K1 K; (try clear a0); (try clear l0); (try clear a1); (try clear l1); (try clear a2); (try clear l2); have K := K2; clear K2; have a0 := K.out.rd 0 rfl; have l0 := K.out.ltp 0 rfl))
    go_ret
    exact ⟨rfl, K.out⟩
theorem tstep_count (b bm : Nat) (t : TickM) (m : MemM) (now : Int) (ho : t.ok) (hp : t.phase = 0) (hs : t.conf.src = 0) (hroom : m.log.length < 1000000000) (h : sat E w (tickA b t :: memA bm m :: L)) :
    Calls Tryz.prog 74 #[.pointer (some ⟨b, 0, none⟩), .pointer (some ⟨bm, 0, none⟩), .int .i64 now] w fun e w' =>
      e = .returned (.int .i64 (t.done (point (cap (m.peek (t.conf.number 0))))).phase) ∧ sat E w' (tickA b { t.done (point (cap (m.peek (t.conf.number 0)))) with steps := t.steps + 1 } :: memA bm (m.touch t.who 3 (t.conf.number 0) 0 1) :: L) := by
  have K := Lib.hid h
  have hpk := MemM.peek_wf (memA_open h.swap).1 (t.conf.number 0)
  clear h
  have a0 := K.out.rd 0 rfl; have l0 := K.out.ltp 0 rfl
  have N := fun w => Lib.hid (number_calls t.conf w ho.conf 0 (by omega) (by have := ho.conf.th1; omega))
  have A := fun w (h : sat E w (memA bm m :: tickA b t :: L)) => Lib.hid (add_calls bm m t.who (t.conf.number 0) 1 (by omega) hroom h)
  have hdone := tdone_steps t (point (cap (m.peek (t.conf.number 0))))
  have D := fun w (h : sat E w (tickA b t :: memA bm (m.touch t.who 3 (t.conf.number 0) 0 1) :: L)) => Lib.hid (tdone_calls b t (point (cap (m.peek (t.conf.number 0)))) h)
  have hcf := Lib.hid (tdone_conf t (point (cap (m.peek (t.conf.number 0)))))
  have hwf := Lib.hid (tdone_who t (point (cap (m.peek (t.conf.number 0)))))
  generalize hx : m.peek (t.conf.number 0) = x at A hpk D hdone hcf hwf
  have e : cap x = min x 16777215 := rfl
  rw [e] at D hdone hcf hwf ⊢
  obtain ⟨x0, x1⟩ := hpk
  have v1 : IntKind.i64.wrap (min x 16777215) = min x 16777215 := wi (by omega) (by omega)
  rw [← hdone]
  generalize hr : t.done (point (min x 16777215)) = r at D hdone hcf hwf
  have b0 : 0 ≤ r.steps := by rw [hdone]; exact ho.s0
  have b1 : r.steps ≤ 1000000000 := by rw [hdone]; exact ho.s1
  have c0 : (t.phase == 0) = true := by simpa using hp
  have c1 : (t.conf.src == 0) = true := by simp [hs]
  clear hp hs hx ho hdone e hr
  go_enter Tryz.func74, Tryz.ntmps74
  go_wp2_with fail
  go_region_held3 (fun w' => w'.cell? ⟨b, 0, none⟩ = some (.int .i64 t.conf.th) ∧ w'.cell? ⟨b, 1, none⟩ = some (.int .i64 t.conf.sl) ∧ w'.cell? ⟨b, 2, none⟩ = some (.int .i64 t.conf.src) ∧ w'.cell? ⟨b, 3, none⟩ = some (.int .i64 t.conf.dl) ∧ w'.cell? ⟨b, 4, none⟩ = some (.int .i64 t.who)) (first | exact tickS (M := _) (by repeat (with_reducible first | exact K.out | apply sat.alloc_any | apply sat.drew | apply sat.drewN)) rfl rfl | exact tickS (M := _) (by repeat (with_reducible first | exact K.out | apply sat.alloc_any | apply sat.drew | apply sat.drewN)) hcf.out hwf.out | go_keep)
    (first | (go_at_call 101; (with_reducible refine ((N _).out).mono ?_); rintro e w1 ⟨rfl, hb⟩; have K1 := sat.grown (by repeat (with_reducible first | exact K.out | apply sat.alloc_any | apply sat.drew | apply sat.drewN)) hb; clear hb; have K2 := Lib.hid K1; clear K1 K; (try clear a0); (try clear l0); (try clear a1); (try clear l1); (try clear a2); (try clear l2); have K := K2; clear K2; have a0 := K.out.rd 0 rfl; have l0 := K.out.ltp 0 rfl) | (go_at_call 100; (with_reducible refine ((A _ (show sat E _ _ from by iterate 6 (try (with_reducible first | exact K.out | apply sat.alloc_any | apply sat.drew | apply sat.drewN))).swap).out).mono ?_); rintro e w1 ⟨rfl, K1⟩; replace K1 := K1.swap; have K2 := Lib.hid K1; clear K1 K; (try clear a0); (try clear l0); (try clear a1); (try clear l1); (try clear a2); (try clear l2); have K := K2; clear K2; have a0 := K.out.rd 0 rfl; have l0 := K.out.ltp 0 rfl) | (go_at_call 99; (with_reducible refine (point_calls (min x 16777215) _).mono ?_); rintro e w1 ⟨rfl, hb⟩; have K1 := sat.grown (by repeat (with_reducible first | exact K.out | apply sat.alloc_any | apply sat.drew | apply sat.drewN)) hb; clear hb; have K2 := Lib.hid K1; clear K1 K; (try clear a0); (try clear l0); (try clear a1); (try clear l1); (try clear a2); (try clear l2); have K := K2; clear K2; have a0 := K.out.rd 0 rfl; have l0 := K.out.ltp 0 rfl) | (go_at_call 98; (with_reducible refine ((D _ (show sat E _ _ from by iterate 6 (try (with_reducible first | exact K.out | apply sat.alloc_any | apply sat.drew | apply sat.drewN)))).out).mono ?_); rintro e w1 ⟨rfl, K1⟩; have K2 := Lib.hid K1; clear K1 K; (try clear a0); (try clear l0); (try clear a1); (try clear l1); (try clear a2); (try clear l2); have K := K2; clear K2; have a0 := K.out.rd 0 rfl; have l0 := K.out.ltp 0 rfl))
  go_wp2_with (first | ((with_reducible refine at_store ?_); refine st_store 0 K.out rfl rfl rfl rfl ?_ ?_ ?_ ?_; (· kernel_rfl); (· simp); (· simp [Value.oneCell']); intro w1 K1; simp only [List.set, putL] at K1; have K2 := Lib.hid K1; clear K1 K; (try clear a0); (try clear l0); (try clear a1); (try clear l1); (try clear a2); (try clear l2); have K := K2; clear K2; have a0 := K.out.rd 0 rfl; have l0 := K.out.ltp 0 rfl))
  go_ret
  exact ⟨rfl, K.out⟩
theorem tstep_clock (b bm : Nat) (t : TickM) (m : MemM) (now : Int) (ho : t.ok) (hp : t.phase = 0) (hs : t.conf.src = 3) (h : sat E w (tickA b t :: memA bm m :: L)) :
    Calls Tryz.prog 74 #[.pointer (some ⟨b, 0, none⟩), .pointer (some ⟨bm, 0, none⟩), .int .i64 now] w fun e w' =>
      e = .returned (.int .i64 (t.done (point (cap now))).phase) ∧ sat E w' (tickA b { t.done (point (cap now)) with steps := t.steps + 1 } :: memA bm m :: L) := by
  have K := Lib.hid h
  clear h
  have a0 := K.out.rd 0 rfl; have l0 := K.out.ltp 0 rfl
  have hdone := tdone_steps t (point (cap now))
  have D := fun w (h : sat E w (tickA b t :: memA bm m :: L)) => Lib.hid (tdone_calls b t (point (cap now)) h)
  have e : cap now = min now 16777215 := rfl
  rw [e] at D hdone ⊢
  rw [← hdone]
  generalize hr : t.done (point (min now 16777215)) = r at D hdone
  have b0 : 0 ≤ r.steps := by rw [hdone]; exact ho.s0
  have b1 : r.steps ≤ 1000000000 := by rw [hdone]; exact ho.s1
  have c0 : (t.phase == 0) = true := by simpa using hp
  have c1 : (t.conf.src == 0) = false := by simp [hs]
  have c2 : (t.conf.src == 1) = false := by simp [hs]
  have c3 : (t.conf.src == 2) = false := by simp [hs]
  have c4 : (t.conf.src == 4) = false := by simp [hs]
  clear hp hs ho hdone e hr
  go_enter Tryz.func74, Tryz.ntmps74
  go_wp2_with (first | (go_at_call 99; (with_reducible refine (point_calls (min now 16777215) _).mono ?_); rintro e w1 ⟨rfl, hb⟩; have K1 := sat.grown (by repeat (with_reducible first | exact K.out | apply sat.alloc_any | apply sat.drew | apply sat.drewN)) hb; clear hb; have K2 := Lib.hid K1; clear K1 K; (try clear a0); (try clear l0); (try clear a1); (try clear l1); (try clear a2); (try clear l2); have K := K2; clear K2; have a0 := K.out.rd 0 rfl; have l0 := K.out.ltp 0 rfl) | (go_at_call 98; (with_reducible refine ((D _ (show sat E _ _ from by iterate 6 (try (with_reducible first | exact K.out | apply sat.alloc_any | apply sat.drew | apply sat.drewN)))).out).mono ?_); rintro e w1 ⟨rfl, K1⟩; have K2 := Lib.hid K1; clear K1 K; (try clear a0); (try clear l0); (try clear a1); (try clear l1); (try clear a2); (try clear l2); have K := K2; clear K2; have a0 := K.out.rd 0 rfl; have l0 := K.out.ltp 0 rfl) | ((with_reducible refine at_store ?_); refine st_store 0 K.out rfl rfl rfl rfl ?_ ?_ ?_ ?_; (· kernel_rfl); (· simp); (· simp [Value.oneCell']); intro w1 K1; simp only [List.set, putL] at K1; have K2 := Lib.hid K1; clear K1 K; (try clear a0); (try clear l0); (try clear a1); (try clear l1); (try clear a2); (try clear l2); have K := K2; clear K2; have a0 := K.out.rd 0 rfl; have l0 := K.out.ltp 0 rfl))
  go_ret
  exact ⟨rfl, K.out⟩
theorem tstep_wide1 (b bm : Nat) (t : TickM) (m : MemM) (now : Int) (ho : t.ok) (hp : t.phase = 0) (hs : t.conf.src = 4) (h0 : t.steps = 0) (h : sat E w (tickA b t :: memA bm m :: L)) :
    Calls Tryz.prog 74 #[.pointer (some ⟨b, 0, none⟩), .pointer (some ⟨bm, 0, none⟩), .int .i64 now] w fun e w' =>
      e = .returned (.int .i64 t.phase) ∧ sat E w' (tickA b { t with a := cap now, steps := t.steps + 1 } :: memA bm m :: L) := by
  have K := Lib.hid h
  clear h
  have a0 := K.out.rd 0 rfl; have l0 := K.out.ltp 0 rfl
  have e : cap now = min now 16777215 := rfl
  rw [e]
  have b0 := ho.s0
  have b1 := ho.s1
  have c0 : (t.phase == 0) = true := by simpa using hp
  have c1 : (t.conf.src == 0) = false := by simp [hs]
  have c2 : (t.conf.src == 1) = false := by simp [hs]
  have c3 : (t.conf.src == 2) = false := by simp [hs]
  have c4 : (t.conf.src == 4) = true := by simp [hs]
  have c5 : (t.steps == 0) = true := by simpa using h0
  have c6 : t.steps ≤ t.conf.dl := by have := ho.conf.dl1; omega
  clear hp hs ho e h0
  go_enter Tryz.func74, Tryz.ntmps74
  go_wp2_with (first | ((with_reducible refine at_store ?_); refine st_store 0 K.out rfl rfl rfl rfl ?_ ?_ ?_ ?_; (· kernel_rfl); (· simp); (· simp [Value.oneCell']); intro w1 K1; simp only [List.set, putL] at K1; have K2 := Lib.hid K1; clear K1 K; (try clear a0); (try clear l0); (try clear a1); (try clear l1); (try clear a2); (try clear l2); have K := K2; clear K2; have a0 := K.out.rd 0 rfl; have l0 := K.out.ltp 0 rfl))
  go_quiet (fail); (have K1 := K.out.drewN nq; revert K1; generalize World.drewN w1 nq = w9; intro K1; have K2 := Lib.hid K1; clear K1 K; (try clear a0); (try clear l0); (try clear a1); (try clear l1); (try clear a2); (try clear l2); have K := K2; clear K2; have a0 := K.out.rd 0 rfl; have l0 := K.out.ltp 0 rfl)
  go_wp2_with (first | ((with_reducible refine at_store ?_); refine st_store 0 K.out rfl rfl rfl rfl ?_ ?_ ?_ ?_; (· kernel_rfl); (· simp); (· simp [Value.oneCell']); intro w1 K1; simp only [List.set, putL] at K1; have K2 := Lib.hid K1; clear K1 K; (try clear a0); (try clear l0); (try clear a1); (try clear l1); (try clear a2); (try clear l2); have K := K2; clear K2; have a0 := K.out.rd 0 rfl; have l0 := K.out.ltp 0 rfl))
  go_ret
  exact ⟨rfl, K.out⟩
theorem tstep_wide2 (b bm : Nat) (t : TickM) (m : MemM) (now : Int) (ho : t.ok) (hp : t.phase = 0) (hs : t.conf.src = 4) (h0 : t.steps ≠ 0) (h1 : t.steps ≤ t.conf.dl) (h : sat E w (tickA b t :: memA bm m :: L)) :
    Calls Tryz.prog 74 #[.pointer (some ⟨b, 0, none⟩), .pointer (some ⟨bm, 0, none⟩), .int .i64 now] w fun e w' =>
      e = .returned (.int .i64 t.phase) ∧ sat E w' (tickA b { t with steps := t.steps + 1 } :: memA bm m :: L) := by
  have K := Lib.hid h
  clear h
  have a0 := K.out.rd 0 rfl; have l0 := K.out.ltp 0 rfl
  have b0 := ho.s0
  have b1 := ho.s1
  have c0 : (t.phase == 0) = true := by simpa using hp
  have c1 : (t.conf.src == 0) = false := by simp [hs]
  have c2 : (t.conf.src == 1) = false := by simp [hs]
  have c3 : (t.conf.src == 2) = false := by simp [hs]
  have c4 : (t.conf.src == 4) = true := by simp [hs]
  have c5 : (t.steps == 0) = false := by simpa using h0
  clear hp hs ho h0
  go_enter Tryz.func74, Tryz.ntmps74
  go_wp2_with fail
  go_quiet (fail); (have K1 := K.out.drewN nq; revert K1; generalize World.drewN w nq = w9; intro K1; have K2 := Lib.hid K1; clear K1 K; (try clear a0); (try clear l0); (try clear a1); (try clear l1); (try clear a2); (try clear l2); have K := K2; clear K2; have a0 := K.out.rd 0 rfl; have l0 := K.out.ltp 0 rfl)
  go_wp2_with (first | ((with_reducible refine at_store ?_); refine st_store 0 K.out rfl rfl rfl rfl ?_ ?_ ?_ ?_; (· kernel_rfl); (· simp); (· simp [Value.oneCell']); intro w1 K1; simp only [List.set, putL] at K1; have K2 := Lib.hid K1; clear K1 K; (try clear a0); (try clear l0); (try clear a1); (try clear l1); (try clear a2); (try clear l2); have K := K2; clear K2; have a0 := K.out.rd 0 rfl; have l0 := K.out.ltp 0 rfl))
  go_ret
  exact ⟨rfl, K.out⟩
theorem tstep_wide3 (b bm : Nat) (t : TickM) (m : MemM) (now : Int) (ho : t.ok) (hp : t.phase = 0) (hs : t.conf.src = 4) (h0 : t.steps ≠ 0) (h1 : t.conf.dl < t.steps) (h : sat E w (tickA b t :: memA bm m :: L)) :
    Calls Tryz.prog 74 #[.pointer (some ⟨b, 0, none⟩), .pointer (some ⟨bm, 0, none⟩), .int .i64 now] w fun e w' =>
      e = .returned (.int .i64 (t.done ⟨t.a, cap now⟩).phase) ∧ sat E w' (tickA b { t.done ⟨t.a, cap now⟩ with steps := t.steps + 1 } :: memA bm m :: L) := by
  have K := Lib.hid h
  clear h
  have a0 := K.out.rd 0 rfl; have l0 := K.out.ltp 0 rfl
  have hdone := tdone_steps t ⟨t.a, cap now⟩
  have D := fun w (h : sat E w (tickA b t :: memA bm m :: L)) => Lib.hid (tdone_calls b t ⟨t.a, cap now⟩ h)
  have e : cap now = min now 16777215 := rfl
  rw [e] at D hdone ⊢
  rw [← hdone]
  generalize hr : t.done ⟨t.a, min now 16777215⟩ = r at D hdone
  have b2 : 0 ≤ r.steps := by rw [hdone]; exact ho.s0
  have b3 : r.steps ≤ 1000000000 := by rw [hdone]; exact ho.s1
  have b0 := ho.s0
  have b1 := ho.s1
  have c0 : (t.phase == 0) = true := by simpa using hp
  have c1 : (t.conf.src == 0) = false := by simp [hs]
  have c2 : (t.conf.src == 1) = false := by simp [hs]
  have c3 : (t.conf.src == 2) = false := by simp [hs]
  have c4 : (t.conf.src == 4) = true := by simp [hs]
  have c5 : (t.steps == 0) = false := by simpa using h0
  clear hp hs ho h0 hr hdone e
  go_enter Tryz.func74, Tryz.ntmps74
  go_wp2_with fail
  go_quiet (fail); (have K1 := K.out.drewN nq; revert K1; generalize World.drewN w nq = w9; intro K1; have K2 := Lib.hid K1; clear K1 K; (try clear a0); (try clear l0); (try clear a1); (try clear l1); (try clear a2); (try clear l2); have K := K2; clear K2; have a0 := K.out.rd 0 rfl; have l0 := K.out.ltp 0 rfl)
  go_wp2_with (first | (go_at_call 99; (with_reducible refine (point_calls (min now 16777215) _).mono ?_); rintro e w1 ⟨rfl, hb⟩; have K1 := sat.grown (by repeat (with_reducible first | exact K.out | apply sat.alloc_any | apply sat.drew | apply sat.drewN)) hb; clear hb; have K2 := Lib.hid K1; clear K1 K; (try clear a0); (try clear l0); (try clear a1); (try clear l1); (try clear a2); (try clear l2); have K := K2; clear K2; have a0 := K.out.rd 0 rfl; have l0 := K.out.ltp 0 rfl) | (go_at_call 98; (with_reducible refine ((D _ (show sat E _ _ from by iterate 6 (try (with_reducible first | exact K.out | apply sat.alloc_any | apply sat.drew | apply sat.drewN)))).out).mono ?_); rintro e w1 ⟨rfl, K1⟩; have K2 := Lib.hid K1; clear K1 K; (try clear a0); (try clear l0); (try clear a1); (try clear l1); (try clear a2); (try clear l2); have K := K2; clear K2; have a0 := K.out.rd 0 rfl; have l0 := K.out.ltp 0 rfl) | ((with_reducible refine at_store ?_); refine st_store 0 K.out rfl rfl rfl rfl ?_ ?_ ?_ ?_; (· kernel_rfl); (· simp); (· simp [Value.oneCell']); intro w1 K1; simp only [List.set, putL] at K1; have K2 := Lib.hid K1; clear K1 K; (try clear a0); (try clear l0); (try clear a1); (try clear l1); (try clear a2); (try clear l2); have K := K2; clear K2; have a0 := K.out.rd 0 rfl; have l0 := K.out.ltp 0 rfl))
  go_ret
  exact ⟨rfl, K.out⟩
/-- A step of a Ticker. -/
theorem tstep_calls (b bm : Nat) (t : TickM) (m : MemM) (now : Int) (ho : t.ok) (hroom : m.log.length < 1000000000) (h : sat E w (tickA b t :: memA bm m :: L)) :
    Calls Tryz.prog 74 #[.pointer (some ⟨b, 0, none⟩), .pointer (some ⟨bm, 0, none⟩), .int .i64 now] w fun e w' =>
      e = .returned (.int .i64 (t.step m now).1.phase) ∧ sat E w' (tickA b (t.step m now).1 :: memA bm (t.step m now).2 :: L) := by
  unfold TickM.step
  by_cases hp : t.phase = 0
  · rw [if_neg (by simpa using hp)]
    have s1 := ho.conf.src1
    have s2 := ho.conf.src2
    by_cases c0 : t.conf.src = 0
    · simp only [c0, if_true]
      have := tstep_count b bm t m now ho hp c0 hroom h
      rw [← tdone_steps t (point (cap (m.peek (t.conf.number 0))))] at this
      exact this
    by_cases c1 : t.conf.src = 1
    · simp only [c1]; exact tstep_stutter b bm t m now ho hp c1 hroom h
    by_cases c2 : t.conf.src = 2
    · simp only [c2]; exact tstep_swap b bm t m now ho hp c2 hroom h
    by_cases c3 : t.conf.src = 3
    · simp only [c3]
      have := tstep_clock b bm t m now ho hp c3 h
      rw [← tdone_steps t (point (cap now))] at this
      exact this
    · have c4 : t.conf.src = 4 := by omega
      simp only [c4]
      by_cases z : t.steps = 0
      · have zd : t.steps ≤ t.conf.dl := by have := ho.conf.dl1; omega
        have := tstep_wide1 b bm t m now ho hp c4 z h
        simpa [z, zd, show (0 : Int) ≤ t.conf.dl from ho.conf.dl1] using this
      · by_cases zd : t.steps ≤ t.conf.dl
        · have := tstep_wide2 b bm t m now ho hp c4 z zd h
          simpa [z, zd] using this
        · have := tstep_wide3 b bm t m now ho hp c4 z (by omega) h
          rw [← tdone_steps t ⟨t.a, cap now⟩] at this
          simpa [z, zd] using this
  · rw [if_pos hp]
    exact tstep_off b bm t m now hp h
end
end Go.Proofs.YtegdhojhnmgjgaaGreat
