/- Several texts in one: Moves Run14. Each says ahead of it what it shows. -/
import Derived.Test.YtegdhojhnmgjgaaGreatBb
import Derived.Test.YtegdhojhnmgjgaaGreatBc
import Derived.Test.YtegdhojhnmgjgaaGreatB2
set_option linter.unusedVariables false
set_option linter.unusedSimpArgs false
/- Moves of the statements of yard (Make, Call, Do): what is done to a yard. Conditions: as YardM.okn says. -/
namespace Go.Proofs.YtegdhojhnmgjgaaGreat
open Go.RowKit Go.SepYtegdhojhnmgjgaaGreat
set_option maxRecDepth 100000
set_option maxHeartbeats 4000000
def bitM (b : Bool) : Int := if b = true then 1 else 0
abbrev callV (k : CallM) : Value := .agg #[.int .i64 k.kind, .int .i64 k.fin, .int .u64 k.value, .int .i64 k.start]
abbrev MoveM.v (v : MoveM) : List Value := [.int .i64 v.kind, .int .i64 v.who, .bool v.take, .bool v.right, .int .u64 v.value, .int .i64 v.start, .int .i64 v.time]
abbrev moveV (v : MoveM) : Value := .agg #[.int .i64 v.kind, .int .i64 v.who, .bool v.take, .bool v.right, .int .u64 v.value, .int .i64 v.start, .int .i64 v.time]
theorem make_calls (take right : Bool) (value start : Int) (w : World) : Tells 40 #[.bool take, .bool right, .int .u64 value, .int .i64 start] w (callV ⟨bitM take, bitM right, value, start⟩) := by
  have K := Lib.hid (sat.start w)
  cases take <;> cases right
  all_goals
    go_enter Tryz.func40, Tryz.ntmps40
    go_wp2
    exact bodyPost_ret (v := callV ⟨_, _, value, start⟩) (by simp [results, Tryz.results40, go_sem]; first | rfl | exact ⟨rfl, rfl⟩) rfl ⟨rfl, ((K.out.alloc_any _).alloc_any _).below⟩
theorem mcall_calls (v : MoveM) (w : World) : Tells 20 #[moveV v] w (callV v.call) := by
  have K := Lib.hid (sat.start w)
  have MK := fun w => Lib.hid (make_calls v.take v.right v.value v.start w)
  go_enter Tryz.func20, Tryz.ntmps20
  go_wp2_with (first | ((with_reducible refine at_box ?_); refine st_boxf K.out rfl rfl (fun _ => rfl) ?_; intro g1 w1 K1; have K2 := Lib.hid K1; clear K1 K; (try clear a0); (try clear l0); (try clear a1); (try clear l1); (try clear a2); (try clear l2); have K := K2; clear K2; have a0 := K.out.rd 0 rfl; have l0 := K.out.ltp 0 rfl) | ((with_reducible refine at_alloc ?_); refine st_allocf K.out (fun _ => rfl) ?_; intro g2 w1 K1; have K2 := Lib.hid K1; clear K1 K; (try clear a0); (try clear l0); (try clear a1); (try clear l1); (try clear a2); (try clear l2); have K := K2; clear K2; have a0 := K.out.rd 0 rfl; have l0 := K.out.ltp 0 rfl; have a1 := K.out.rd 1 rfl; have l1 := K.out.ltp 1 rfl) | (go_at_call 40; (with_reducible refine ((MK _).out).mono ?_); rintro e w1 ⟨rfl, hb⟩; have K1 := sat.grown (by repeat (with_reducible first | exact K.out | apply sat.alloc_any | apply sat.drew | apply sat.drewN)) hb; clear hb; have K2 := Lib.hid K1; clear K1 K; (try clear a0); (try clear l0); (try clear a1); (try clear l1); (try clear a2); (try clear l2); have K := K2; clear K2; have a0 := K.out.rd 0 rfl; have l0 := K.out.ltp 0 rfl; have a1 := K.out.rd 1 rfl; have l1 := K.out.ltp 1 rfl) | ((with_reducible refine at_store ?_); refine st_store 0 K.out rfl rfl rfl rfl ?_ ?_ ?_ ?_; (· kernel_rfl); (· simp); (· simp [Value.oneCell']); intro w1 K1; simp only [List.set, putL] at K1; have K2 := Lib.hid K1; clear K1 K; (try clear a0); (try clear l0); (try clear a1); (try clear l1); (try clear a2); (try clear l2); have K := K2; clear K2; have a0 := K.out.rd 0 rfl; have l0 := K.out.ltp 0 rfl; have a1 := K.out.rd 1 rfl; have l1 := K.out.ltp 1 rfl))
  exact bodyPost_ret (v := callV v.call) (by simp [results, Tryz.results20, go_sem, a0]; exact ⟨rfl, rfl, rfl, rfl⟩) rfl ⟨rfl, K.out.below⟩
theorem atM_bd {th : Int} (h : 1 ≤ th) (v : MoveM) : 0 ≤ v.at_ th ∧ v.at_ th < th := by
  unfold MoveM.at_
  exact ⟨Int.emod_nonneg _ (by omega), Int.emod_lt_of_pos _ (by omega)⟩
section
variable {E w : World} {L : List SA}
/-- A move, done to a yard. -/
theorem do_calls (b : Nat) (y : YardM) {n : Nat} (ho : y.okn n) (hn : n < 100000) (th : Int) (hth : y.conf.th = th) (v : MoveM) (h : sat E w (yardA b y :: L)) :
    Calls Tryz.prog 12 #[moveV v, .pointer (some ⟨b, 0, none⟩), .int .i64 th] w fun e w' => e = .returned (.tuple #[]) ∧ sat E w' (yardA b (v.run th y) :: L) := by
  have K := Lib.hid h
  clear h
  have hok := ho.ok (by omega)
  have h1 : 1 ≤ th := by rw [← hth]; exact ho.conf.th1
  have h2 : th ≤ 64 := by rw [← hth]; exact ho.conf.th2
  have e0 := and7 v.kind
  have e1 := and16 v.who
  have e2 := and16 v.time
  have e3 : Int.tmod (v.who % 65536) th = v.at_ th := by unfold MoveM.at_; rw [Int.tmod_eq_emod_of_nonneg (by omega)]
  have hat := atM_bd h1 v
  have e4 : IntKind.i64.wrap (v.at_ th) = v.at_ th := wi (by omega) (by omega)
  have z1 : (th == 0) = false := by simp; omega
  have z2 : ¬ th = 0 := by omega
  have MC := fun w => Lib.hid (mcall_calls v w)
  have CC := fun w' (M : List SA) (h : sat E w' (yardA b y :: M)) => Lib.hid (ycall_calls b y hok (v.at_ th) v.call (by have := ho.dl; omega) (by have := ho.m1; omega) h)
  have SW := fun w' (M : List SA) (h : sat E w' (yardA b y :: M)) => Lib.hid (ystep_calls b y hok v.who (by have := ho.m1; omega) (by have := ho.log; omega) h)
  have SA_ := fun w' (M : List SA) (h : sat E w' (yardA b y :: M)) => Lib.hid (ystep_calls b y hok (v.at_ th) (by have := ho.m1; omega) (by have := ho.log; omega) h)
  have PS := fun w' (M : List SA) (h : sat E w' (yardA b y :: M)) => Lib.hid (ypass_calls b y ho.n0 ho.n1 (v.time % 65536) h)
  have HR : ∀ y', v.run th y = y' → sat E w (yardA b y :: L) → True := fun _ _ _ => trivial
  clear HR
  unfold MoveM.run
  by_cases k0 : v.kind % 8 = 0
  · rw [if_pos k0]
    have c0 : (v.kind % 8 == 0) = true := by simpa using k0
    clear k0 ho
    generalize v.at_ th = at_ at *
    go_enter Tryz.func12, Tryz.ntmps12
    go_wp2_with (first | ((with_reducible refine at_box ?_); refine st_boxf K.out rfl rfl (fun _ => rfl) ?_; intro g1 w1 K1; have K2 := Lib.hid K1; clear K1 K; (try clear a0); (try clear l0); (try clear a1); (try clear l1); (try clear a2); (try clear l2); have K := K2; clear K2; have a0 := K.out.rd 0 rfl; have l0 := K.out.ltp 0 rfl) | (go_at_call 20; (with_reducible refine ((MC _).out).mono ?_); rintro e w1 ⟨rfl, hb⟩; have K1 := sat.grown (by repeat (with_reducible first | exact K.out | apply sat.alloc_any | apply sat.drew | apply sat.drewN)) hb; clear hb; have K2 := Lib.hid K1; clear K1 K; (try clear a0); (try clear l0); (try clear a1); (try clear l1); (try clear a2); (try clear l2); have K := K2; clear K2; have a0 := K.out.rd 0 rfl; have l0 := K.out.ltp 0 rfl) | (go_at_call 19; (with_reducible refine ((CC _ _ (show sat E _ _ from by iterate 6 (try (with_reducible first | exact K.out | apply sat.alloc_any | apply sat.drew | apply sat.drewN))).swap).out).mono ?_); rintro e w1 ⟨rfl, K1⟩; replace K1 := K1.swap; have K2 := Lib.hid K1; clear K1 K; (try clear a0); (try clear l0); (try clear a1); (try clear l1); (try clear a2); (try clear l2); have K := K2; clear K2; have a0 := K.out.rd 0 rfl; have l0 := K.out.ltp 0 rfl))
    (first | go_end0 | ((try simp only [Exit.inBlock, Exit.then]); refine bodyPost_ret (results_none rfl _ _ _) rfl ?_))
    exact ⟨rfl, K.out.drop⟩
  · have c0 : (v.kind % 8 == 0) = false := by simpa using k0
    rw [if_neg k0]
    by_cases k6 : v.kind % 8 = 6
    · rw [if_pos k6]
      have c6 : (v.kind % 8 == 6) = true := by simpa using k6
      clear k0 k6 ho
      generalize v.at_ th = at_ at *
      go_enter Tryz.func12, Tryz.ntmps12
      go_wp2_with (first | ((with_reducible refine at_box ?_); refine st_boxf K.out rfl rfl (fun _ => rfl) ?_; intro g1 w1 K1; have K2 := Lib.hid K1; clear K1 K; (try clear a0); (try clear l0); (try clear a1); (try clear l1); (try clear a2); (try clear l2); have K := K2; clear K2; have a0 := K.out.rd 0 rfl; have l0 := K.out.ltp 0 rfl) | (go_at_call 22; (with_reducible refine ((PS _ _ (show sat E _ _ from by iterate 6 (try (with_reducible first | exact K.out | apply sat.alloc_any | apply sat.drew | apply sat.drewN))).swap).out).mono ?_); rintro e w1 ⟨rfl, K1⟩; replace K1 := K1.swap; have K2 := Lib.hid K1; clear K1 K; (try clear a0); (try clear l0); (try clear a1); (try clear l1); (try clear a2); (try clear l2); have K := K2; clear K2; have a0 := K.out.rd 0 rfl; have l0 := K.out.ltp 0 rfl))
      (first | go_end0 | ((try simp only [Exit.inBlock, Exit.then]); refine bodyPost_ret (results_none rfl _ _ _) rfl ?_))
      exact ⟨rfl, K.out.drop⟩
    · have c6 : (v.kind % 8 == 6) = false := by simpa using k6
      rw [if_neg k6]
      by_cases k7 : v.kind % 8 = 7
      · rw [if_pos k7]
        have c7 : (v.kind % 8 == 7) = true := by simpa using k7
        clear k0 k6 k7 ho
        generalize v.at_ th = at_ at *
        go_enter Tryz.func12, Tryz.ntmps12
        go_wp2_with (first | ((with_reducible refine at_box ?_); refine st_boxf K.out rfl rfl (fun _ => rfl) ?_; intro g1 w1 K1; have K2 := Lib.hid K1; clear K1 K; (try clear a0); (try clear l0); (try clear a1); (try clear l1); (try clear a2); (try clear l2); have K := K2; clear K2; have a0 := K.out.rd 0 rfl; have l0 := K.out.ltp 0 rfl) | (go_at_call 23; (with_reducible refine ((SW _ _ (show sat E _ _ from by iterate 6 (try (with_reducible first | exact K.out | apply sat.alloc_any | apply sat.drew | apply sat.drewN))).swap).out).mono ?_); rintro e w1 ⟨rfl, K1⟩; replace K1 := K1.swap; have K2 := Lib.hid K1; clear K1 K; (try clear a0); (try clear l0); (try clear a1); (try clear l1); (try clear a2); (try clear l2); have K := K2; clear K2; have a0 := K.out.rd 0 rfl; have l0 := K.out.ltp 0 rfl))
        (first | go_end0 | ((try simp only [Exit.inBlock, Exit.then]); refine bodyPost_ret (results_none rfl _ _ _) rfl ?_))
        exact ⟨rfl, K.out.drop⟩
      · have c7 : (v.kind % 8 == 7) = false := by simpa using k7
        rw [if_neg k7]
        clear k0 k6 k7 ho
        generalize v.at_ th = at_ at *
        go_enter Tryz.func12, Tryz.ntmps12
        go_wp2_with (first | ((with_reducible refine at_box ?_); refine st_boxf K.out rfl rfl (fun _ => rfl) ?_; intro g1 w1 K1; have K2 := Lib.hid K1; clear K1 K; (try clear a0); (try clear l0); (try clear a1); (try clear l1); (try clear a2); (try clear l2); have K := K2; clear K2; have a0 := K.out.rd 0 rfl; have l0 := K.out.ltp 0 rfl) | (go_at_call 23; (with_reducible refine ((SA_ _ _ (show sat E _ _ from by iterate 6 (try (with_reducible first | exact K.out | apply sat.alloc_any | apply sat.drew | apply sat.drewN))).swap).out).mono ?_); rintro e w1 ⟨rfl, K1⟩; replace K1 := K1.swap; have K2 := Lib.hid K1; clear K1 K; (try clear a0); (try clear l0); (try clear a1); (try clear l1); (try clear a2); (try clear l2); have K := K2; clear K2; have a0 := K.out.rd 0 rfl; have l0 := K.out.ltp 0 rfl))
        (first | go_end0 | ((try simp only [Exit.inBlock, Exit.then]); refine bodyPost_ret (results_none rfl _ _ _) rfl ?_))
        exact ⟨rfl, K.out.drop⟩
end
/-- What a move keeps. -/
theorem MoveM.run_okn {n : Nat} {y : YardM} (h : y.okn n) (hn : n < 100000) (th : Int) {v : MoveM} (hv : v.wf) : (v.run th y).okn (n + 1) := by
  unfold MoveM.run
  split
  · exact YardM.call_okn h _ hv
  · split
    · exact (YardM.pass_okn h _).mono (by omega)
    · split
      · exact YardM.step_okn h hn _
      · exact YardM.step_okn h hn _
theorem MoveM.run_conf {y : YardM} (h : y.oinv) (hh : y.hinv) (th : Int) (v : MoveM) : (v.run th y).conf = y.conf := (MoveM.run_kept h hh th v).ext.conf
theorem runsM_okn (th : Int) : ∀ (l : List MoveM) {n : Nat} {y : YardM} (h : y.okn n), n + l.length ≤ 100000 → (∀ v ∈ l, v.wf) → (runsM th y l).okn (n + l.length)
  | [], n, y, h, _, _ => h
  | v :: l, n, y, h, hn, hv => by
    have a := MoveM.run_okn h (by simp at hn; omega) th (hv v (by simp))
    have b := runsM_okn th l a (by simp at hn; omega) (fun u hu => hv u (by simp [hu]))
    rw [show n + (v :: l).length = n + 1 + l.length by simp; omega]
    exact b
/-- The moves of an argument. -/
theorem oldM_of {W : World} {a : Option Addr} {len cap : Nat} {rows : List (List Value)} (h : RowsAt W [.int .i64, .int .i64, .bool, .bool, .int .u64, .int .i64, .int .i64] a len cap rows) : ∃ l : List MoveM, l.length = len ∧ (∀ e ∈ l, e.wf) ∧ OldS MoveM.v 7 W a l := by
  exact oldS_of MoveM.v MoveM.wf h (fun r hr => by
    obtain ⟨n0, v0, rfl, h0, k0⟩ := okAll_int hr
    obtain ⟨n1, v1, rfl, h1, k1⟩ := okAll_int k0
    obtain ⟨b2, v2, rfl, k2⟩ := okAll_bool k1
    obtain ⟨b3, v3, rfl, k3⟩ := okAll_bool k2
    obtain ⟨n4, v4, rfl, h4, k4⟩ := okAll_int k3
    obtain ⟨n5, v5, rfl, h5, k5⟩ := okAll_int k4
    obtain ⟨n6, v6, rfl, h6, k6⟩ := okAll_int k5
    obtain rfl := okAll_nil k6
    exact ⟨⟨n0, n1, b2, b3, n4, n5, n6⟩, rfl, lit_u64 h4⟩) (fun v => ⟨_, rfl⟩)
end Go.Proofs.YtegdhojhnmgjgaaGreat
/- A yard behind moves (run of the statements of hist). Conditions: at most 300 moves, which lie in memory as told. -/
namespace Go.Proofs.YtegdhojhnmgjgaaGreat
open Go.RowKit Go.SepYtegdhojhnmgjgaaGreat
set_option maxRecDepth 100000
set_option maxHeartbeats 4000000
abbrev confV (c : ConfM) : List Value := [.int .i64 c.th, .int .i64 c.sl, .int .i64 c.src, .int .i64 c.dl]
abbrev confP (g : Nat) (c : ConfM) : SA := pt g (.cells #[.int .i64 c.th, .int .i64 c.sl, .int .i64 c.src, .int .i64 c.dl] 26 (0, 0))
theorem runsM_take (th : Int) (y : YardM) (l : List MoveM) (n : Nat) (h : n < l.length) : runsM th y (l.take (n + 1)) = l[n].run th (runsM th y (l.take n)) := by
  rw [List.take_succ_eq_append_getElem h, runsM_snoc]
theorem run_okn {c : ConfM} (hc : c.ok) (l : List MoveM) (hwf : ∀ v ∈ l, v.wf) (n : Nat) (hn : n ≤ 1000) : (runsM c.th (YardM.new c) (l.take n)).okn n ∧ (runsM c.th (YardM.new c) (l.take n)).conf = c := by
  have h := runsM_okn c.th (l.take n) (YardM.new_okn hc) (by rw [List.length_take]; omega) (fun v hv => hwf v (List.mem_of_mem_take hv))
  have k := runsM_kept c.th (l.take n) (YardM.new_oinv hc) (YardM.new_hinv hc)
  exact ⟨h.mono (by rw [List.length_take]; omega), k.ext.conf⟩
section
variable {E w : World} {L : List SA}
end
end Go.Proofs.YtegdhojhnmgjgaaGreat
