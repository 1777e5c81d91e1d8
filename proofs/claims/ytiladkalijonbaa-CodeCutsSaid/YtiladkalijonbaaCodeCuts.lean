/- A script's bytes cut off within a move are none, from that move's beginning on (CodeCuts answers true at every input). No condition beyond the row's own. -/
import Derived.Test.YtiladkalijonbaaCodeOld
import Derived.Test.YtiladkalijonbaaCodeRight
import Derived.Test.YtiladkalijonbaaCodeCutM
namespace Go.Proofs.Ytiladkalijonbaa
open Go.RowKit Go.SepYtiladkalijonbaa Go.Proofs.YtiladkalijonbaaW.PrintWords Go.Proofs.YtiladkalijonbaaW.PrintLast Go.Proofs.YtiladkalijonbaaW.PrintMore
open Go.Proofs.Ytiladkalijonbaa.PCodeCuts (S38 S40 S33 k38 k40 k33)
set_option linter.unusedSimpArgs false
set_option linter.unusedVariables false
set_option maxRecDepth 100000
set_option maxHeartbeats 8000000
theorem intInfo : ∃ q z, Try.prog.info? 3 = some q ∧ q.zero = some z ∧ q.size = 1 ∧ q.bytes = 8 ∧ z.cells.size = 1 := ⟨_, _, rfl, rfl, rfl, rfl, rfl⟩
theorem and16 (n : Int) : bits .and .i64 n 65535 = n % 65536 := by
  have h : (BitVec.ofInt 64 65535).toNat = 2 ^ 16 - 1 := by decide
  have key : (BitVec.ofInt 64 n &&& BitVec.ofInt 64 65535).toNat = (n % ((2 ^ 64 : Nat) : Int)).toNat % 2 ^ 16 := by
    rw [BitVec.toNat_and, BitVec.toNat_ofInt, h, Nat.and_two_pow_sub_one_eq_mod]
  show IntKind.i64.wrap ((BitVec.ofInt 64 n &&& BitVec.ofInt 64 65535).toNat : Nat) = n % 65536
  rw [key, IntKind.wrap_i64]
  omega
theorem all_take (ms : List S40) (n : Nat) (h : n < ms.length) : allR (ms.take (n + 1)) = (allR (ms.take n) && rightM ms[n]) := by
  unfold allR
  rw [List.take_succ_eq_append_getElem h, List.all_append]
  simp
/-- The first n beginnings. -/
def startsC (ms : List S40) (n : Nat) : List Value := (List.range n).map (fun j => Value.int .i64 (startM ms j : Int))
theorem startsC_succ (ms : List S40) (n : Nat) : startsC ms (n + 1) = startsC ms n ++ [Value.int .i64 (startM ms n : Int)] := by
  unfold startsC
  rw [List.range_succ, List.map_append]
  rfl
theorem startsC_at (ms : List S40) (n j : Nat) (h : j < n) : (startsC ms n)[j]? = some (.int .i64 (startM ms j : Int)) := by
  unfold startsC
  rw [List.getElem?_map, List.getElem?_range h]
  rfl
theorem start_bd (ms : List S40) (n : Nat) : startM ms n ≤ 4 + 11 * n := by
  have h := movesB_len (ms.take n)
  have h2 : (ms.take n).length ≤ n := by rw [List.length_take]; omega
  unfold startM
  omega
def cutRel (w0 : World) (ms : List S40) (gs gc : Nat) (gk : Nat) (i starts size : Value) (w' : World) : Prop :=
  ∃ n : Nat, n + gk = ms.length ∧ i = .int .i64 n ∧ size = .int .i64 (startM ms n : Int) ∧ allR (ms.take n) = true ∧ ∃ p1 n1 k1 p2 n2 k2, starts = .slice p2 n2 k2 ∧
    sat w0 w' [pt gs (.cells [.int .i64 2, .int .i64 2, .int .i64 1, .int .i64 1, .slice p1 n1 k1].toArray 30 (0, 0)),
      rowA (.slice p1 n1 k1) 40 7 n ((ms.take n).flatMap moveC), rowA (.slice p2 n2 k2) 3 1 n (startsC ms n), pt gc (.cells [.int .i64 2, .int .i64 2, .int .i64 1, .int .i64 1].toArray 26 (0, 0))]
def wholeRel (w0 : World) (ms : List S40) (c : Int) (S : Nat) (L : List SA) (gk : Nat) (i wh fr : Value) (w' : World) : Prop :=
  ∃ n : Nat, n + gk = ms.length ∧ i = .int .i64 n ∧ wh = .bool (whole ms c S n) ∧ fr = .int .i64 (from' ms c n) ∧ sat w0 w' L
theorem dec_cut {E w' : World} {L : List SA} (g cap : Nat) (B : List Int) (n : Nat) (h : sat E w' (rowA (.slice (some ⟨g, 0, none⟩) B.length cap) 5 1 B.length (B.flatMap byteC) :: L)) (c0 c1 c2 c3 at' e' : Int) (ms : List S40) (h6 : B.length ≤ 1000) (hn : n ≤ B.length) (hd : PCodeCuts.code_Decode.f 400 (B.take n) = some (c0, c1, c2, c3, ms, at', e')) :
    Calls Try.prog 22 #[.slice (some ⟨g, 0, none⟩) n cap] w' fun e w'' => ∃ v4_ : Value, e = .returned (.tuple #[.agg #[.int .i64 c0, .int .i64 c1, .int .i64 c2, .int .i64 c3, v4_], .int .i64 at', .int .i64 e']) ∧ Kd.R k40 40 w'' w'.heap.size (fun _ => True) v4_ ms ∧ Below w'.heap.size w' w'' := by
  have htl : (B.take n).length = n := by rw [List.length_take]; omega
  have hcap := (row_cap h).1
  have hr : Kd.C (Kd.int .u8) w' (some ⟨g, 0, none⟩) (B.take n).length (B.take n) := by
    refine ⟨rfl, by omega, fun h0 => ⟨_, rfl, fun j x hj => ⟨[.int .u8 x], rfl, rfl, fun i u hi => ?_⟩⟩⟩
    obtain ⟨hj', rfl⟩ := List.getElem?_eq_some_iff.1 hj
    have hi0 : i = 0 := by have := (List.getElem?_eq_some_iff.1 hi).1; simpa using this
    subst hi0
    obtain rfl : Value.int .u8 (B.take n)[j] = u := by simpa using hi
    rw [Addr.add_lit]
    show w'.cell? ⟨g, 0 + (j * 1 + 0), none⟩ = _
    rw [Nat.zero_add, Nat.mul_one, Nat.add_zero]
    refine h.row_rd 0 rfl j _ ?_
    rw [fb, List.getElem?_map, List.getElem?_eq_getElem (by omega)]
    simp
  have h2 := PCodeCuts.code_Decode.calls 400 (some ⟨g, 0, none⟩) cap (B.take n) c0 c1 c2 c3 ms at' e' w' hr (by omega) hd
  rw [htl] at h2
  exact h2
theorem cuts_calls (W : World) (p : Option Addr) (l : List S33) (cap : Nat) (at' : Int) (h : OldV W p l) (hv : ∀ v ∈ l, 0 ≤ v.f6 ∧ v.f6 < 18446744073709551616) (n60 : l.length ≤ 60) :
    Tells 8 #[.slice p l.length cap, .int .i64 at'] W (.bool true) := by
  have HD : ∀ w, Tells 10 #[] w (.bool true) := fun w => PCodeCuts.stackyardlaw18_head.calls 40 true w (by kernel_rfl)
  have CF : ∀ w, Tells 11 #[.int .i64 1, .int .i64 1, .int .i64 1, .int .i64 1] w (.agg #[.int .i64 2, .int .i64 2, .int .i64 1, .int .i64 1]) := fun w => PCodeCuts.stackyardlaw04_Conf.calls 1 1 1 1 2 2 1 1 w (by kernel_rfl)
  have T1 := fun w => Lib.hid (HD w)
  have T2 := fun w => Lib.hid (CF w)
  have K := Lib.hid (sat.start W)
  have t1 : decide ((l.length : Int) > 60) = false := by simp; omega
  have H1 := Lib.hid h
  have HV := Lib.hid hv
  clear HD CF h hv
  go_enter Try.func8, Try.ntmps8
  go_wp2_with (first | (go_at_call 10; (with_reducible refine ((T1 _).out).mono ?_); rintro e w1 ⟨rfl, hb⟩; have K1 := sat.grown (by repeat (first | exact K.out | apply sat.alloc_any | apply sat.drew | apply sat.drewN)) hb; clear hb; have K2 := Lib.hid K1; clear K1 K; (try clear a0); (try clear l0); (try clear a1); (try clear l1); (try clear a2); (try clear l2); have K := K2; clear K2) | (go_at_call 11; (with_reducible refine ((T2 _).out).mono ?_); rintro e w1 ⟨rfl, hb⟩; have K1 := sat.grown (by repeat (first | exact K.out | apply sat.alloc_any | apply sat.drew | apply sat.drewN)) hb; clear hb; have K2 := Lib.hid K1; clear K1 K; (try clear a0); (try clear l0); (try clear a1); (try clear l1); (try clear a2); (try clear l2); have K := K2; clear K2) | (have _hp := gc; ((with_reducible refine at_alloc ?_); refine st_alloc K.out (fun _ => rfl) ?_; intro gs w1 K1; simp only [List.cons_append, List.nil_append] at K1; have K2 := Lib.hid K1; clear K1 K; (try clear a0); (try clear l0); (try clear a1); (try clear l1); (try clear a2); (try clear l2); have K := K2; clear K2; have a0 := K.out.rd 0 rfl; have l0 := K.out.ltp 0 rfl; have a1 := K.out.rd 1 rfl; have l1 := K.out.ltp 1 rfl)) | ((with_reducible refine at_alloc ?_); refine st_alloc K.out (fun _ => rfl) ?_; intro gc w1 K1; simp only [List.cons_append, List.nil_append] at K1; have K2 := Lib.hid K1; clear K1 K; (try clear a0); (try clear l0); (try clear a1); (try clear l1); (try clear a2); (try clear l2); have K := K2; clear K2; have a0 := K.out.rd 0 rfl; have l0 := K.out.ltp 0 rfl) | ((with_reducible refine at_store ?_); refine st_store 0 K.out rfl rfl rfl rfl ?_ ?_ ?_ ?_; (· kernel_rfl); (· simp); (· simp [Value.oneCell']); intro w1 K1; simp only [List.set, putL] at K1; have K2 := Lib.hid K1; clear K1 K; (try clear a0); (try clear l0); (try clear a1); (try clear l1); (try clear a2); (try clear l2); have K := K2; clear K2; have a0 := K.out.rd 0 rfl; have l0 := K.out.ltp 0 rfl) | ((with_reducible refine at_store ?_); refine st_store 1 K.out rfl rfl rfl rfl ?_ ?_ ?_ ?_; (· kernel_rfl); (· simp); (· simp [Value.oneCell']); intro w1 K1; simp only [List.set, putL] at K1; have K2 := Lib.hid K1; clear K1 K; (try clear a0); (try clear l0); (try clear a1); (try clear l1); (try clear a2); (try clear l2); have K := K2; clear K2; have a0 := K.out.rd 0 rfl; have l0 := K.out.ltp 0 rfl; have a1 := K.out.rd 1 rfl; have l1 := K.out.ltp 1 rfl))
  have K1 := (((sat.row_empty (e := 3) (size := 1) K.out).row_nil 40 7).pick 3 rfl)
  clear K a0 l0 a1 l1
  have K := Lib.hid K1
  clear K1
  go_loopg [33, 7, 8] l.length (fun gk i starts size w' => cutRel W (l.map makeM) gs gc gk i starts size w')
  case atStart => exact ⟨0, by simp, rfl, by simp [startM, movesB], by simp [allR], _, _, _, _, _, _, rfl, K.out⟩
  case round =>
    obtain ⟨n, hn, rfl, rfl, hall, p1, n1, k1, p2, n2, k2, rfl, hs⟩ := hrel
    clear K
    have K := Lib.hid hs
    clear hs
    rw [List.length_map] at hn
    have a0 := K.out.rd 0 rfl
    have l0 := K.out.ltp 0 rfl
    by_cases hlt : n < l.length
    · have d0 : decide (n < l.length) = true := by simpa using hlt
      obtain ⟨bw, off, rfl, hb, hx0⟩ := H1.out n hlt
      have hx : ∀ i u, (s33C l[n])[i]? = some u → wr.cell? ⟨bw, off + n * 8 + i, none⟩ = some u := fun i u hi => (K.out.below.cell (p := ⟨bw, off + n * 8 + i, none⟩) hb).trans (hx0 i u hi)
      have y0 : wr.cell? ⟨bw, off + n * 8, none⟩ = _ := hx 0 _ rfl
      have y1 := hx 1 _ rfl
      have y2 := hx 2 _ rfl
      have y3 := hx 3 _ rfl
      have y4 := hx 4 _ rfl
      have y5 := hx 5 _ rfl
      have y6 := hx 6 _ rfl
      have y7 := hx 7 _ rfl
      have M := fun w => Lib.hid (make_calls l[n] w)
      have E1 := Lib.hid (take_flat (l.map makeM) n (by simpa using hlt))
      have E2 := Lib.hid (startM_succ (l.map makeM) n (by simpa using hlt))
      have E3 := Lib.hid (all_take (l.map makeM) n (by simpa using hlt))
      have E4 := Lib.hid (startsC_succ (l.map makeM) n)
      have B0 := start_bd (l.map makeM) n
      have B1 := start_bd (l.map makeM) (n + 1)
      rw [List.getElem_map] at E1 E2 E3
      have hok := make_value l[n] (HV.out _ (List.getElem_mem hlt))
      have RL := fun w => Lib.hid (lright_calls (makeM l[n]) w)
      have LB := fun w => Lib.hid (PCodeCuts.stackyardlaw18_bytes.calls 20 _ _ _ _ _ _ _ _ w (lbytes_f (makeM l[n]) (Nat.le_refl 20)))
      have hbl := lbytesM_len (makeM l[n])
      have HN := Lib.hid hn
      clear hx hx0 hn
      obtain ⟨gk', rfl⟩ : ∃ g', gk = g' + 1 := ⟨gk - 1, by have := HN.out; omega⟩
      cases hrm : rightM (makeM l[n]) with
      | false =>
        rw [hrm] at RL
        clear E1 E2 E3 E4 LB hbl hok hrm
        generalize l[n] = v at *
        generalize makeM v = mv at *
        obtain ⟨v0, v1, v2, v3, v4, v5, v6, v7⟩ := v
        obtain ⟨m0, m1, ⟨m2, m3, m4, m5⟩, m6⟩ := mv
        unfold moveC at M RL
        dsimp only at M RL y0 y1 y2 y3 y4 y5 y6 y7
        go_wp2_with (first | (have _hp := gv; ((with_reducible refine at_alloc ?_); refine st_alloc K.out (fun _ => rfl) ?_; intro gm w1 K1; simp only [List.cons_append, List.nil_append] at K1; have K2 := Lib.hid K1; clear K1 K; (try clear a0); (try clear l0); (try clear a1); (try clear l1); (try clear a2); (try clear l2); have K := K2; clear K2; have a0 := K.out.rd 0 rfl; have l0 := K.out.ltp 0 rfl; have a4 := K.out.rd 4 rfl; have l4 := K.out.ltp 4 rfl)) | ((with_reducible refine at_alloc ?_); refine st_alloc K.out (fun _ => rfl) ?_; intro gv w1 K1; simp only [List.cons_append, List.nil_append] at K1; have K2 := Lib.hid K1; clear K1 K; (try clear a0); (try clear l0); (try clear a1); (try clear l1); (try clear a2); (try clear l2); have K := K2; clear K2; have a0 := K.out.rd 0 rfl; have l0 := K.out.ltp 0 rfl) | ((with_reducible refine at_store ?_); refine st_store 4 K.out rfl rfl rfl rfl ?_ ?_ ?_ ?_; (· kernel_rfl); (· simp); (· simp [Value.oneCell']); intro w1 K1; simp only [List.set, putL] at K1; have K2 := Lib.hid K1; clear K1 K; (try clear a0); (try clear l0); (try clear a1); (try clear l1); (try clear a2); (try clear l2); have K := K2; clear K2; have a0 := K.out.rd 0 rfl; have l0 := K.out.ltp 0 rfl; have a4 := K.out.rd 4 rfl; have l4 := K.out.ltp 4 rfl) | (((with_reducible refine at_store ?_); refine st_store 5 K.out rfl rfl rfl rfl ?_ ?_ ?_ ?_; (· kernel_rfl); (· simp); (· simp [Value.oneCell']); intro w1 K1; simp only [List.set, putL] at K1; have K2 := Lib.hid K1; clear K1 K; (try clear a0); (try clear l0); (try clear a1); (try clear l1); (try clear a2); (try clear l2); have K := K2; clear K2; have a0 := K.out.rd 0 rfl; have l0 := K.out.ltp 0 rfl; have a4 := K.out.rd 4 rfl; have l4 := K.out.ltp 4 rfl; have a5 := K.out.rd 5 rfl; have l5 := K.out.ltp 5 rfl)) | (go_at_call 12; (with_reducible refine ((M _).out).mono ?_); rintro e w1 ⟨rfl, hb⟩; have K1 := sat.grown (by repeat (first | exact K.out | apply sat.alloc_any | apply sat.drew | apply sat.drewN)) hb; clear hb; have K2 := Lib.hid K1; clear K1 K; (try clear a0); (try clear l0); (try clear a1); (try clear l1); (try clear a2); (try clear l2); have K := K2; clear K2; have a0 := K.out.rd 0 rfl; have l0 := K.out.ltp 0 rfl; have a4 := K.out.rd 4 rfl; have l4 := K.out.ltp 4 rfl) | (go_at_call 20; (with_reducible refine ((RL _).out).mono ?_); rintro e w1 ⟨rfl, hb⟩; have K1 := sat.grown (by repeat (first | exact K.out | apply sat.alloc_any | apply sat.drew | apply sat.drewN)) hb; clear hb; have K2 := Lib.hid K1; clear K1 K; (try clear a0); (try clear l0); (try clear a1); (try clear l1); (try clear a2); (try clear l2); have K := K2; clear K2; have a5 := K.out.rd 5 rfl; have l5 := K.out.ltp 5 rfl))
        go_ret
        exact ⟨rfl, K.out.below⟩
      | true =>
        rw [lbytes_eq _ hrm hok] at LB hbl
        rw [hrm] at RL E3
        clear hok hrm
        generalize l[n] = v at *
        generalize bytesM (makeM v) = bm at *
        generalize makeM v = mv at *
        obtain ⟨v0, v1, v2, v3, v4, v5, v6, v7⟩ := v
        obtain ⟨m0, m1, ⟨m2, m3, m4, m5⟩, m6⟩ := mv
        unfold moveC at M RL
        dsimp only at M RL LB y0 y1 y2 y3 y4 y5 y6 y7
        have E5 : wrap64 ((startM (l.map makeM) n : Int) + (bm.length : Int)) = ((startM (l.map makeM) (n + 1) : Nat) : Int) := by rw [E2.out, w64e (by omega) (by omega)]; simp
        have HA := Lib.hid hall
        clear hall
        generalize hs0 : startM (l.map makeM) n = s0 at *
        generalize hs1 : startM (l.map makeM) (n + 1) = s1 at *
        have HS := Lib.hid (And.intro hs0 hs1)
        clear hs0 hs1
        go_wp2_with (first | (have _hp := gv; ((with_reducible refine at_alloc ?_); refine st_alloc K.out (fun _ => rfl) ?_; intro gm w1 K1; simp only [List.cons_append, List.nil_append] at K1; have K2 := Lib.hid K1; clear K1 K; (try clear a0); (try clear l0); (try clear a1); (try clear l1); (try clear a2); (try clear l2); have K := K2; clear K2; have a0 := K.out.rd 0 rfl; have l0 := K.out.ltp 0 rfl; have a4 := K.out.rd 4 rfl; have l4 := K.out.ltp 4 rfl)) | ((with_reducible refine at_alloc ?_); refine st_alloc K.out (fun _ => rfl) ?_; intro gv w1 K1; simp only [List.cons_append, List.nil_append] at K1; have K2 := Lib.hid K1; clear K1 K; (try clear a0); (try clear l0); (try clear a1); (try clear l1); (try clear a2); (try clear l2); have K := K2; clear K2; have a0 := K.out.rd 0 rfl; have l0 := K.out.ltp 0 rfl) | ((with_reducible refine at_store ?_); refine st_store 4 K.out rfl rfl rfl rfl ?_ ?_ ?_ ?_; (· kernel_rfl); (· simp); (· simp [Value.oneCell']); intro w1 K1; simp only [List.set, putL] at K1; have K2 := Lib.hid K1; clear K1 K; (try clear a0); (try clear l0); (try clear a1); (try clear l1); (try clear a2); (try clear l2); have K := K2; clear K2; have a0 := K.out.rd 0 rfl; have l0 := K.out.ltp 0 rfl; have a4 := K.out.rd 4 rfl; have l4 := K.out.ltp 4 rfl) | (((with_reducible refine at_store ?_); refine st_store 5 K.out rfl rfl rfl rfl ?_ ?_ ?_ ?_; (· kernel_rfl); (· simp); (· simp [Value.oneCell']); intro w1 K1; simp only [List.set, putL] at K1; have K2 := Lib.hid K1; clear K1 K; (try clear a0); (try clear l0); (try clear a1); (try clear l1); (try clear a2); (try clear l2); have K := K2; clear K2; have a0 := K.out.rd 0 rfl; have l0 := K.out.ltp 0 rfl; have a4 := K.out.rd 4 rfl; have l4 := K.out.ltp 4 rfl; have a5 := K.out.rd 5 rfl; have l5 := K.out.ltp 5 rfl)) | (go_at_call 12; (with_reducible refine ((M _).out).mono ?_); rintro e w1 ⟨rfl, hb⟩; have K1 := sat.grown (by repeat (first | exact K.out | apply sat.alloc_any | apply sat.drew | apply sat.drewN)) hb; clear hb; have K2 := Lib.hid K1; clear K1 K; (try clear a0); (try clear l0); (try clear a1); (try clear l1); (try clear a2); (try clear l2); have K := K2; clear K2; have a0 := K.out.rd 0 rfl; have l0 := K.out.ltp 0 rfl; have a4 := K.out.rd 4 rfl; have l4 := K.out.ltp 4 rfl) | (go_at_call 20; (with_reducible refine ((RL _).out).mono ?_); rintro e w1 ⟨rfl, hb⟩; have K1 := sat.grown (by repeat (first | exact K.out | apply sat.alloc_any | apply sat.drew | apply sat.drewN)) hb; clear hb; have K2 := Lib.hid K1; clear K1 K; (try clear a0); (try clear l0); (try clear a1); (try clear l1); (try clear a2); (try clear l2); have K := K2; clear K2; have a0 := K.out.rd 0 rfl; have l0 := K.out.ltp 0 rfl; have a5 := K.out.rd 5 rfl; have l5 := K.out.ltp 5 rfl) | ((with_reducible refine at_append ?_); refine st_append_new 1 40 7 56 Try.underlying28 moveInfo K.out rfl rfl rfl rfl ?_ Nat.one_pos ?_ ?_ ?_; (· simp [Value.oneCell']); (· simp only [maxLen]; omega); (· omega); intro p3 n3 k3 w1 K1; simp only [List.set] at K1; have K2 := Lib.hid K1; clear K1 K; (try clear a0 l0); (try clear a4 l4); (try clear a5 l5); have K := K2; clear K2; have a0 := K.out.rd 0 rfl; have l0 := K.out.ltp 0 rfl; have a5 := K.out.rd 5 rfl; have l5 := K.out.ltp 5 rfl) | ((with_reducible refine at_store ?_); refine st_store 0 K.out rfl rfl rfl rfl ?_ ?_ ?_ ?_; (· kernel_rfl); (· simp); (· simp [Value.oneCell']); intro w1 K1; simp only [List.set, putL] at K1; have K2 := Lib.hid K1; clear K1 K; (try clear a0); (try clear l0); (try clear a1); (try clear l1); (try clear a2); (try clear l2); have K := K2; clear K2; have a0 := K.out.rd 0 rfl; have l0 := K.out.ltp 0 rfl; have a5 := K.out.rd 5 rfl; have l5 := K.out.ltp 5 rfl) | ((with_reducible refine at_append ?_); refine st_append_new 2 3 1 8 Try.underlying58 intInfo K.out rfl rfl rfl rfl ?_ Nat.one_pos ?_ ?_ ?_; (· simp [Value.oneCell']); (· simp only [maxLen]; omega); (· omega); intro p5 n5 k5 w1 K1; simp only [List.set] at K1; have K2 := Lib.hid K1; clear K1 K; (try clear a0 l0); (try clear a4 l4); (try clear a5 l5); have K := K2; clear K2; have a5 := K.out.rd 5 rfl; have l5 := K.out.ltp 5 rfl) | (go_at_call 21; (with_reducible refine (LB _).out.mono ?_); rintro e w1 ⟨v0, rfl, hr, hbb⟩; have K1 := take_bytes K.out hbb hr; clear hr hbb; obtain ⟨p4, k4, rfl⟩ := row_any K1; have K2 := Lib.hid K1.drop; clear K1 K; (try clear a0 l0); (try clear a5 l5); have K := K2; clear K2))
        go_roundg gk'
        case measure => omega
        case rel =>
          have K1 := (((K.out.pick 5 rfl).drop).pick 4 rfl).drop
          refine ⟨n + 1, by rw [List.length_map]; have := HN.out; omega, by simp, by rw [HS.out.2, E2.out]; simp, by rw [E3.out, HA.out]; rfl, p3, n3, k3, p5, n5, k5, rfl, ?_⟩
          rw [E4.out, E1.out]
          exact K1
    · have hnl : n = l.length := by omega
      subst hnl
      have d0 : decide (l.length < l.length) = false := by simp
      clear hlt hn H1
      have K1 := K.out
      rw [List.take_of_length_le (by simp)] at K1
      rw [List.take_of_length_le (by simp)] at hall
      have hok : ∀ m ∈ l.map makeM, okV m := fun m hm => by
        obtain ⟨v, hv, rfl⟩ := List.mem_map.1 hm
        exact make_value v (HV.out v hv)
      have hlen : l.length = (l.map makeM).length := by simp
      rw [hlen] at K1 n60 ⊢
      clear K a0 l0 HV
      generalize l.map makeM = ms at *
      have K := Lib.hid K1
      clear K1
      have a0 := K.out.rd 0 rfl
      have l0 := K.out.ltp 0 rfl
      obtain ⟨rfl, hp1⟩ := row_len (K.out.pick 1 rfl)
      obtain ⟨rfl, hp2⟩ := row_len (K.out.pick 2 rfl)
      have hboth : ∀ m ∈ ms, rightM m = true ∧ okV m := fun m hm => ⟨allR_mem hall m hm, hok m hm⟩
      have hcf : confR 2 2 1 1 = true := by decide
      have he : PCodeCuts.code_Encode.f 400 2 2 1 1 ms = some ([2, 2, 1, 1] ++ movesB ms, 0) := by
        rw [enc_f _ _ _ _ ms (by omega) (by omega)]
        have h6 : ¬ ms.length > 65536 := by omega
        unfold encM
        rw [if_pos hcf, if_neg h6, if_pos hall]
        rfl
      have EN := fun w' (A : Option Addr) (cc : Nat) hr hc => Lib.hid (PCodeCuts.code_Encode.calls 400 2 2 1 1 A cc ms ([2, 2, 1, 1] ++ movesB ms) 0 w' hr hc he)
      have hS : ([2, 2, 1, 1] ++ movesB ms).length = startM ms ms.length := by rw [startM_all]; simp; omega
      have hS4 : 4 ≤ startM ms ms.length := by unfold startM; omega
      have hSb := start_bd ms ms.length
      have x0 := and16 at'
      obtain ⟨cn, hcn, cn4, cnS⟩ : ∃ cn : Nat, wrap64 (4 + Int.tmod (bits .and .i64 at' 65535) ((startM ms ms.length : Int) - 3)) = (cn : Int) ∧ 4 ≤ cn ∧ cn ≤ startM ms ms.length := by
        have y0 : 0 ≤ bits .and .i64 at' 65535 := by omega
        rw [Int.tmod_eq_emod_of_nonneg y0]
        have z0 := Int.emod_nonneg (bits .and .i64 at' 65535) (b := (startM ms ms.length : Int) - 3) (by omega)
        have z1 := Int.emod_lt_of_pos (bits .and .i64 at' 65535) (b := (startM ms ms.length : Int) - 3) (by omega)
        rw [w64e (by omega) (by omega)]
        exact ⟨(4 + bits .and .i64 at' 65535 % ((startM ms ms.length : Int) - 3)).toNat, by omega, by omega, by omega⟩
      have CD := cut_dec 2 2 1 1 (by omega) (by omega) (by omega) (by omega) hcf ms hboth (by omega) cn cn4 cnS
      generalize [2, 2, 1, 1] ++ movesB ms = B at *
      clear x0 he hcf hall hok hboth d0
      have CDH := Lib.hid CD
      clear CD
      generalize hSS : startM ms ms.length = S at *
      have HSS := Lib.hid hSS
      clear hSS
      subst hS
      have q0 : ((B.length : Int) != (B.length : Int)) = false := by simp
      have q1 : (wrap64 ((B.length : Int) - 3) == 0) = false := by rw [w64e (by omega) (by omega)]; simp; omega
      go_wp2_with (first | (go_at_call 13; (with_reducible refine (EN _ _ _ (moves_reads (sat.pick 1 K.out rfl) (by omega)).2.2 (moves_reads (sat.pick 1 K.out rfl) (by omega)).2.1).out.mono ?_); rintro e w1 ⟨v1, rfl, hr, hbb⟩; have K1 := take_bytes K.out hbb hr; clear hr hbb; obtain ⟨g5, k5, rfl⟩ := row_pos K1 (by omega); have K2 := Lib.hid K1; clear K1 K a0 l0; have K := K2; clear K2))
      rw [hcn]
      clear hcn q0 q1 EN
      obtain ⟨L, hL⟩ : ∃ L, L = [rowA (.slice (some ⟨g5, 0, none⟩) B.length k5) 5 1 B.length (B.flatMap byteC), pt gs (.cells [.int .i64 2, .int .i64 2, .int .i64 1, .int .i64 1, .slice p1 ms.length k1].toArray 30 (0, 0)), rowA (.slice p1 ms.length k1) 40 7 ms.length (ms.flatMap moveC), rowA (.slice p2 ms.length k2) 3 1 ms.length (startsC ms ms.length), pt gc (.cells [.int .i64 2, .int .i64 2, .int .i64 1, .int .i64 1].toArray 26 (0, 0))] := ⟨_, rfl⟩
      have HL := Lib.hid hL
      clear hL
      go_loopg [82, 15, 16] ms.length (fun gk i wh fr w' => wholeRel W ms cn B.length L gk i wh fr w')
      case atStart => exact ⟨0, by simp, rfl, by first | rfl | simp [whole], rfl, by rw [HL.out]; exact K.out⟩
      case round =>
        obtain ⟨n, hn, rfl, rfl, rfl, hs⟩ := hrel
        clear K
        have K := Lib.hid hs
        clear hs
        by_cases hlt : n < ms.length
        · have d0 : decide (n < ms.length) = true := by simpa using hlt
          have K1 := K.out
          rw [HL.out] at K1
          obtain ⟨g2, rfl, _⟩ := row_some (K1.pick 3 rfl) (by omega)
          have y0 : wr.cell? ⟨g2, n, none⟩ = some (.int .i64 (startM ms n : Int)) := K1.row_rd 3 rfl n _ (startsC_at ms ms.length n hlt)
          clear K1
          obtain ⟨gk', rfl⟩ : ∃ g', gk = g' + 1 := ⟨gk - 1, by omega⟩
          have EW : whole ms cn B.length (n + 1) = (whole ms cn B.length n || ((startM ms n : Int) == (cn : Int))) := rfl
          have EF : from' ms cn (n + 1) = if (startM ms n : Int) < (cn : Int) then (startM ms n : Int) else from' ms cn n := rfl
          have EW := Lib.hid EW
          have EF := Lib.hid EF
          generalize whole ms cn B.length n = wn at *
          generalize from' ms cn n = fn at *
          generalize startM ms n = sn at *
          by_cases hlc : sn < cn
          · have d1 : decide (sn < cn) = true := by simpa using hlc
            have EF' := EF.out
            rw [if_pos (by omega)] at EF'
            clear EF
            cases wn
            all_goals
              go_wp2
              go_roundg gk'
              case measure => omega
              case rel => exact ⟨n + 1, by omega, by simp, by rw [EW.out]; simp, by rw [EF'], K.out⟩
          · have d1 : decide (sn < cn) = false := by simpa using hlc
            have EF' := EF.out
            rw [if_neg (by omega)] at EF'
            clear EF
            cases wn
            all_goals
              go_wp2
              go_roundg gk'
              case measure => omega
              case rel => exact ⟨n + 1, by omega, by simp, by rw [EW.out]; simp, by rw [EF'], K.out⟩
        · have hnl : n = ms.length := by omega
          subst hnl
          have d0 : decide (ms.length < ms.length) = false := by simp
          have K1 := K.out
          rw [HL.out] at K1
          clear K hlt hn
          have K := Lib.hid K1
          clear K1 HL
          have hq1 : cn ≤ k5 := by have := (row_cap K.out).1; omega
          have hq2 : (cn : Int) ≤ (k5 : Int) := by omega
          have hq3 : (0 : Int) ≤ (cn : Int) := by omega
          rcases CDH.out with ⟨hw, ms', hd⟩ | ⟨hw, hd⟩
          · have DC := fun w' (LL : List SA) h => Lib.hid (dec_cut (E := W) (w' := w') (L := LL) g5 k5 B cn h 2 2 1 1 cn 0 ms' (by omega) (by omega) hd)
            rw [hw]
            have q2 : ((cn : Int) == (cn : Int)) = true := by simp
            go_wp2_with (first | (go_at_call 22; (with_reducible refine (DC _ _ K.out).out.mono ?_); rintro e w1 ⟨v1, rfl, hr, hbb⟩; have K1 := take_moves K.out hbb hr; clear hr hbb; obtain ⟨p6, k6, rfl⟩ := row_any K1; have K2 := Lib.hid K1; clear K1 K; have K := K2; clear K2) | ((with_reducible refine at_alloc ?_); refine st_alloc K.out (fun _ => rfl) ?_; intro gt w1 K1; simp only [List.cons_append, List.nil_append] at K1; have K2 := Lib.hid K1; clear K1 K; (try clear a0); (try clear l0); (try clear a1); (try clear l1); (try clear a2); (try clear l2); have K := K2; clear K2) | ((with_reducible refine at_store ?_); refine st_store 6 K.out rfl rfl rfl rfl ?_ ?_ ?_ ?_; (· kernel_rfl); (· simp); (· simp [Value.oneCell']); intro w1 K1; simp only [List.set, putL] at K1; have K2 := Lib.hid K1; clear K1 K; (try clear a0); (try clear l0); (try clear a1); (try clear l1); (try clear a2); (try clear l2); have K := K2; clear K2; have a6 := K.out.rd 6 rfl; have l6 := K.out.ltp 6 rfl))
            go_ret
            exact ⟨rfl, K.out.below⟩
          · generalize from' ms cn ms.length = fr at *
            have DC := fun w' (LL : List SA) h => Lib.hid (dec_cut (E := W) (w' := w') (L := LL) g5 k5 B cn h 0 0 0 0 fr 3 [] (by omega) (by omega) hd)
            rw [hw]
            have q2 : (fr == fr) = true := by simp
            go_wp2_with (first | (go_at_call 22; (with_reducible refine (DC _ _ K.out).out.mono ?_); rintro e w1 ⟨v1, rfl, hr, hbb⟩; have K1 := take_moves K.out hbb hr; clear hr hbb; obtain ⟨p6, k6, rfl⟩ := row_any K1; have K2 := Lib.hid K1; clear K1 K; have K := K2; clear K2) | ((with_reducible refine at_alloc ?_); refine st_alloc K.out (fun _ => rfl) ?_; intro gt w1 K1; simp only [List.cons_append, List.nil_append] at K1; have K2 := Lib.hid K1; clear K1 K; (try clear a0); (try clear l0); (try clear a1); (try clear l1); (try clear a2); (try clear l2); have K := K2; clear K2) | ((with_reducible refine at_store ?_); refine st_store 6 K.out rfl rfl rfl rfl ?_ ?_ ?_ ?_; (· kernel_rfl); (· simp); (· simp [Value.oneCell']); intro w1 K1; simp only [List.set, putL] at K1; have K2 := Lib.hid K1; clear K1 K; (try clear a0); (try clear l0); (try clear a1); (try clear l1); (try clear a2); (try clear l2); have K := K2; clear K2; have a6 := K.out.rd 6 rfl; have l6 := K.out.ltp 6 rfl))
            go_ret
            exact ⟨rfl, K.out.below⟩
theorem codeCuts_calls (W : World) (a : Option Addr) (len cap : Nat) (rows : List (List Value)) (h : RowsAt W [.int .i64, .int .i64, .int .i64, .int .i64, .bool, .bool, .int .u64, .int .i64] a len cap rows) (at' : Int) (_hat : (Lit.int .i64 at').wf = true) :
    Calls Try.prog 8 #[.slice a len cap, .int .i64 at'] W fun e W' => e = .returned (.bool true) ∧ Below W.heap.size W W' := by
  obtain ⟨l, rfl, hv, hc⟩ := oldV_of h
  by_cases n1 : l.length ≤ 60
  · exact cuts_calls W a l cap at' hc hv n1
  · have HD : ∀ w, Tells 10 #[] w (.bool true) := fun w => PCodeCuts.stackyardlaw18_head.calls 40 true w (by kernel_rfl)
    have T1 := fun w => Lib.hid (HD w)
    have K := Lib.hid (sat.start W)
    have t1 : decide ((l.length : Int) > 60) = true := by simp; omega
    clear HD hc h
    go_enter Try.func8, Try.ntmps8
    go_wp2_with (first | (go_at_call 10; (with_reducible refine ((T1 _).out).mono ?_); rintro e w1 ⟨rfl, hb⟩; have K1 := sat.grown (by repeat (first | exact K.out | apply sat.alloc_any | apply sat.drew | apply sat.drewN)) hb; clear hb; have K2 := Lib.hid K1; clear K1 K; (try clear a0); (try clear l0); (try clear a1); (try clear l1); (try clear a2); (try clear l2); have K := K2; clear K2))
    go_ret
    exact ⟨rfl, K.out.below⟩
end Go.Proofs.Ytiladkalijonbaa
