/- Any script as bytes, and back; what can't be written is told (CodeScripts answers true at every input). No condition beyond the row's own. -/
import Derived.Test.YtiladkalijonbaaCodeOld
import Derived.Test.YtiladkalijonbaaCodeRight
import Derived.Test.YtiladkalijonbaaCodeLD
namespace Go.Proofs.Ytiladkalijonbaa
open Go.RowKit Go.SepYtiladkalijonbaa Go.Proofs.YtiladkalijonbaaW.PrintWords Go.Proofs.YtiladkalijonbaaW.PrintLast Go.Proofs.YtiladkalijonbaaW.PrintMore
open Go.Proofs.Ytiladkalijonbaa.PCodeCuts (S38 S40 S33 k38 k40 k33)
set_option linter.unusedSimpArgs false
set_option linter.unusedVariables false
set_option maxRecDepth 100000
set_option maxHeartbeats 8000000
def wantB (c0 c1 c2 c3 : Int) (ms : List S40) : List Int := [c0 % 256, c1 % 256, c2 % 256, c3 % 256] ++ ms.flatMap lbytesM
theorem want_len (c0 c1 c2 c3 : Int) : ∀ ms : List S40, (wantB c0 c1 c2 c3 ms).length ≤ 4 + 11 * ms.length
  | [] => by simp [wantB]
  | m :: ms => by
    have h := want_len c0 c1 c2 c3 ms
    have g := lbytesM_len m
    simp only [wantB, List.flatMap_cons, List.length_append, List.length_cons, List.length_nil] at *
    omega
theorem want_take (c0 c1 c2 c3 : Int) (ms : List S40) (n : Nat) (h : n < ms.length) : wantB c0 c1 c2 c3 (ms.take (n + 1)) = wantB c0 c1 c2 c3 (ms.take n) ++ lbytesM ms[n] := by
  unfold wantB
  rw [List.take_succ_eq_append_getElem h, List.flatMap_append]
  simp
theorem all_take (ms : List S40) (n : Nat) (h : n < ms.length) : allR (ms.take (n + 1)) = (allR (ms.take n) && rightM ms[n]) := by
  unfold allR
  rw [List.take_succ_eq_append_getElem h, List.all_append]
  simp
/-- Four bytes, just made. -/
theorem row_four {E w : World} {L : List SA} (h : sat E w L) (x0 x1 x2 x3 : Int) : sat E (w.alloc (.cells #[.int .u8 x0, .int .u8 x1, .int .u8 x2, .int .u8 x3] 5)) (rowA (.slice (some ⟨w.heap.size, 0, none⟩) 4 4) 5 1 [x0, x1, x2, x3].length ([x0, x1, x2, x3].flatMap byteC) :: L) :=
  sat.row_shut (by simp [byteC]) (Nat.le_refl _) (by simp [maxLen]) (by simp) (by simp [byteC]) (h.alloc _)
def scRel (w0 : World) (c0 c1 c2 c3 : Int) (ms : List S40) (gs gc : Nat) (gk : Nat) (i want good : Value) (w' : World) : Prop :=
  ∃ n : Nat, n + gk = ms.length ∧ i = .int .i64 n ∧ good = .bool (confR c0 c1 c2 c3 && allR (ms.take n)) ∧ ∃ p1 n1 k1 p2 n2 k2, want = .slice p2 n2 k2 ∧
    sat w0 w' [pt gs (.cells [.int .i64 c0, .int .i64 c1, .int .i64 c2, .int .i64 c3, .slice p1 n1 k1].toArray 30 (0, 0)),
      rowA (.slice p1 n1 k1) 40 7 n ((ms.take n).flatMap moveC), rowA (.slice p2 n2 k2) 5 1 (wantB c0 c1 c2 c3 (ms.take n)).length ((wantB c0 c1 c2 c3 (ms.take n)).flatMap byteC), pt gc (.cells [.int .i64 c0, .int .i64 c1, .int .i64 c2, .int .i64 c3].toArray 26 (0, 0))]
def cmpRel (w0 : World) (c0 c1 c2 c3 : Int) (ms : List S40) (B : List Int) (gs gc gt : Nat) (p1 : Option Addr) (k1 : Nat) (p2 : Option Addr) (k2 : Nat) (p5 : Option Addr) (k5 : Nat) (p6 : Option Addr) (k6 : Nat) (gk : Nat) (i : Value) (w' : World) : Prop :=
  ∃ n : Nat, n + gk = ms.length ∧ i = .int .i64 n ∧
    sat w0 w' [rowA (.slice p6 ms.length k6) 40 7 ms.length (ms.flatMap moveC), rowA (.slice p5 B.length k5) 5 1 B.length (B.flatMap byteC), pt gs (.cells [.int .i64 c0, .int .i64 c1, .int .i64 c2, .int .i64 c3, .slice p1 ms.length k1].toArray 30 (0, 0)),
      rowA (.slice p1 ms.length k1) 40 7 ms.length (ms.flatMap moveC), rowA (.slice p2 B.length k2) 5 1 B.length (B.flatMap byteC), pt gc (.cells [.int .i64 c0, .int .i64 c1, .int .i64 c2, .int .i64 c3].toArray 26 (0, 0)), pt gt (.cells [.int .i64 c0, .int .i64 c1, .int .i64 c2, .int .i64 c3, .slice p6 ms.length k6].toArray 30 (0, 0))]
theorem scripts_calls (W : World) (c0 c1 c2 c3 : Int) (p : Option Addr) (l : List S33) (cap : Nat) (h : OldV W p l) (hv : ∀ v ∈ l, 0 ≤ v.f6 ∧ v.f6 < 18446744073709551616) (n60 : l.length ≤ 60) :
    Tells 6 #[.agg #[.int .i64 c0, .int .i64 c1, .int .i64 c2, .int .i64 c3], .slice p l.length cap] W (.bool true) := by
  have HD : ∀ w, Tells 10 #[] w (.bool true) := fun w => PCodeCuts.stackyardlaw18_head.calls 40 true w (by kernel_rfl)
  have T1 := fun w => Lib.hid (HD w)
  have CR := fun w' => Lib.hid (PCodeCuts.lay_Conf_Right.calls c0 c1 c2 c3 (confR c0 c1 c2 c3) w' (conf_f _ _ _ _))
  have K := Lib.hid (sat.start W)
  have t1 : decide ((l.length : Int) > 60) = false := by simp; omega
  have H1 := Lib.hid h
  have HV := Lib.hid hv
  clear HD h hv
  go_enter Try.func6, Try.ntmps6
  go_wp2_with (first | (go_at_call 10; (with_reducible refine ((T1 _).out).mono ?_); rintro e w1 ⟨rfl, hb⟩; have K1 := sat.grown (by repeat (first | exact K.out | apply sat.alloc_any | apply sat.drew | apply sat.drewN)) hb; clear hb; have K2 := Lib.hid K1; clear K1 K; (try clear a0); (try clear l0); (try clear a1); (try clear l1); (try clear a2); (try clear l2); have K := K2; clear K2; have a0 := K.out.rd 0 rfl; have l0 := K.out.ltp 0 rfl) | ((with_reducible refine at_box ?_); refine st_boxf K.out rfl rfl (fun _ => rfl) ?_; intro gc w1 K1; have K2 := Lib.hid K1; clear K1 K; (try clear a0); (try clear l0); (try clear a1); (try clear l1); (try clear a2); (try clear l2); have K := K2; clear K2; have a0 := K.out.rd 0 rfl; have l0 := K.out.ltp 0 rfl) | ((with_reducible refine at_alloc ?_); refine st_alloc K.out (fun _ => rfl) ?_; intro gs w1 K1; simp only [List.cons_append, List.nil_append] at K1; have K2 := Lib.hid K1; clear K1 K; (try clear a0); (try clear l0); (try clear a1); (try clear l1); (try clear a2); (try clear l2); have K := K2; clear K2; have a0 := K.out.rd 0 rfl; have l0 := K.out.ltp 0 rfl; have a1 := K.out.rd 1 rfl; have l1 := K.out.ltp 1 rfl) | ((with_reducible refine at_store ?_); refine st_store 1 K.out rfl rfl rfl rfl ?_ ?_ ?_ ?_; (· kernel_rfl); (· simp); (· simp [Value.oneCell']); intro w1 K1; simp only [List.set, putL] at K1; have K2 := Lib.hid K1; clear K1 K; (try clear a0); (try clear l0); (try clear a1); (try clear l1); (try clear a2); (try clear l2); have K := K2; clear K2; have a0 := K.out.rd 0 rfl; have l0 := K.out.ltp 0 rfl; have a1 := K.out.rd 1 rfl; have l1 := K.out.ltp 1 rfl) | (go_at_call 18; have KA := row_four K.out (c0 % 256) (c1 % 256) (c2 % 256) (c3 % 256); (with_reducible refine (CR _).out.mono ?_); rintro e w1 ⟨rfl, hb⟩; have K1 := sat.grown KA hb; clear KA hb; have K2 := Lib.hid K1; clear K1 K a0 l0 a1 l1; have K := K2; clear K2))
  have K1 := (K.out.row_nil 40 7).pick 3 rfl
  clear K
  have K := Lib.hid K1
  clear K1
  go_loopg [41, 6, 7] l.length (fun gk i want good w' => scRel W c0 c1 c2 c3 (l.map makeM) gs gc gk i want good w')
  case atStart => exact ⟨0, by simp, rfl, by simp [allR], _, _, _, _, _, _, rfl, K.out⟩
  case round =>
    obtain ⟨n, hn, rfl, rfl, p1, n1, k1, p2, n2, k2, rfl, hs⟩ := hrel
    clear K
    have K := Lib.hid hs
    clear hs
    rw [List.length_map] at hn
    have a0 := K.out.rd 0 rfl
    have l0 := K.out.ltp 0 rfl
    by_cases hlt : n < l.length
    · have d0 : decide (n < l.length) = true := by simpa using hlt
      obtain ⟨bw, off, rfl, hb, hx0⟩ := H1.out n hlt
      have hx : ∀ i u, (s33C l[n])[i]? = some u → wr.cell? ⟨bw, off + n * 8 + i, none⟩ = some u := fun i u hi => (K.out.below.cell (p := ⟨bw, off + n * 8 + i, none⟩) hb).trans (hx0 i u hi)
      have y0 : wr.cell? ⟨bw, off + n * 8, none⟩ = _ := hx 0 _ rfl
      have y1 := hx 1 _ rfl
      have y2 := hx 2 _ rfl
      have y3 := hx 3 _ rfl
      have y4 := hx 4 _ rfl
      have y5 := hx 5 _ rfl
      have y6 := hx 6 _ rfl
      have y7 := hx 7 _ rfl
      have M := fun w => Lib.hid (make_calls l[n] w)
      have E1 := Lib.hid (take_flat (l.map makeM) n (by simpa using hlt))
      have E2 := Lib.hid (want_take c0 c1 c2 c3 (l.map makeM) n (by simpa using hlt))
      have E3 := Lib.hid (all_take (l.map makeM) n (by simpa using hlt))
      have E4 := Lib.hid (want_len c0 c1 c2 c3 ((l.map makeM).take n))
      rw [List.getElem_map] at E1 E2 E3
      have RM := fun w => Lib.hid (PCodeCuts.code_Move_Right.calls 5 _ _ _ _ _ _ _ _ w (right_f (makeM l[n]) (Nat.le_refl 5)))
      have RL := fun w => Lib.hid (lright_calls (makeM l[n]) w)
      have LB := fun w => Lib.hid (PCodeCuts.stackyardlaw18_bytes.calls 20 _ _ _ _ _ _ _ _ w (lbytes_f (makeM l[n]) (Nat.le_refl 20)))
      clear hx hx0
      generalize l[n] = v at *
      generalize rightM (makeM v) = rm at *
      have EL := Lib.hid (lbytesM_len (makeM v))
      generalize lbytesM (makeM v) = bm at *
      generalize makeM v = mv at *
      obtain ⟨v0, v1, v2, v3, v4, v5, v6, v7⟩ := v
      obtain ⟨m0, m1, ⟨m2, m3, m4, m5⟩, m6⟩ := mv
      unfold moveC at M RL
      dsimp only at M RL RM LB y0 y1 y2 y3 y4 y5 y6 y7
      have HN := Lib.hid hn
      clear hn
      have qn : (rm != rm) = false := bne_self_eq_false _
      generalize hgd : (confR c0 c1 c2 c3 && allR (List.take n (List.map makeM l))) = gd at *
      have HG := Lib.hid hgd
      clear hgd
      obtain ⟨gk', rfl⟩ : ∃ g', gk = g' + 1 := ⟨gk - 1, by have := HN.out; omega⟩
      go_wp2_with (first | (have _hp := gv; ((with_reducible refine at_alloc ?_); refine st_alloc K.out (fun _ => rfl) ?_; intro gm w1 K1; simp only [List.cons_append, List.nil_append] at K1; have K2 := Lib.hid K1; clear K1 K; (try clear a0); (try clear l0); (try clear a1); (try clear l1); (try clear a2); (try clear l2); have K := K2; clear K2; have a0 := K.out.rd 0 rfl; have l0 := K.out.ltp 0 rfl; have a4 := K.out.rd 4 rfl; have l4 := K.out.ltp 4 rfl)) | ((with_reducible refine at_alloc ?_); refine st_alloc K.out (fun _ => rfl) ?_; intro gv w1 K1; simp only [List.cons_append, List.nil_append] at K1; have K2 := Lib.hid K1; clear K1 K; (try clear a0); (try clear l0); (try clear a1); (try clear l1); (try clear a2); (try clear l2); have K := K2; clear K2; have a0 := K.out.rd 0 rfl; have l0 := K.out.ltp 0 rfl) | ((with_reducible refine at_store ?_); refine st_store 4 K.out rfl rfl rfl rfl ?_ ?_ ?_ ?_; (· kernel_rfl); (· simp); (· simp [Value.oneCell']); intro w1 K1; simp only [List.set, putL] at K1; have K2 := Lib.hid K1; clear K1 K; (try clear a0); (try clear l0); (try clear a1); (try clear l1); (try clear a2); (try clear l2); have K := K2; clear K2; have a0 := K.out.rd 0 rfl; have l0 := K.out.ltp 0 rfl; have a4 := K.out.rd 4 rfl; have l4 := K.out.ltp 4 rfl) | (((with_reducible refine at_store ?_); refine st_store 5 K.out rfl rfl rfl rfl ?_ ?_ ?_ ?_; (· kernel_rfl); (· simp); (· simp [Value.oneCell']); intro w1 K1; simp only [List.set, putL] at K1; have K2 := Lib.hid K1; clear K1 K; (try clear a0); (try clear l0); (try clear a1); (try clear l1); (try clear a2); (try clear l2); have K := K2; clear K2; have a0 := K.out.rd 0 rfl; have l0 := K.out.ltp 0 rfl; have a4 := K.out.rd 4 rfl; have l4 := K.out.ltp 4 rfl; have a5 := K.out.rd 5 rfl; have l5 := K.out.ltp 5 rfl)) | (go_at_call 12; (with_reducible refine ((M _).out).mono ?_); rintro e w1 ⟨rfl, hb⟩; have K1 := sat.grown (by repeat (first | exact K.out | apply sat.alloc_any | apply sat.drew | apply sat.drewN)) hb; clear hb; have K2 := Lib.hid K1; clear K1 K; (try clear a0); (try clear l0); (try clear a1); (try clear l1); (try clear a2); (try clear l2); have K := K2; clear K2; have a0 := K.out.rd 0 rfl; have l0 := K.out.ltp 0 rfl; have a4 := K.out.rd 4 rfl; have l4 := K.out.ltp 4 rfl) | ((with_reducible refine at_append ?_); refine st_append_new 1 40 7 56 Try.underlying28 moveInfo K.out rfl rfl rfl rfl ?_ Nat.one_pos ?_ ?_ ?_; (· simp [Value.oneCell']); (· simp only [maxLen]; omega); (· omega); intro p3 n3 k3 w1 K1; simp only [List.set] at K1; have K2 := Lib.hid K1; clear K1 K a0 l0 a4 l4 a5 l5; have K := K2; clear K2; have a0 := K.out.rd 0 rfl; have l0 := K.out.ltp 0 rfl; have a4 := K.out.rd 4 rfl; have l4 := K.out.ltp 4 rfl; have a5 := K.out.rd 5 rfl; have l5 := K.out.ltp 5 rfl) | ((with_reducible refine at_store ?_); refine st_store 0 K.out rfl rfl rfl rfl ?_ ?_ ?_ ?_; (· kernel_rfl); (· simp); (· simp [Value.oneCell']); intro w1 K1; simp only [List.set, putL] at K1; have K2 := Lib.hid K1; clear K1 K; (try clear a0); (try clear l0); (try clear a1); (try clear l1); (try clear a2); (try clear l2); have K := K2; clear K2; have a0 := K.out.rd 0 rfl; have l0 := K.out.ltp 0 rfl; have a4 := K.out.rd 4 rfl; have l4 := K.out.ltp 4 rfl; have a5 := K.out.rd 5 rfl; have l5 := K.out.ltp 5 rfl))
      go_region_held3 (fun w' => ∀ j, w'.cell? ⟨gm, j, none⟩ = [Value.int .i64 m0, Value.int .i64 m1, Value.int .i64 m2, Value.int .i64 m3, Value.int .u64 m4, Value.int .i64 m5, Value.int .i64 m6][j]?) (first | exact (show sat W _ _ from (by repeat (first | exact K.out | apply sat.alloc_any | apply sat.drew | apply sat.drewN))).rd 5 rfl | go_keep) (first | (go_at_call 19; (with_reducible refine ((RM _).out).mono ?_); rintro e w1 ⟨rfl, hb⟩; have K1 := sat.grown (by repeat (first | exact K.out | apply sat.alloc_any | apply sat.drew | apply sat.drewN)) hb; clear hb; have K2 := Lib.hid K1; clear K1 K; (try clear a0); (try clear l0); (try clear a1); (try clear l1); (try clear a2); (try clear l2); have K := K2; clear K2; have a5 := K.out.rd 5 rfl; have l5 := K.out.ltp 5 rfl) | (go_at_call 20; (with_reducible refine ((RL _).out).mono ?_); rintro e w1 ⟨rfl, hb⟩; have K1 := sat.grown (by repeat (first | exact K.out | apply sat.alloc_any | apply sat.drew | apply sat.drewN)) hb; clear hb; have K2 := Lib.hid K1; clear K1 K; (try clear a0); (try clear l0); (try clear a1); (try clear l1); (try clear a2); (try clear l2); have K := K2; clear K2; have a5 := K.out.rd 5 rfl; have l5 := K.out.ltp 5 rfl))
      have hwl : (wantB c0 c1 c2 c3 (List.take n (List.map makeM l))).length ≤ 700 := by have := E4.out; rw [List.length_take] at this; omega
      have hbl := EL.out
      cases gd
      all_goals
        go_wp2_with (first | (go_at_call 20; (with_reducible refine ((RL _).out).mono ?_); rintro e w1 ⟨rfl, hb⟩; have K1 := sat.grown (by repeat (first | exact K.out | apply sat.alloc_any | apply sat.drew | apply sat.drewN)) hb; clear hb; have K2 := Lib.hid K1; clear K1 K; (try clear a0); (try clear l0); (try clear a1); (try clear l1); (try clear a2); (try clear l2); have K := K2; clear K2; have a5 := K.out.rd 5 rfl; have l5 := K.out.ltp 5 rfl) | (go_at_call 21; (with_reducible refine (LB _).out.mono ?_); rintro e w1 ⟨v0, rfl, hr, hbb⟩; have K1 := take_bytes K.out hbb hr; clear hr hbb; obtain ⟨p4, k4, rfl⟩ := row_any K1; have K2 := Lib.hid K1; clear K1 K; (try clear a0 l0); (try clear a4 l4); (try clear a5 l5); have K := K2; clear K2) | ((with_reducible refine at_append ?_); refine st_append_part 3 5 1 1 Try.underlying42 byteInfo K.out rfl rfl (news := bm.flatMap byteC) rfl ?_ ?_ ?_ ?_ ?_ ?_; (· rw [fb]; simp); (· intro h0; obtain ⟨g, rfl, _⟩ := row_some K.out h0; refine ⟨g, 0, rfl, fun j u hj => ?_⟩; rw [Nat.zero_add]; exact K.out.row_rd 0 rfl j u hj); (· exact byte_one _); (· simp only [maxLen]; omega); (· omega); intro p5 n5 k5 w1 K1; simp only [List.set] at K1; have K2 := Lib.hid K1.drop; clear K1 K; have K := K2; clear K2))
        go_roundg gk'
        case measure => omega
        case rel =>
          have K1 := (((K.out.pick 5 rfl).drop).pick 4 rfl).drop
          refine ⟨n + 1, by rw [List.length_map]; have := HN.out; omega, by simp, by rw [E3.out, ← Bool.and_assoc, HG.out]; simp, p3, n3, k3, p5, n5, k5, rfl, ?_⟩
          rw [← List.flatMap_append, ← List.length_append, ← E2.out] at K1
          rw [E1.out]
          exact K1
    · have hnl : n = l.length := by omega
      subst hnl
      have d0 : decide (l.length < l.length) = false := by simp
      clear hlt hn H1
      have K1 := K.out
      rw [List.take_of_length_le (by simp)] at K1
      have hall : ∀ m ∈ l.map makeM, okV m := fun m hm => by
        obtain ⟨v, hv, rfl⟩ := List.mem_map.1 hm
        exact make_value v (HV.out v hv)
      have hlen : l.length = (l.map makeM).length := by simp
      rw [hlen] at K1 n60 ⊢
      rw [List.take_of_length_le (by simp)]
      clear K a0 l0 HV
      generalize l.map makeM = ms at *
      have K := Lib.hid K1
      clear K1
      have a0 := K.out.rd 0 rfl
      have l0 := K.out.ltp 0 rfl
      obtain ⟨rfl, hp1⟩ := row_len (K.out.pick 1 rfl)
      by_cases hg : (confR c0 c1 c2 c3 && allR ms) = true
      · obtain ⟨hcf, har⟩ := Bool.and_eq_true_iff.1 hg
        obtain ⟨b0, b1, b2, b3⟩ := conf_bd _ _ _ _ hcf
        have hboth : ∀ m ∈ ms, rightM m = true ∧ okV m := fun m hm => ⟨allR_mem har m hm, hall m hm⟩
        have hB : wantB c0 c1 c2 c3 ms = [c0, c1, c2, c3] ++ movesB ms := by
          unfold wantB
          rw [page_eq ms hboth, Int.emod_eq_of_lt b0.1 b0.2, Int.emod_eq_of_lt b1.1 b1.2, Int.emod_eq_of_lt b2.1 b2.2, Int.emod_eq_of_lt b3.1 b3.2]
        have hwl := want_len c0 c1 c2 c3 ms
        have he : PCodeCuts.code_Encode.f 400 c0 c1 c2 c3 ms = some (wantB c0 c1 c2 c3 ms, 0) := by
          rw [enc_f _ _ _ _ ms (by omega) (by omega)]
          have h6 : ¬ ms.length > 65536 := by omega
          unfold encM
          rw [hB, if_pos hcf, if_neg h6, if_pos har, Int.emod_eq_of_lt b0.1 b0.2, Int.emod_eq_of_lt b1.1 b1.2, Int.emod_eq_of_lt b2.1 b2.2, Int.emod_eq_of_lt b3.1 b3.2]
        have hd : PCodeCuts.code_Decode.f 400 (wantB c0 c1 c2 c3 ms) = some (c0, c1, c2, c3, ms, ((wantB c0 c1 c2 c3 ms).length : Int), 0) := by
          rw [hB]
          exact dec_complete_f c0 c1 c2 c3 b0 b1 b2 b3 hcf ms hboth (movesB_isB ms (fun m hm => (hboth m hm).1)) (by omega) (by omega)
        have EN := fun w' (A : Option Addr) (cc : Nat) hr hc => Lib.hid (PCodeCuts.code_Encode.calls 400 c0 c1 c2 c3 A cc ms (wantB c0 c1 c2 c3 ms) 0 w' hr hc he)
        have DC := fun w' (A : Option Addr) (cc : Nat) hr hc => Lib.hid (PCodeCuts.code_Decode.calls 400 A cc (wantB c0 c1 c2 c3 ms) c0 c1 c2 c3 ms ((wantB c0 c1 c2 c3 ms).length : Int) 0 w' hr hc hd)
        rw [hg]
        clear he hg hall d0 hd hB hboth b0 b1 b2 b3 hcf har
        generalize wantB c0 c1 c2 c3 ms = B at *
        obtain ⟨rfl, hp2⟩ := row_len (K.out.pick 2 rfl)
        have SM := fun w' (A A' : Option Addr) (cc cc' : Nat) hr hcc hr' hcc' => Lib.hid (PCodeCuts.stackyardlaw18_same.calls A cc B A' cc' B true w' hr hcc hr' hcc' (by unfold PCodeCuts.stackyardlaw18_same.f; simp))
        have q1 : ((B.length : Int) == (B.length : Int)) = true := by simp
        have q2 : ((B.length : Int) != (B.length : Int)) = false := by simp
        have q3 : ((ms.length : Int) != (ms.length : Int)) = false := by simp
        go_wp2_with (first | (go_at_call 13; (with_reducible refine (EN _ _ _ (moves_reads (sat.pick 1 K.out rfl) (by omega)).2.2 (moves_reads (sat.pick 1 K.out rfl) (by omega)).2.1).out.mono ?_); rintro e w1 ⟨v1, rfl, hr, hbb⟩; have K1 := take_bytes K.out hbb hr; clear hr hbb; obtain ⟨p5, k5, rfl⟩ := row_any K1; have K2 := Lib.hid K1; clear K1 K a0 l0; have K := K2; clear K2; have a1 := K.out.rd 1 rfl; have l1 := K.out.ltp 1 rfl; have a4 := K.out.rd 4 rfl; have l4 := K.out.ltp 4 rfl) | (go_at_call 22; (with_reducible refine (DC _ _ _ (bytes_reads K.out (by omega)).2.2 (bytes_reads K.out (by omega)).2.1).out.mono ?_); rintro e w1 ⟨v1, rfl, hr, hbb⟩; have K1 := take_moves K.out hbb hr; clear hr hbb; obtain ⟨p6, k6, rfl⟩ := row_any K1; have K2 := Lib.hid K1; clear K1 K a1 l1 a4 l4; have K := K2; clear K2; have a2 := K.out.rd 2 rfl; have l2 := K.out.ltp 2 rfl; have a5 := K.out.rd 5 rfl; have l5 := K.out.ltp 5 rfl) | ((with_reducible refine at_alloc ?_); refine st_alloc K.out (fun _ => rfl) ?_; intro gt w1 K1; simp only [List.cons_append, List.nil_append] at K1; have K2 := Lib.hid K1; clear K1 K; (try clear a0); (try clear l0); (try clear a1); (try clear l1); (try clear a2); (try clear l2); have K := K2; clear K2; have a2 := K.out.rd 2 rfl; have l2 := K.out.ltp 2 rfl; have a5 := K.out.rd 5 rfl; have l5 := K.out.ltp 5 rfl) | ((with_reducible refine at_store ?_); refine st_store 6 K.out rfl rfl rfl rfl ?_ ?_ ?_ ?_; (· kernel_rfl); (· simp); (· simp [Value.oneCell']); intro w1 K1; simp only [List.set, putL] at K1; have K2 := Lib.hid K1; clear K1 K; (try clear a0); (try clear l0); (try clear a1); (try clear l1); (try clear a2); (try clear l2); have K := K2; clear K2; have a2 := K.out.rd 2 rfl; have l2 := K.out.ltp 2 rfl; have a5 := K.out.rd 5 rfl; have l5 := K.out.ltp 5 rfl; have a6 := K.out.rd 6 rfl; have l6 := K.out.ltp 6 rfl) | (go_at_call 14; (with_reducible refine (SM _ _ _ _ _ (bytes_reads (sat.pick 1 K.out rfl) (by omega)).2.2 (bytes_reads (sat.pick 1 K.out rfl) (by omega)).2.1 (bytes_reads (sat.pick 4 K.out rfl) (by omega)).2.2 (bytes_reads (sat.pick 4 K.out rfl) (by omega)).2.1).out.mono ?_); rintro e w1 ⟨rfl, hdr⟩; have K1 := sat.grown K.out hdr.below; clear hdr; have K2 := Lib.hid K1; clear K1 K a2 l2 a5 l5; (try clear a6 l6); have K := K2; clear K2; have a2 := K.out.rd 2 rfl; have l2 := K.out.ltp 2 rfl; have a5 := K.out.rd 5 rfl; have l5 := K.out.ltp 5 rfl; have a6 := K.out.rd 6 rfl; have l6 := K.out.ltp 6 rfl))
        go_loopg [124] ms.length (fun gk i w' => cmpRel W c0 c1 c2 c3 ms B gs gc gt p1 k1 p2 k2 p5 k5 p6 k6 gk i w')
        case atStart => exact ⟨0, by simp, rfl, K.out⟩
        case round =>
          obtain ⟨n, hn, rfl, hs⟩ := hrel
          clear K a2 l2 a5 l5 a6 l6
          have K := Lib.hid hs
          clear hs
          have a2 := K.out.rd 2 rfl
          have l2 := K.out.ltp 2 rfl
          have a6 := K.out.rd 6 rfl
          have l6 := K.out.ltp 6 rfl
          by_cases hlt : n < ms.length
          · have d0 : decide (n < ms.length) = true := by simpa using hlt
            obtain ⟨g6, rfl, _⟩ := row_some K.out (by omega)
            obtain ⟨g1, rfl, _⟩ := row_some (K.out.pick 3 rfl) (by omega)
            have hx : ∀ j u, j < 7 → (moveC ms[n])[j]? = some u → wr.cell? ⟨g6, n * 7 + j, none⟩ = some u := fun j u h7 hu => K.out.row_rd 0 rfl _ _ (by rw [flat_at (enc := moveC) (size := 7) (fun _ => rfl) ms n hlt j h7]; exact hu)
            have hy : ∀ j u, j < 7 → (moveC ms[n])[j]? = some u → wr.cell? ⟨g1, n * 7 + j, none⟩ = some u := fun j u h7 hu => K.out.row_rd 3 rfl _ _ (by rw [flat_at (enc := moveC) (size := 7) (fun _ => rfl) ms n hlt j h7]; exact hu)
            have y0 : wr.cell? ⟨g6, n * 7, none⟩ = _ := hx 0 _ (by omega) rfl
            have y1 := hx 1 _ (by omega) rfl
            have y2 := hx 2 _ (by omega) rfl
            have y3 := hx 3 _ (by omega) rfl
            have y4 := hx 4 _ (by omega) rfl
            have y5 := hx 5 _ (by omega) rfl
            have y6 := hx 6 _ (by omega) rfl
            have z0 : wr.cell? ⟨g1, n * 7, none⟩ = _ := hy 0 _ (by omega) rfl
            have z1 := hy 1 _ (by omega) rfl
            have z2 := hy 2 _ (by omega) rfl
            have z3 := hy 3 _ (by omega) rfl
            have z4 := hy 4 _ (by omega) rfl
            have z5 := hy 5 _ (by omega) rfl
            have z6 := hy 6 _ (by omega) rfl
            clear hx hy
            have hI0 : (0 : Int) ≤ (n : Int) := by omega
            have hI1 : (n : Int) < (ms.length : Int) := by omega
            obtain ⟨gk', rfl⟩ : ∃ g', gk = g' + 1 := ⟨gk - 1, by omega⟩
            generalize ms[n] = mv at *
            obtain ⟨m0, m1, ⟨m2, m3, m4, m5⟩, m6⟩ := mv
            dsimp only at y0 y1 y2 y3 y4 y5 y6 z0 z1 z2 z3 z4 z5 z6
            go_wp2
            go_region_held3 (fun w' => (∀ j, w'.cell? ⟨gs, j, none⟩ = [Value.int .i64 c0, Value.int .i64 c1, Value.int .i64 c2, Value.int .i64 c3, Value.slice (some ⟨g1, 0, none⟩) ms.length k1][j]?) ∧ (∀ j, w'.cell? ⟨gt, j, none⟩ = [Value.int .i64 c0, Value.int .i64 c1, Value.int .i64 c2, Value.int .i64 c3, Value.slice (some ⟨g6, 0, none⟩) ms.length k6][j]?) ∧ w'.cell? ⟨g6, n * 7, none⟩ = some (.int .i64 m0) ∧ w'.cell? ⟨g6, n * 7 + 1, none⟩ = some (.int .i64 m1) ∧ w'.cell? ⟨g6, n * 7 + 2, none⟩ = some (.int .i64 m2) ∧ w'.cell? ⟨g6, n * 7 + 3, none⟩ = some (.int .i64 m3) ∧ w'.cell? ⟨g6, n * 7 + 4, none⟩ = some (.int .u64 m4) ∧ w'.cell? ⟨g6, n * 7 + 5, none⟩ = some (.int .i64 m5) ∧ w'.cell? ⟨g6, n * 7 + 6, none⟩ = some (.int .i64 m6) ∧ w'.cell? ⟨g1, n * 7, none⟩ = some (.int .i64 m0) ∧ w'.cell? ⟨g1, n * 7 + 1, none⟩ = some (.int .i64 m1) ∧ w'.cell? ⟨g1, n * 7 + 2, none⟩ = some (.int .i64 m2) ∧ w'.cell? ⟨g1, n * 7 + 3, none⟩ = some (.int .i64 m3) ∧ w'.cell? ⟨g1, n * 7 + 4, none⟩ = some (.int .u64 m4) ∧ w'.cell? ⟨g1, n * 7 + 5, none⟩ = some (.int .i64 m5) ∧ w'.cell? ⟨g1, n * 7 + 6, none⟩ = some (.int .i64 m6)) (first | exact ⟨(show sat W _ _ from (by repeat (first | exact K.out | apply sat.alloc_any | apply sat.drew | apply sat.drewN))).rd 2 rfl, (show sat W _ _ from (by repeat (first | exact K.out | apply sat.alloc_any | apply sat.drew | apply sat.drewN))).rd 6 rfl, y0, y1, y2, y3, y4, y5, y6, z0, z1, z2, z3, z4, z5, z6⟩ | go_keep) (fail)
            have K1 := Lib.hid (show sat W _ _ from (by repeat (first | exact K.out | apply sat.alloc_any | apply sat.drew | apply sat.drewN)))
            go_wp2
            go_roundg gk'
            case measure => omega
            case rel => exact ⟨n + 1, by omega, by simp, (by repeat (first | exact K.out | apply sat.alloc_any | apply sat.drew | apply sat.drewN))⟩
          · have hnl : n = ms.length := by omega
            subst hnl
            have d0 : decide (ms.length < ms.length) = false := by simp
            go_wp2
            go_ret
            exact ⟨rfl, K.out.below⟩
      · have hg' : (confR c0 c1 c2 c3 && allR ms) = false := by simpa using hg
        have he : PCodeCuts.code_Encode.f 400 c0 c1 c2 c3 ms = some ([], 1) := by
          rw [enc_f _ _ _ _ ms (by omega) (by omega)]
          unfold encM
          rw [Bool.and_eq_false_iff] at hg'
          have h6 : ¬ ms.length > 65536 := by omega
          rcases hg' with h | h
          · simp [h]
          · simp [h, h6]
        have EN := fun w' (A : Option Addr) (cc : Nat) hr hc => Lib.hid (PCodeCuts.code_Encode.calls 400 c0 c1 c2 c3 A cc ms [] 1 w' hr hc he)
        rw [hg']
        clear he hg hg' hall d0
        go_wp2_with (first | (go_at_call 13; (with_reducible refine (EN _ _ _ (moves_reads (sat.pick 1 K.out rfl) (by omega)).2.2 (moves_reads (sat.pick 1 K.out rfl) (by omega)).2.1).out.mono ?_); rintro e w1 ⟨v1, rfl, hr, hbb⟩; have K1 := take_bytes K.out hbb hr; clear hr hbb; obtain ⟨p5, k5, rfl⟩ := row_any K1; have K2 := Lib.hid K1; clear K1 K a0 l0; have K := K2; clear K2; have a1 := K.out.rd 1 rfl; have l1 := K.out.ltp 1 rfl; have a4 := K.out.rd 4 rfl; have l4 := K.out.ltp 4 rfl))
        go_ret
        exact ⟨rfl, K.out.below⟩
theorem codeScripts_calls (W : World) (cs : List Value) (hcs : okAll [.int .i64, .int .i64, .int .i64, .int .i64] cs) (a : Option Addr) (len cap : Nat) (rows : List (List Value)) (h : RowsAt W [.int .i64, .int .i64, .int .i64, .int .i64, .bool, .bool, .int .u64, .int .i64] a len cap rows) :
    Calls Try.prog 6 #[.agg cs.toArray, .slice a len cap] W fun e W' => e = .returned (.bool true) ∧ Below W.heap.size W W' := by
  obtain ⟨c0, _, rfl, _, k0⟩ := okAll_int hcs
  obtain ⟨c1, _, rfl, _, k1⟩ := okAll_int k0
  obtain ⟨c2, _, rfl, _, k2⟩ := okAll_int k1
  obtain ⟨c3, _, rfl, _, k3⟩ := okAll_int k2
  obtain rfl := okAll_nil k3
  obtain ⟨l, rfl, hv, hc⟩ := oldV_of h
  by_cases n1 : l.length ≤ 60
  · exact scripts_calls W c0 c1 c2 c3 a l cap hc hv n1
  · have HD : ∀ w, Tells 10 #[] w (.bool true) := fun w => PCodeCuts.stackyardlaw18_head.calls 40 true w (by kernel_rfl)
    have T1 := fun w => Lib.hid (HD w)
    have K := Lib.hid (sat.start W)
    have t1 : decide ((l.length : Int) > 60) = true := by simp; omega
    clear HD hc h
    go_enter Try.func6, Try.ntmps6
    go_wp2_with (first | (go_at_call 10; (with_reducible refine ((T1 _).out).mono ?_); rintro e w1 ⟨rfl, hb⟩; have K1 := sat.grown (by repeat (first | exact K.out | apply sat.alloc_any | apply sat.drew | apply sat.drewN)) hb; clear hb; have K2 := Lib.hid K1; clear K1 K; (try clear a0); (try clear l0); (try clear a1); (try clear l1); (try clear a2); (try clear l2); have K := K2; clear K2; have a0 := K.out.rd 0 rfl; have l0 := K.out.ltp 0 rfl) | ((with_reducible refine at_box ?_); refine st_boxf K.out rfl rfl (fun _ => rfl) ?_; intro gc w1 K1; have K2 := Lib.hid K1; clear K1 K; (try clear a0); (try clear l0); (try clear a1); (try clear l1); (try clear a2); (try clear l2); have K := K2; clear K2; have a0 := K.out.rd 0 rfl; have l0 := K.out.ltp 0 rfl))
    go_ret
    exact ⟨rfl, K.out.below⟩
end Go.Proofs.Ytiladkalijonbaa
