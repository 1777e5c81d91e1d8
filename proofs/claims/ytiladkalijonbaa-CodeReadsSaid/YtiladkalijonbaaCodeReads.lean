/- Whatever bytes: a script that is written as just these, or where they are none (CodeReads answers true at every input). No condition beyond the row's own. -/
import Derived.Test.YtiladkalijonbaaCodeKit
import Derived.Test.YtiladkalijonbaaCodeDec2
import Derived.Test.YtiladkalijonbaaRegion
import Derived.Test.YtiladkalijonbaaJoin
import Derived.Test.YtiladkalijonbaaRowKit
namespace Go.Proofs.Ytiladkalijonbaa
open Go.RowKit Go.SepYtiladkalijonbaa Go.Proofs.YtiladkalijonbaaW.PrintWords Go.Proofs.YtiladkalijonbaaW.PrintLast Go.Proofs.YtiladkalijonbaaW.PrintMore
open Go.Proofs.Ytiladkalijonbaa.PCodeCuts (S38 S40 S33 k38 k40 k33)
set_option linter.unusedSimpArgs false
set_option linter.unusedVariables false
set_option maxRecDepth 100000
set_option maxHeartbeats 4000000
/-- Bytes of an argument. -/
def OldB (w : World) (p : Option Addr) (l : List Int) : Prop := ∀ j, (hj : j < l.length) → ∃ b off, p = some ⟨b, off, none⟩ ∧ b < w.heap.size ∧ w.cell? ⟨b, off + j, none⟩ = some (.int .u8 l[j])
theorem OldB.grown {w w' : World} {p : Option Addr} {l : List Int} (h : OldB w p l) (b : Below w.heap.size w w') : OldB w' p l := fun j hj => by
  obtain ⟨c, off, h1, h2, h3⟩ := h j hj
  exact ⟨c, off, h1, Nat.lt_of_lt_of_le h2 b.size, (b.cell (p := ⟨c, off + j, none⟩) h2).trans h3⟩
theorem OldB.take {w : World} {p : Option Addr} {l : List Int} (h : OldB w p l) (n : Nat) : OldB w p (l.take n) := fun j hj => by
  obtain ⟨c, off, h1, h2, h3⟩ := h j (by rw [List.length_take] at hj; omega)
  exact ⟨c, off, h1, h2, by rw [h3]; simp⟩
theorem OldB.reads {w : World} {p : Option Addr} {l : List Int} (h : OldB w p l) (h63 : l.length ≤ 9223372036854775807) : Kd.C (Kd.int .u8) w p l.length l := by
  refine ⟨rfl, h63, fun h0 => ?_⟩
  obtain ⟨c, off, rfl, _, _⟩ := h 0 h0
  refine ⟨_, rfl, fun j x hj => ⟨[.int .u8 x], rfl, rfl, fun i u hi => ?_⟩⟩
  obtain ⟨hj', rfl⟩ := List.getElem?_eq_some_iff.1 hj
  obtain ⟨c', off', e, _, h3⟩ := h j hj'
  simp only [Option.some.injEq, Addr.mk.injEq, and_true] at e
  obtain ⟨rfl, rfl⟩ := e
  have hi0 : i = 0 := by have := (List.getElem?_eq_some_iff.1 hi).1; simpa using this
  subst hi0
  obtain rfl : Value.int .u8 l[j] = u := by simpa using hi
  rw [Addr.add_lit]
  show w.cell? ⟨c, off + (j * 1 + 0), none⟩ = _
  rw [Nat.mul_one, Nat.add_zero]
  exact h3
theorem dec_cut (W : World) (p : Option Addr) (cap : Nat) (b : List Int) (n : Nat) (c0 c1 c2 c3 : Int) (ms : List S40) (w' : World) (h : Below W.heap.size W w') (hc : OldB W p b) (hl : b.length ≤ 300) (hn : n ≤ b.length) (hcap : n ≤ cap) (hd2 : PCodeCuts.code_Decode.f 400 (b.take n) = some (c0, c1, c2, c3, ms, (n : Int), 0)) :
    Calls Try.prog 22 #[.slice p n cap] w' fun e w'' => ∃ v4_ : Value, e = .returned (.tuple #[.agg #[.int .i64 c0, .int .i64 c1, .int .i64 c2, .int .i64 c3, v4_], .int .i64 n, .int .i64 0]) ∧ Kd.R k40 40 w'' w'.heap.size (fun _ => True) v4_ ms ∧ Below w'.heap.size w' w'' := by
  have htl : (b.take n).length = n := by rw [List.length_take]; omega
  have h2 := PCodeCuts.code_Decode.calls 400 p cap (b.take n) c0 c1 c2 c3 ms (n : Int) 0 w' (((hc.grown h).take n).reads (by omega)) (by omega) hd2
  rw [htl] at h2
  exact h2
theorem reads_bad (b : List Int) (p : Option Addr) (cap : Nat) (W : World) (hc : OldB W p b) (hcap : b.length ≤ cap) (hb : isB b) (h300 : b.length ≤ 300) (h4 : b.length < 4) (hd : PCodeCuts.code_Decode.f 400 b = some (0, 0, 0, 0, [], (b.length : Int), 3)) :
    Tells 7 #[.slice p b.length cap] W (.bool true) := by
  have HD : ∀ w, Tells 10 #[] w (.bool true) := fun w => PCodeCuts.stackyardlaw18_head.calls 40 true w (by kernel_rfl)
  have T1 := fun w => Lib.hid (HD w)
  have K := Lib.hid (sat.start W)
  have t1 : decide ((b.length : Int) > 300) = false := by simp; omega
  have D := fun w' (h : Below W.heap.size W w') => Lib.hid (PCodeCuts.code_Decode.calls 400 p cap b 0 0 0 0 [] (b.length : Int) 3 w' ((hc.grown h).reads (by omega)) hcap hd)
  have t2 : decide (b.length < 4) = true := by simpa using h4
  clear HD hc hd
  go_enter Try.func7, Try.ntmps7
  go_wp2_with (first | (go_at_call 10; (with_reducible refine ((T1 _).out).mono ?_); rintro e w1 ⟨rfl, hb⟩; have K1 := sat.grown (by repeat (first | exact K.out | apply sat.alloc_any | apply sat.drew | apply sat.drewN)) hb; clear hb; have K2 := Lib.hid K1; clear K1 K; (try clear a0); (try clear l0); (try clear a1); (try clear l1); (try clear a2); (try clear l2); have K := K2; clear K2) | (go_at_call 22; (with_reducible refine (D _ K.out.below).out.mono ?_); rintro e w1 ⟨v0, rfl, hr, hbb⟩; have K1 := take_moves K.out hbb hr; clear hr hbb; obtain ⟨p1, c1, rfl⟩ := row_any K1; have K2 := Lib.hid K1; clear K1 K; have K := K2; clear K2))
  go_ret
  exact ⟨rfl, (show sat W _ _ from (by repeat (first | exact K.out | apply sat.alloc_any | apply sat.drew | apply sat.drewN))).below⟩
theorem reads_conf (b : List Int) (p : Option Addr) (cap : Nat) (W : World) (hc : OldB W p b) (hcap : b.length ≤ cap) (hb : isB b) (h300 : b.length ≤ 300) (h4 : 4 ≤ b.length) (hcf : confR (rd b 0) (rd b 1) (rd b 2) (rd b 3) = false) (hd : PCodeCuts.code_Decode.f 400 b = some (0, 0, 0, 0, [], 0, 1)) :
    Tells 7 #[.slice p b.length cap] W (.bool true) := by
  have HD : ∀ w, Tells 10 #[] w (.bool true) := fun w => PCodeCuts.stackyardlaw18_head.calls 40 true w (by kernel_rfl)
  have T1 := fun w => Lib.hid (HD w)
  have K := Lib.hid (sat.start W)
  have t1 : decide ((b.length : Int) > 300) = false := by simp; omega
  have D := fun w' (h : Below W.heap.size W w') => Lib.hid (PCodeCuts.code_Decode.calls 400 p cap b 0 0 0 0 [] 0 1 w' ((hc.grown h).reads (by omega)) hcap hd)
  have CR := fun w' => Lib.hid (PCodeCuts.lay_Conf_Right.calls (rd b 0) (rd b 1) (rd b 2) (rd b 3) false w' (by rw [conf_f, hcf]))
  have b0 := rd_bd b hb 0
  have b1 := rd_bd b hb 1
  have b2 := rd_bd b hb 2
  have b3 := rd_bd b hb 3
  obtain ⟨g, o, rfl, hg, x0⟩ := hc 0 (by omega)
  have cell : ∀ j (hj : j < b.length), W.cell? ⟨g, o + j, none⟩ = some (.int .u8 (rd b (j : Int))) := fun j hj => by
    obtain ⟨g', o', e, _, h3⟩ := hc j hj
    simp only [Option.some.injEq, Addr.mk.injEq, and_true] at e
    obtain ⟨rfl, rfl⟩ := e
    rw [h3]
    unfold rd
    rw [Int.toNat_natCast, List.getD_eq_getElem?_getD, List.getElem?_eq_getElem hj]
    rfl
  have C0 := Lib.hid (fun w' (h : Below W.heap.size W w') => (h.cell (p := ⟨g, o, none⟩) hg).trans (show W.cell? ⟨g, o, none⟩ = some (.int .u8 (rd b 0)) from cell 0 (by omega)))
  have C1 := Lib.hid (fun w' (h : Below W.heap.size W w') => (h.cell (p := ⟨g, o + 1, none⟩) hg).trans (show W.cell? ⟨g, o + 1, none⟩ = some (.int .u8 (rd b 1)) from cell 1 (by omega)))
  have C2 := Lib.hid (fun w' (h : Below W.heap.size W w') => (h.cell (p := ⟨g, o + 2, none⟩) hg).trans (show W.cell? ⟨g, o + 2, none⟩ = some (.int .u8 (rd b 2)) from cell 2 (by omega)))
  have C3 := Lib.hid (fun w' (h : Below W.heap.size W w') => (h.cell (p := ⟨g, o + 3, none⟩) hg).trans (show W.cell? ⟨g, o + 3, none⟩ = some (.int .u8 (rd b 3)) from cell 3 (by omega)))
  have z1 : wrap64 (rd b 0) = rd b 0 := w64e (by omega) (by omega)
  have z2 : wrap64 (rd b 1) = rd b 1 := w64e (by omega) (by omega)
  have z3 : wrap64 (rd b 2) = rd b 2 := w64e (by omega) (by omega)
  have z4 : wrap64 (rd b 3) = rd b 3 := w64e (by omega) (by omega)
  have zi1 : IntKind.i64.wrap (rd b 0) = rd b 0 := by rw [IntKind.wrap_i64]; omega
  have zi2 : IntKind.i64.wrap (rd b 1) = rd b 1 := by rw [IntKind.wrap_i64]; omega
  have zi3 : IntKind.i64.wrap (rd b 2) = rd b 2 := by rw [IntKind.wrap_i64]; omega
  have zi4 : IntKind.i64.wrap (rd b 3) = rd b 3 := by rw [IntKind.wrap_i64]; omega
  have hb4 : 0 < b.length ∧ 1 < b.length ∧ 2 < b.length ∧ 3 < b.length := by omega
  obtain ⟨hb40, hb41, hb42, hb43⟩ := hb4
  have hI : (0 : Int) < (b.length : Int) ∧ (1 : Int) < (b.length : Int) ∧ (2 : Int) < (b.length : Int) ∧ (3 : Int) < (b.length : Int) := by omega
  obtain ⟨hI0, hI1, hI2, hI3⟩ := hI
  clear cell x0 b0 b1 b2 b3
  have t2 : decide (b.length < 4) = false := by simp; omega
  clear HD hc hd
  go_enter Try.func7, Try.ntmps7
  go_wp2_with (first | (go_at_call 10; (with_reducible refine ((T1 _).out).mono ?_); rintro e w1 ⟨rfl, hb⟩; have K1 := sat.grown (by repeat (first | exact K.out | apply sat.alloc_any | apply sat.drew | apply sat.drewN)) hb; clear hb; have K2 := Lib.hid K1; clear K1 K; (try clear a0); (try clear l0); (try clear a1); (try clear l1); (try clear a2); (try clear l2); have K := K2; clear K2) | (go_at_call 22; (with_reducible refine (D _ K.out.below).out.mono ?_); rintro e w1 ⟨v0, rfl, hr, hbb⟩; have K1 := take_moves K.out hbb hr; clear hr hbb; obtain ⟨p1, c1, rfl⟩ := row_any K1; have K2 := Lib.hid K1; clear K1 K; have K := K2; clear K2; have d0 := C0.out _ K.out.below; have d1 := C1.out _ K.out.below; have d2 := C2.out _ K.out.below; have d3 := C3.out _ K.out.below))
  go_region_held3 (fun w' => w'.cell? ⟨g, o, none⟩ = some (.int .u8 (rd b 0)) ∧ w'.cell? ⟨g, o + 1, none⟩ = some (.int .u8 (rd b 1)) ∧ w'.cell? ⟨g, o + 2, none⟩ = some (.int .u8 (rd b 2)) ∧ w'.cell? ⟨g, o + 3, none⟩ = some (.int .u8 (rd b 3))) (first | exact ⟨C0.out _ (show sat W _ _ from (by repeat (first | exact K.out | apply sat.alloc_any | apply sat.drew | apply sat.drewN))).below, C1.out _ (show sat W _ _ from (by repeat (first | exact K.out | apply sat.alloc_any | apply sat.drew | apply sat.drewN))).below, C2.out _ (show sat W _ _ from (by repeat (first | exact K.out | apply sat.alloc_any | apply sat.drew | apply sat.drewN))).below, C3.out _ (show sat W _ _ from (by repeat (first | exact K.out | apply sat.alloc_any | apply sat.drew | apply sat.drewN))).below⟩ | go_keep) (fail)
  go_wp2_with (first | (go_at_call 18; (with_reducible refine ((CR _).out).mono ?_); rintro e w1 ⟨rfl, hb⟩; have K1 := sat.grown (by repeat (first | exact K.out | apply sat.alloc_any | apply sat.drew | apply sat.drewN)) hb; clear hb; have K2 := Lib.hid K1; clear K1 K; (try clear a0); (try clear l0); (try clear a1); (try clear l1); (try clear a2); (try clear l2); have K := K2; clear K2))
  go_ret
  exact ⟨rfl, (show sat W _ _ from (by repeat (first | exact K.out | apply sat.alloc_any | apply sat.drew | apply sat.drewN))).below⟩
theorem reads_err (b : List Int) (p : Option Addr) (cap : Nat) (W : World) (hc : OldB W p b) (hcap : b.length ≤ cap) (hb : isB b) (h300 : b.length ≤ 300) (h4 : 4 ≤ b.length) (hcf : confR (rd b 0) (rd b 1) (rd b 2) (rd b 3) = true) (ms : List S40) (n : Nat) (hall : ∀ m ∈ ms, rightM m = true ∧ okV m) (hms : ms.length ≤ 300) (n4 : 4 ≤ n) (nb : n < b.length) (ht : b.take n = [rd b 0, rd b 1, rd b 2, rd b 3] ++ movesB ms)
    (hd : PCodeCuts.code_Decode.f 400 b = some (0, 0, 0, 0, [], (n : Int), 3)) :
    Tells 7 #[.slice p b.length cap] W (.bool true) := by
  have HD : ∀ w, Tells 10 #[] w (.bool true) := fun w => PCodeCuts.stackyardlaw18_head.calls 40 true w (by kernel_rfl)
  have T1 := fun w => Lib.hid (HD w)
  have K := Lib.hid (sat.start W)
  have t1 : decide ((b.length : Int) > 300) = false := by simp; omega
  have D := fun w' (h : Below W.heap.size W w') => Lib.hid (PCodeCuts.code_Decode.calls 400 p cap b 0 0 0 0 [] (n : Int) 3 w' ((hc.grown h).reads (by omega)) hcap hd)
  have CR := fun w' => Lib.hid (PCodeCuts.lay_Conf_Right.calls (rd b 0) (rd b 1) (rd b 2) (rd b 3) true w' (by rw [conf_f, hcf]))
  have htl : (b.take n).length = n := by rw [List.length_take]; omega
  have hd2 : PCodeCuts.code_Decode.f 400 (b.take n) = some (rd b 0, rd b 1, rd b 2, rd b 3, ms, (n : Int), 0) := by
    have hbm : isB (movesB ms) := fun x hx => isB_take hb n x (by rw [ht]; exact List.mem_append_right _ hx)
    have := dec_complete_f (rd b 0) (rd b 1) (rd b 2) (rd b 3) (rd_bd b hb 0) (rd_bd b hb 1) (rd_bd b hb 2) (rd_bd b hb 3) hcf ms hall hbm (by omega) (k := 400) (by omega)
    rw [← ht, htl] at this
    exact this
  have D2 := fun w' (h : Below W.heap.size W w') => Lib.hid (dec_cut W p cap b n (rd b 0) (rd b 1) (rd b 2) (rd b 3) ms w' h hc (by omega) (by omega) (by omega) hd2)
  have b0 := rd_bd b hb 0
  have b1 := rd_bd b hb 1
  have b2 := rd_bd b hb 2
  have b3 := rd_bd b hb 3
  obtain ⟨g, o, rfl, hg, x0⟩ := hc 0 (by omega)
  have cell : ∀ j (hj : j < b.length), W.cell? ⟨g, o + j, none⟩ = some (.int .u8 (rd b (j : Int))) := fun j hj => by
    obtain ⟨g', o', e, _, h3⟩ := hc j hj
    simp only [Option.some.injEq, Addr.mk.injEq, and_true] at e
    obtain ⟨rfl, rfl⟩ := e
    rw [h3]
    unfold rd
    rw [Int.toNat_natCast, List.getD_eq_getElem?_getD, List.getElem?_eq_getElem hj]
    rfl
  have C0 := Lib.hid (fun w' (h : Below W.heap.size W w') => (h.cell (p := ⟨g, o, none⟩) hg).trans (show W.cell? ⟨g, o, none⟩ = some (.int .u8 (rd b 0)) from cell 0 (by omega)))
  have C1 := Lib.hid (fun w' (h : Below W.heap.size W w') => (h.cell (p := ⟨g, o + 1, none⟩) hg).trans (show W.cell? ⟨g, o + 1, none⟩ = some (.int .u8 (rd b 1)) from cell 1 (by omega)))
  have C2 := Lib.hid (fun w' (h : Below W.heap.size W w') => (h.cell (p := ⟨g, o + 2, none⟩) hg).trans (show W.cell? ⟨g, o + 2, none⟩ = some (.int .u8 (rd b 2)) from cell 2 (by omega)))
  have C3 := Lib.hid (fun w' (h : Below W.heap.size W w') => (h.cell (p := ⟨g, o + 3, none⟩) hg).trans (show W.cell? ⟨g, o + 3, none⟩ = some (.int .u8 (rd b 3)) from cell 3 (by omega)))
  have z1 : wrap64 (rd b 0) = rd b 0 := w64e (by omega) (by omega)
  have z2 : wrap64 (rd b 1) = rd b 1 := w64e (by omega) (by omega)
  have z3 : wrap64 (rd b 2) = rd b 2 := w64e (by omega) (by omega)
  have z4 : wrap64 (rd b 3) = rd b 3 := w64e (by omega) (by omega)
  have zi1 : IntKind.i64.wrap (rd b 0) = rd b 0 := by rw [IntKind.wrap_i64]; omega
  have zi2 : IntKind.i64.wrap (rd b 1) = rd b 1 := by rw [IntKind.wrap_i64]; omega
  have zi3 : IntKind.i64.wrap (rd b 2) = rd b 2 := by rw [IntKind.wrap_i64]; omega
  have zi4 : IntKind.i64.wrap (rd b 3) = rd b 3 := by rw [IntKind.wrap_i64]; omega
  have hb4 : 0 < b.length ∧ 1 < b.length ∧ 2 < b.length ∧ 3 < b.length := by omega
  obtain ⟨hb40, hb41, hb42, hb43⟩ := hb4
  have hI : (0 : Int) < (b.length : Int) ∧ (1 : Int) < (b.length : Int) ∧ (2 : Int) < (b.length : Int) ∧ (3 : Int) < (b.length : Int) := by omega
  obtain ⟨hI0, hI1, hI2, hI3⟩ := hI
  clear cell x0 b0 b1 b2 b3
  have t2 : decide (b.length < 4) = false := by simp; omega
  have t3 : decide (n < 4) = false := by simp; omega
  have t4 : decide ((n : Int) < 4) = false := by simp; omega
  have t5 : decide (b.length ≤ n) = false := by simp; omega
  have t6 : decide ((n : Int) ≥ (b.length : Int)) = false := by simp; omega
  have hncap : (n : Int) ≤ (cap : Int) := by omega
  have hn0 : (0 : Int) ≤ (n : Int) := by omega
  clear HD hc hd hd2 ht hall htl
  go_enter Try.func7, Try.ntmps7
  go_wp2_with (first | (go_at_call 10; (with_reducible refine ((T1 _).out).mono ?_); rintro e w1 ⟨rfl, hb⟩; have K1 := sat.grown (by repeat (first | exact K.out | apply sat.alloc_any | apply sat.drew | apply sat.drewN)) hb; clear hb; have K2 := Lib.hid K1; clear K1 K; (try clear a0); (try clear l0); (try clear a1); (try clear l1); (try clear a2); (try clear l2); have K := K2; clear K2) | (go_at_call 22; (with_reducible refine (D _ K.out.below).out.mono ?_); rintro e w1 ⟨v0, rfl, hr, hbb⟩; have K1 := take_moves K.out hbb hr; clear hr hbb; obtain ⟨p1, c1, rfl⟩ := row_any K1; have K2 := Lib.hid K1; clear K1 K; have K := K2; clear K2; have d0 := C0.out _ K.out.below; have d1 := C1.out _ K.out.below; have d2 := C2.out _ K.out.below; have d3 := C3.out _ K.out.below))
  go_region_held3 (fun w' => w'.cell? ⟨g, o, none⟩ = some (.int .u8 (rd b 0)) ∧ w'.cell? ⟨g, o + 1, none⟩ = some (.int .u8 (rd b 1)) ∧ w'.cell? ⟨g, o + 2, none⟩ = some (.int .u8 (rd b 2)) ∧ w'.cell? ⟨g, o + 3, none⟩ = some (.int .u8 (rd b 3))) (first | exact ⟨C0.out _ (show sat W _ _ from (by repeat (first | exact K.out | apply sat.alloc_any | apply sat.drew | apply sat.drewN))).below, C1.out _ (show sat W _ _ from (by repeat (first | exact K.out | apply sat.alloc_any | apply sat.drew | apply sat.drewN))).below, C2.out _ (show sat W _ _ from (by repeat (first | exact K.out | apply sat.alloc_any | apply sat.drew | apply sat.drewN))).below, C3.out _ (show sat W _ _ from (by repeat (first | exact K.out | apply sat.alloc_any | apply sat.drew | apply sat.drewN))).below⟩ | go_keep) (fail)
  go_wp2_with (first | (go_at_call 18; (with_reducible refine ((CR _).out).mono ?_); rintro e w1 ⟨rfl, hb⟩; have K1 := sat.grown (by repeat (first | exact K.out | apply sat.alloc_any | apply sat.drew | apply sat.drewN)) hb; clear hb; have K2 := Lib.hid K1; clear K1 K; (try clear a0); (try clear l0); (try clear a1); (try clear l1); (try clear a2); (try clear l2); have K := K2; clear K2) | (go_at_call 22; (with_reducible refine (D2 _ (RowKit.Hid.out K).below).out.mono ?_); rintro e w1 ⟨v0, rfl, hr, hbb⟩; have K1 := take_moves K.out hbb hr; clear hr hbb; obtain ⟨p2, c2, rfl⟩ := row_any K1; have K2 := Lib.hid K1; clear K1 K; have K := K2; clear K2))
  go_ret
  exact ⟨rfl, (show sat W _ _ from (by repeat (first | exact K.out | apply sat.alloc_any | apply sat.drew | apply sat.drewN))).below⟩
theorem reads_ok (b : List Int) (p : Option Addr) (cap : Nat) (W : World) (hc : OldB W p b) (hcap : b.length ≤ cap) (hb : isB b) (h300 : b.length ≤ 300) (h4 : 4 ≤ b.length) (hcf : confR (rd b 0) (rd b 1) (rd b 2) (rd b 3) = true) (ms : List S40) (hall : ∀ m ∈ ms, rightM m = true ∧ okV m) (hms : ms.length ≤ 300) (ht : b = [rd b 0, rd b 1, rd b 2, rd b 3] ++ movesB ms)
    (hd : PCodeCuts.code_Decode.f 400 b = some (rd b 0, rd b 1, rd b 2, rd b 3, ms, (b.length : Int), 0)) :
    Tells 7 #[.slice p b.length cap] W (.bool true) := by
  have HD : ∀ w, Tells 10 #[] w (.bool true) := fun w => PCodeCuts.stackyardlaw18_head.calls 40 true w (by kernel_rfl)
  have T1 := fun w => Lib.hid (HD w)
  have K := Lib.hid (sat.start W)
  have t1 : decide ((b.length : Int) > 300) = false := by simp; omega
  have D := fun w' (h : Below W.heap.size W w') => Lib.hid (PCodeCuts.code_Decode.calls 400 p cap b (rd b 0) (rd b 1) (rd b 2) (rd b 3) ms (b.length : Int) 0 w' ((hc.grown h).reads (by omega)) hcap hd)
  have hallr : allR ms = true := by
    unfold allR
    rw [List.all_eq_true]
    exact fun m hm => (hall m hm).1
  have he : PCodeCuts.code_Encode.f 400 (rd b 0) (rd b 1) (rd b 2) (rd b 3) ms = some (b, 0) := by
    rw [enc_f _ _ _ _ ms (by omega) (by omega)]
    unfold encM
    rw [if_pos hcf, if_neg (by omega), if_pos hallr, Int.emod_eq_of_lt (rd_bd b hb 0).1 (rd_bd b hb 0).2, Int.emod_eq_of_lt (rd_bd b hb 1).1 (rd_bd b hb 1).2, Int.emod_eq_of_lt (rd_bd b hb 2).1 (rd_bd b hb 2).2, Int.emod_eq_of_lt (rd_bd b hb 3).1 (rd_bd b hb 3).2, ← ht]
  have EN := fun w' (A : Option Addr) (cc : Nat) hr hc => Lib.hid (PCodeCuts.code_Encode.calls 400 (rd b 0) (rd b 1) (rd b 2) (rd b 3) A cc ms b 0 w' hr hc he)
  have SM := fun w' (h : Below W.heap.size W w') (A : Option Addr) (cc : Nat) hr hcc => Lib.hid (PCodeCuts.stackyardlaw18_same.calls A cc b p cap b true w' hr hcc ((hc.grown h).reads (by omega)) hcap (by unfold PCodeCuts.stackyardlaw18_same.f; simp))
  have q1 : ((b.length : Int) == (b.length : Int)) = true := by simp
  clear HD hc hd he ht hall hallr
  go_enter Try.func7, Try.ntmps7
  go_wp2_with (first | (go_at_call 10; (with_reducible refine ((T1 _).out).mono ?_); rintro e w1 ⟨rfl, hb⟩; have K1 := sat.grown (by repeat (first | exact K.out | apply sat.alloc_any | apply sat.drew | apply sat.drewN)) hb; clear hb; have K2 := Lib.hid K1; clear K1 K; (try clear a0); (try clear l0); (try clear a1); (try clear l1); (try clear a2); (try clear l2); have K := K2; clear K2) | (go_at_call 22; (with_reducible refine (D _ K.out.below).out.mono ?_); rintro e w1 ⟨v0, rfl, hr, hbb⟩; have K1 := take_moves K.out hbb hr; clear hr hbb; obtain ⟨p1, c1, rfl⟩ := row_any K1; have K2 := Lib.hid K1; clear K1 K; have K := K2; clear K2) | (go_at_call 13; have KA := K.out.alloc_any (.cells [Value.int .i64 (rd b 0), Value.int .i64 (rd b 1), Value.int .i64 (rd b 2), Value.int .i64 (rd b 3), Value.slice p1 ms.length c1].toArray 30); (with_reducible refine (EN _ _ _ (moves_reads KA (by omega)).2.2 (moves_reads KA (by omega)).2.1).out.mono ?_); rintro e w1 ⟨v1, rfl, hr, hbb⟩; have K1 := take_bytes KA hbb hr; clear hr hbb KA; obtain ⟨p2, c2, rfl⟩ := row_any K1; have K2 := Lib.hid K1; clear K1 K; have K := K2; clear K2) | (go_at_call 14; (with_reducible refine (SM _ (RowKit.Hid.out K).below _ _ (bytes_reads K.out (by omega)).2.2 (bytes_reads K.out (by omega)).2.1).out.mono ?_); rintro e w1 ⟨rfl, hdr⟩; have hdb := Lib.hid hdr.below; clear hdr; dsimp only))
  go_ret
  exact ⟨rfl, K.out.below.trans (hdb.out.mono K.out.size)⟩
theorem oldB_of {W : World} {a : Option Addr} {len cap : Nat} {rows : List (List Value)} (h : RowsAt W [.int .u8] a len cap rows) : ∃ l : List Int, l.length = len ∧ isB l ∧ OldB W a l := by
  have hk : ∀ r ∈ rows, ∃ n : Int, r = [.int .u8 n] ∧ 0 ≤ n ∧ n < 256 := fun r hr => by
    obtain ⟨n, w0, rfl, hw, k0⟩ := okAll_int (h.ok r hr)
    obtain rfl := okAll_nil k0
    refine ⟨n, rfl, ?_⟩
    simp only [Lit.wf, Bool.and_eq_true, decide_eq_true_eq] at hw
    have e1 : IntKind.u8.min = 0 := by decide
    have e2 : IntKind.u8.max = 255 := by decide
    omega
  have hw : ∃ l : List Int, rows = l.map (fun n => [.int .u8 n]) ∧ isB l := by
    have key : ∀ rs : List (List Value), (∀ r ∈ rs, ∃ n : Int, r = [.int .u8 n] ∧ 0 ≤ n ∧ n < 256) → ∃ l : List Int, rs = l.map (fun n => [.int .u8 n]) ∧ isB l := by
      intro rs
      induction rs with
      | nil => exact fun _ => ⟨[], rfl, fun x hx => by simp at hx⟩
      | cons r rs ih =>
        intro hr
        obtain ⟨n, rfl, hn⟩ := hr r List.mem_cons_self
        obtain ⟨ws, rfl, hws⟩ := ih (fun r h => hr r (List.mem_cons_of_mem _ h))
        refine ⟨n :: ws, rfl, fun x hx => ?_⟩
        rcases List.mem_cons.1 hx with rfl | hx
        · exact hn
        · exact hws x hx
    exact key rows hk
  obtain ⟨l, rfl, hwf⟩ := hw
  have hlen : l.length = len := by simpa using h.length
  refine ⟨l, hlen, hwf, fun j hj => ?_⟩
  cases a with
  | none => have := h.nil rfl; omega
  | some x =>
    have hc : ∀ i, (hi : i < l.length) → W.cell? (x.add i) = some (.int .u8 l[i]) := fun i hi => by
      have := h.cell x rfl i 0 (.int .u8 l[i]) [.int .u8 l[i]] (by rw [List.getElem?_map, List.getElem?_eq_getElem hi]; rfl) rfl
      simpa using this
    have h0 := hc 0 (by omega)
    have hs : x.spot = none := World.cell?_spot (by simpa [Addr.add] using h0)
    obtain ⟨b, o, sp⟩ := x
    simp only at hs
    subst hs
    have hj' := hc j hj
    rw [Addr.add_lit] at hj'
    refine ⟨b, o, rfl, ?_, hj'⟩
    rcases Nat.lt_or_ge b W.heap.size with h | h
    · exact h
    · simp [World.cell?, Array.getElem?_eq_none h] at hj'
theorem codeReads_calls (W : World) (a : Option Addr) (len cap : Nat) (rows : List (List Value)) (h : RowsAt W [.int .u8] a len cap rows) :
    Calls Try.prog 7 #[.slice a len cap] W fun e W' => e = .returned (.bool true) ∧ Below W.heap.size W W' := by
  have hle := h.le
  obtain ⟨b, rfl, hb, hc⟩ := oldB_of h
  by_cases h300 : b.length ≤ 300
  · rcases dec_f b hb h300 (Nat.le_refl 400) with ⟨h4, hd⟩ | ⟨h4, hcf, hd⟩ | ⟨h4, hcf, ms, hall, hms, ht, hd⟩ | ⟨h4, hcf, ms, n, hall, hms, n4, nb, ht, hd⟩
    · exact reads_bad b a cap W hc hle hb h300 h4 hd
    · exact reads_conf b a cap W hc hle hb h300 h4 hcf hd
    · exact reads_ok b a cap W hc hle hb h300 h4 hcf ms hall hms ht hd
    · exact reads_err b a cap W hc hle hb h300 h4 hcf ms n hall hms n4 nb ht hd
  · have HD : ∀ w, Tells 10 #[] w (.bool true) := fun w => PCodeCuts.stackyardlaw18_head.calls 40 true w (by kernel_rfl)
    have T1 := fun w => Lib.hid (HD w)
    have K := Lib.hid (sat.start W)
    have t1 : decide ((b.length : Int) > 300) = true := by simp; omega
    clear HD hc h
    go_enter Try.func7, Try.ntmps7
    go_wp2_with (first | (go_at_call 10; (with_reducible refine ((T1 _).out).mono ?_); rintro e w1 ⟨rfl, hb⟩; have K1 := sat.grown (by repeat (first | exact K.out | apply sat.alloc_any | apply sat.drew | apply sat.drewN)) hb; clear hb; have K2 := Lib.hid K1; clear K1 K; (try clear a0); (try clear l0); (try clear a1); (try clear l1); (try clear a2); (try clear l2); have K := K2; clear K2))
    go_ret
    exact ⟨rfl, K.out.below⟩
end Go.Proofs.Ytiladkalijonbaa
