import Derived.Test.YtiladkalijonbaaAuditW
namespace Go.Proofs.Ytiladkalijonbaa
open Go.RowKit Go.SepYtiladkalijonbaa Go.Maps
set_option linter.unusedSimpArgs false
set_option linter.unusedVariables false
set_option maxRecDepth 100000
set_option maxHeartbeats 4000000
section
variable {E w : World} {L : List SA}
theorem ofNumber_calls (c : ConfM) (a bc bs : Nat) (t : Int) (e : Ev) (he : Ev.wf e)
    (h : sat E w (audA a c bc bs :: L)) :
    Calls Try.prog 33 #[.pointer (some ⟨a, 0, none⟩), .agg e.v.toArray, .int .i64 t] w fun r w' => r = .returned (.bool (numberB c e t)) ∧ sat E w' (audA a c bc bs :: L) := by
  obtain ⟨e1, e2, e3, e4⟩ := he
  obtain ⟨e30, e31⟩ := e3
  have K := Lib.hid h
  have a0 := h.rd 0 rfl
  have l0 := h.ltp 0 rfl
  clear h
  have hw : IntKind.u64.wrap (e.old + 1) = u64M (e.old + 1) := by rw [IntKind.wrap_u64]; rfl
  unfold numberB
  generalize u64M (e.old + 1) = nx at *
  by_cases s0 : c.src = 0
  · have t0 : (c.src == 0) = true := by simpa using s0
    rw [if_pos s0]
    clear s0
    go_enter Try.func33, Try.ntmps33
    go_wp2_with (first | ((with_reducible refine at_box ?_); refine st_boxf K.out rfl rfl (fun _ => rfl) ?_; intro ge w1 K1; have K2 := Lib.hid K1; clear K1 K; (try clear a0); (try clear l0); (try clear a1); (try clear l1); (try clear a2); (try clear l2); have K := K2; clear K2; have a0 := K.out.rd 0 rfl; have l0 := K.out.ltp 0 rfl; have a1 := K.out.rd 1 rfl; have l1 := K.out.ltp 1 rfl))
    all_goals (go_ret; exact ⟨ret_b (by simp_all), K.out.drop⟩)
  rw [if_neg s0]
  have t0 : (c.src == 0) = false := by simpa using s0
  clear s0
  by_cases s1 : c.src = 1
  · have t1 : (c.src == 1) = true := by simpa using s1
    rw [if_pos s1]
    clear s1
    go_enter Try.func33, Try.ntmps33
    go_wp2_with (first | ((with_reducible refine at_box ?_); refine st_boxf K.out rfl rfl (fun _ => rfl) ?_; intro ge w1 K1; have K2 := Lib.hid K1; clear K1 K; (try clear a0); (try clear l0); (try clear a1); (try clear l1); (try clear a2); (try clear l2); have K := K2; clear K2; have a0 := K.out.rd 0 rfl; have l0 := K.out.ltp 0 rfl; have a1 := K.out.rd 1 rfl; have l1 := K.out.ltp 1 rfl))
    all_goals (go_ret; exact ⟨ret_b (by simp_all), K.out.drop⟩)
  rw [if_neg s1]
  have t1 : (c.src == 1) = false := by simpa using s1
  clear s1
  by_cases s2 : c.src = 2
  · have t2 : (c.src == 2) = true := by simpa using s2
    rw [if_pos s2]
    clear s2
    go_enter Try.func33, Try.ntmps33
    go_wp2_with (first | ((with_reducible refine at_box ?_); refine st_boxf K.out rfl rfl (fun _ => rfl) ?_; intro ge w1 K1; have K2 := Lib.hid K1; clear K1 K; (try clear a0); (try clear l0); (try clear a1); (try clear l1); (try clear a2); (try clear l2); have K := K2; clear K2; have a0 := K.out.rd 0 rfl; have l0 := K.out.ltp 0 rfl; have a1 := K.out.rd 1 rfl; have l1 := K.out.ltp 1 rfl))
    all_goals (go_ret; exact ⟨ret_b (by simp_all), K.out.drop⟩)
  rw [if_neg s2]
  have t2 : (c.src == 2) = false := by simpa using s2
  clear s2
  go_enter Try.func33, Try.ntmps33
  go_wp2_with (first | ((with_reducible refine at_box ?_); refine st_boxf K.out rfl rfl (fun _ => rfl) ?_; intro ge w1 K1; have K2 := Lib.hid K1; clear K1 K; (try clear a0); (try clear l0); (try clear a1); (try clear l1); (try clear a2); (try clear l2); have K := K2; clear K2; have a0 := K.out.rd 0 rfl; have l0 := K.out.ltp 0 rfl; have a1 := K.out.rd 1 rfl; have l1 := K.out.ltp 1 rfl))
  all_goals (go_ret; exact ⟨ret_b (by simp_all), K.out.drop⟩)
end
end Go.Proofs.Ytiladkalijonbaa
