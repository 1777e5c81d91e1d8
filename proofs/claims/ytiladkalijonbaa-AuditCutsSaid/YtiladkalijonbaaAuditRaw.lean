/- Of whatever events: the first one that may not be (AuditRaw answers true at every input). No condition beyond the row's own. -/
import Derived.Test.YtiladkalijonbaaAuditG
namespace Go.Proofs.Ytiladkalijonbaa
open Go.RowKit Go.SepYtiladkalijonbaa Go.Maps
set_option linter.unusedSimpArgs false
set_option linter.unusedVariables false
set_option maxRecDepth 100000
set_option maxHeartbeats 4000000
theorem and3 (n : Int) : bits .and .i64 n 3 = n % 4 := by
  have h : (BitVec.ofInt 64 3).toNat = 2 ^ 2 - 1 := by decide
  have key : (BitVec.ofInt 64 n &&& BitVec.ofInt 64 3).toNat = (n % ((2 ^ 64 : Nat) : Int)).toNat % 2 ^ 2 := by
    rw [BitVec.toNat_and, BitVec.toNat_ofInt, h, Nat.and_two_pow_sub_one_eq_mod]
  show IntKind.i64.wrap ((BitVec.ofInt 64 n &&& BitVec.ofInt 64 3).toNat : Nat) = n % 4
  rw [key, IntKind.wrap_i64]
  omega
/-- A layout, right and small. -/
def confS (t s r d : Int) : ConfM := ⟨1 + t % 4, 1 + s % 4, r % 18446744073709551616 % 5, d % 4⟩
theorem confS_ok (t s r d : Int) : (confS t s r d).ok := by
  constructor <;> (unfold confS; dsimp only; omega)
theorem conf_calls (t s r d : Int) (w : World) : Tells 11 #[.int .i64 t, .int .i64 s, .int .i64 r, .int .i64 d] w (.agg #[.int .i64 (confS t s r d).th, .int .i64 (confS t s r d).sl, .int .i64 (confS t s r d).src, .int .i64 (confS t s r d).dl]) := by
  have e1 := and3 t
  have e2 := and3 s
  have e3 := and3 d
  have f1 : wrap64 (1 + t % 4) = 1 + t % 4 := w64 (by omega) (by omega)
  have f2 : wrap64 (1 + s % 4) = 1 + s % 4 := w64 (by omega) (by omega)
  have g1 : IntKind.u64.wrap r = r % 18446744073709551616 := by rw [IntKind.wrap_u64]
  have g2 : wrap64 (r % 18446744073709551616 % 5) = r % 18446744073709551616 % 5 := w64 (by omega) (by omega)
  have H := Lib.hid (And.intro e1 (And.intro e2 (And.intro e3 (And.intro f1 (And.intro f2 (And.intro g1 g2))))))
  clear e1 e2 e3 f1 f2 g1 g2
  have K := Lib.hid (sat.start w)
  go_enter Try.func11, Try.ntmps11
  go_wp2_with (first | ((with_reducible refine at_alloc ?_); refine st_allocf K.out (fun _ => rfl) ?_; intro gr w1 K1; have K2 := Lib.hid K1; clear K1 K; (try clear a0); (try clear l0); (try clear a1); (try clear l1); (try clear a2); (try clear l2); have K := K2; clear K2; have a0 := K.out.rd 0 rfl; have l0 := K.out.ltp 0 rfl) | ((with_reducible refine at_store ?_); refine st_store 0 K.out rfl rfl rfl rfl ?_ ?_ ?_ ?_; (· kernel_rfl); (· simp); (· simp [Value.oneCell']); intro w1 K1; simp only [List.set, putL] at K1; have K2 := Lib.hid K1; clear K1 K; (try clear a0); (try clear l0); (try clear a1); (try clear l1); (try clear a2); (try clear l2); have K := K2; clear K2; have a0 := K.out.rd 0 rfl; have l0 := K.out.ltp 0 rfl))
  obtain ⟨e1, e2, e3, f1, f2, g1, g2⟩ := H.out
  have g0 : (r % 18446744073709551616).tmod 5 = r % 18446744073709551616 % 5 := Int.tmod_eq_emod_of_nonneg (by omega)
  exact bodyPost_ret (v := .agg #[.int .i64 (confS t s r d).th, .int .i64 (confS t s r d).sl, .int .i64 (confS t s r d).src, .int .i64 (confS t s r d).dl]) (by simp [results, Try.results11, go_sem, a0, confS, e1, e2, e3, f1, f2, g0, g1, g2]) rfl ⟨rfl, K.out.below⟩
theorem oldE_one {E w : World} {L : List SA} {g t : Nat} {f : Nat × Nat} {e : Ev} (h : sat E w (pt g (.cells e.v.toArray t f) :: L)) : OldE w (some ⟨g, 0, none⟩) [e] := fun j hj => by
  obtain rfl : j = 0 := by simp at hj; exact hj
  refine ⟨g, 0, rfl, h.lt, fun i u hi => ?_⟩
  rw [show 0 + 0 * 6 + i = i by omega, h.rd 0 rfl i]
  exact hi
theorem head_calls (w : World) : Tells 15 #[] w (.bool true) := by
  have K := Lib.hid (sat.start w)
  have PK := fun w' => Lib.hid (show Tells 24 #[.agg #[.int .i64 1, .int .i64 0, .int .i64 1, .int .i64 0, .int .i64 0]] w' (.int .u64 9) from pack_calls ⟨1, 0, 1, ⟨0, 0⟩⟩ w')
  have F1 := fun w' p (h : OldE w' p [⟨1, 1, 0, 0, 9, true⟩]) => Lib.hid (show Tells 16 #[.agg #[.int .i64 2, .int .i64 1, .int .i64 0, .int .i64 0], .slice p 1 1] w' (.int .i64 0) from first_calls ⟨2, 1, 0, 0⟩ (by constructor <;> decide) p [⟨1, 1, 0, 0, 9, true⟩] 1 w' (by decide) (by intro e he; obtain rfl := List.mem_singleton.1 he; unfold Ev.wf; dsimp only; omega) h)
  have F2 := fun w' p (h : OldE w' p [⟨0, 1, 0, 0, 9, true⟩]) => Lib.hid (show Tells 16 #[.agg #[.int .i64 2, .int .i64 1, .int .i64 0, .int .i64 0], .slice p 1 1] w' (.int .i64 (-1)) from first_calls ⟨2, 1, 0, 0⟩ (by constructor <;> decide) p [⟨0, 1, 0, 0, 9, true⟩] 1 w' (by decide) (by intro e he; obtain rfl := List.mem_singleton.1 he; unfold Ev.wf; dsimp only; omega) h)
  go_enter Try.func15, Try.ntmps15
  go_wp2_with (first | ((with_reducible refine at_alloc ?_); refine st_allocf K.out (fun _ => rfl) ?_; intro gc w1 K1; have K2 := Lib.hid K1; clear K1 K; (try clear a0); (try clear l0); (try clear a1); (try clear l1); (try clear a2); (try clear l2); have K := K2; clear K2; have a0 := K.out.rd 0 rfl; have l0 := K.out.ltp 0 rfl) | ((with_reducible refine at_store ?_); refine st_store 0 K.out rfl rfl rfl rfl ?_ ?_ ?_ ?_; (· kernel_rfl); (· simp); (· simp [Value.oneCell']); intro w1 K1; simp only [List.set, putL] at K1; have K2 := Lib.hid K1; clear K1 K; (try clear a0); (try clear l0); (try clear a1); (try clear l1); (try clear a2); (try clear l2); have K := K2; clear K2; have a0 := K.out.rd 0 rfl; have l0 := K.out.ltp 0 rfl) | (go_at_call 24; (with_reducible refine ((PK _).out).mono ?_); rintro e w1 ⟨rfl, hb⟩; have K1 := sat.grown (by repeat (with_reducible first | exact K.out | apply sat.alloc_any | apply sat.drew | apply sat.drewN)) hb; clear hb; have K2 := Lib.hid K1; clear K1 K; (try clear a0); (try clear l0); (try clear a1); (try clear l1); (try clear a2); (try clear l2); have K := K2; clear K2; have a0 := K.out.rd 0 rfl; have l0 := K.out.ltp 0 rfl) | (have _hp := qF1; have KA : sat w (World.alloc _ (.cells #[.int .i64 0, .int .i64 1, .int .i64 0, .int .u64 0, .int .u64 9, .bool true] 71)) _ := K.out.alloc _; have o1 := oldE_one (e := ⟨0, 1, 0, 0, 9, true⟩) KA; go_at_call 16; (with_reducible refine ((F2 _ _ o1).out).mono ?_); rintro r w1 ⟨rfl, hb⟩; have K1 := (sat.grown KA hb).drop; clear KA o1 hb; have K2 := Lib.hid K1; clear K1 K; (try clear a0); (try clear l0); (try clear a1); (try clear l1); (try clear a2); (try clear l2); have K := K2; clear K2; have a0 := K.out.rd 0 rfl; have l0 := K.out.ltp 0 rfl; have qF2 := true) | (have KA : sat w (World.alloc _ (.cells #[.int .i64 1, .int .i64 1, .int .i64 0, .int .u64 0, .int .u64 9, .bool true] 71)) _ := K.out.alloc _; have o1 := oldE_one (e := ⟨1, 1, 0, 0, 9, true⟩) KA; go_at_call 16; (with_reducible refine ((F1 _ _ o1).out).mono ?_); rintro r w1 ⟨rfl, hb⟩; have K1 := (sat.grown KA hb).drop; clear KA o1 hb; have K2 := Lib.hid K1; clear K1 K; (try clear a0); (try clear l0); (try clear a1); (try clear l1); (try clear a2); (try clear l2); have K := K2; clear K2; have a0 := K.out.rd 0 rfl; have l0 := K.out.ltp 0 rfl; have qF1 := true))
  go_ret
  exact ⟨rfl, K.out.below⟩
theorem raw_calls (W : World) (t s r : Int) (p : Option Addr) (l : List Ev) (cap : Nat) (hcap : l.length ≤ cap) (hwf : ∀ e ∈ l, Ev.wf e) (h : OldE W p l) :
    Tells 4 #[.int .i64 t, .int .i64 s, .int .i64 r, .slice p l.length cap] W (.bool true) := by
  have K := Lib.hid (sat.start W)
  have HD := fun w => Lib.hid (head_calls w)
  by_cases h60 : l.length > 60
  · have t1 : decide ((l.length : Int) > 60) = true := by simp; omega
    clear h60 h hwf hcap
    go_enter Try.func4, Try.ntmps4
    go_wp2_with (first | (go_at_call 15; (with_reducible refine ((HD _).out).mono ?_); rintro e w1 ⟨rfl, hb⟩; have K1 := sat.grown (by repeat (with_reducible first | exact K.out | apply sat.alloc_any | apply sat.drew | apply sat.drewN)) hb; clear hb; have K2 := Lib.hid K1; clear K1 K; (try clear a0); (try clear l0); (try clear a1); (try clear l1); (try clear a2); (try clear l2); have K := K2; clear K2))
    go_ret
    exact ⟨rfl, K.out.below⟩
  · have t1 : decide ((l.length : Int) > 60) = false := by simp; omega
    have hc := confS_ok t s r 0
    have CF := fun w => Lib.hid (conf_calls t s r 0 w)
    generalize confS t s r 0 = c at *
    have F1 := fun w' (hb : Below W.heap.size W w') => Lib.hid (first_calls c hc p l cap w' (by omega) hwf (h.grown hb))
    have F2 := fun w' (hb : Below W.heap.size W w') => Lib.hid (lfirst_calls c hc p l cap w' (by omega) hcap hwf (h.grown hb))
    generalize firstM c [] l = k at *
    have t2 : (k == k) = true := by simp
    clear h60 h hwf hcap hc
    go_enter Try.func4, Try.ntmps4
    go_wp2_with (first | (go_at_call 15; (with_reducible refine ((HD _).out).mono ?_); rintro e w1 ⟨rfl, hb⟩; have K1 := sat.grown (by repeat (with_reducible first | exact K.out | apply sat.alloc_any | apply sat.drew | apply sat.drewN)) hb; clear hb; have K2 := Lib.hid K1; clear K1 K; (try clear a0); (try clear l0); (try clear a1); (try clear l1); (try clear a2); (try clear l2); have K := K2; clear K2) | (go_at_call 11; (with_reducible refine ((CF _).out).mono ?_); rintro e w1 ⟨rfl, hb⟩; have K1 := sat.grown (by repeat (with_reducible first | exact K.out | apply sat.alloc_any | apply sat.drew | apply sat.drewN)) hb; clear hb; have K2 := Lib.hid K1; clear K1 K; (try clear a0); (try clear l0); (try clear a1); (try clear l1); (try clear a2); (try clear l2); have K := K2; clear K2) | ((with_reducible refine at_alloc ?_); refine st_allocf K.out (fun _ => rfl) ?_; intro gc w1 K1; have K2 := Lib.hid K1; clear K1 K; (try clear a0); (try clear l0); (try clear a1); (try clear l1); (try clear a2); (try clear l2); have K := K2; clear K2; have a0 := K.out.rd 0 rfl; have l0 := K.out.ltp 0 rfl) | ((with_reducible refine at_store ?_); refine st_store 0 K.out rfl rfl rfl rfl ?_ ?_ ?_ ?_; (· kernel_rfl); (· simp); (· simp [Value.oneCell']); intro w1 K1; simp only [List.set, putL] at K1; have K2 := Lib.hid K1; clear K1 K; (try clear a0); (try clear l0); (try clear a1); (try clear l1); (try clear a2); (try clear l2); have K := K2; clear K2; have a0 := K.out.rd 0 rfl; have l0 := K.out.ltp 0 rfl))
    refine wp_region_noPanic ?_
    refine wp_region_held_drew (S := (fun w' => (∀ j, w'.cell? ⟨gc, j, none⟩ = [Value.int .i64 c.th, .int .i64 c.sl, .int .i64 c.src, .int .i64 c.dl][j]?))) (by kernel_rfl) ?_ (fun hHeld => ?_)
    · ((try dsimp only); (first | exact K.out.rd 0 rfl | exact K.out.drew.rd 0 rfl))
    refine tk 0 (some 19) ?_
    (try simp only [Act.put, p0, p1, p2])
    refine tk 1 (some 20) ?_
    (try simp only [Act.put, p0, p1, p2])
    refine tk 3 (some 22) ?_
    (try simp only [Act.put, p0, p1, p2])
    refine tk 4 (some 23) ?_
    (try simp only [Act.put, p0, p1, p2])
    refine wpAnyH_ready (rs := [2]) (by kernel_rfl) (by simp) ?_
    refine AllReadyH.cons (o := _) rfl (fun kC hkC => ?_) AllReadyH.nil
    go_simp
    (first | (go_at_call 16; (with_reducible refine ((F1 _ K.out.below).out).mono ?_); rintro e w1 ⟨rfl, hb⟩; have K1 := sat.grown (show sat _ _ _ from by first | exact K.out | exact K.out.drew) hb; clear hb; have K2 := Lib.hid K1; clear K1 K; (try clear a0); (try clear l0); (try clear f0); (try clear a1); (try clear l1); (try clear f1); (try clear a2); (try clear l2); (try clear f2); (try clear a3); (try clear l3); (try clear f3); (try clear a4); (try clear l4); (try clear f4); (try clear a5); (try clear l5); (try clear f5); have K := K2; clear K2; (try have a0 := K.out.rd 0 rfl); (try have l0 := K.out.ltp 0 rfl); (try have f0 := K.out.fr 0 rfl); (try have a1 := K.out.rd 1 rfl); (try have l1 := K.out.ltp 1 rfl); (try have f1 := K.out.fr 1 rfl); (try have a2 := K.out.rd 2 rfl); (try have l2 := K.out.ltp 2 rfl); (try have f2 := K.out.fr 2 rfl); (try have a3 := K.out.rd 3 rfl); (try have l3 := K.out.ltp 3 rfl); (try have f3 := K.out.fr 3 rfl)) | (go_at_call 16; (with_reducible refine ((F1 _ K.out.drew.below).out).mono ?_); rintro e w1 ⟨rfl, hb⟩; have K1 := sat.grown (show sat _ _ _ from by first | exact K.out | exact K.out.drew) hb; clear hb; have K2 := Lib.hid K1; clear K1 K; (try clear a0); (try clear l0); (try clear f0); (try clear a1); (try clear l1); (try clear f1); (try clear a2); (try clear l2); (try clear f2); (try clear a3); (try clear l3); (try clear f3); (try clear a4); (try clear l4); (try clear f4); (try clear a5); (try clear l5); (try clear f5); have K := K2; clear K2; (try have a0 := K.out.rd 0 rfl); (try have l0 := K.out.ltp 0 rfl); (try have f0 := K.out.fr 0 rfl); (try have a1 := K.out.rd 1 rfl); (try have l1 := K.out.ltp 1 rfl); (try have f1 := K.out.fr 1 rfl); (try have a2 := K.out.rd 2 rfl); (try have l2 := K.out.ltp 2 rfl); (try have f2 := K.out.fr 2 rfl); (try have a3 := K.out.rd 3 rfl); (try have l3 := K.out.ltp 3 rfl); (try have f3 := K.out.fr 3 rfl)) | (go_at_call 17; (with_reducible refine ((F2 _ K.out.below).out).mono ?_); rintro e w1 ⟨rfl, hb⟩; have K1 := sat.grown (show sat _ _ _ from by first | exact K.out | exact K.out.drew) hb; clear hb; have K2 := Lib.hid K1; clear K1 K; (try clear a0); (try clear l0); (try clear f0); (try clear a1); (try clear l1); (try clear f1); (try clear a2); (try clear l2); (try clear f2); (try clear a3); (try clear l3); (try clear f3); (try clear a4); (try clear l4); (try clear f4); (try clear a5); (try clear l5); (try clear f5); have K := K2; clear K2; (try have a0 := K.out.rd 0 rfl); (try have l0 := K.out.ltp 0 rfl); (try have f0 := K.out.fr 0 rfl); (try have a1 := K.out.rd 1 rfl); (try have l1 := K.out.ltp 1 rfl); (try have f1 := K.out.fr 1 rfl); (try have a2 := K.out.rd 2 rfl); (try have l2 := K.out.ltp 2 rfl); (try have f2 := K.out.fr 2 rfl); (try have a3 := K.out.rd 3 rfl); (try have l3 := K.out.ltp 3 rfl); (try have f3 := K.out.fr 3 rfl)) | (go_at_call 17; (with_reducible refine ((F2 _ K.out.drew.below).out).mono ?_); rintro e w1 ⟨rfl, hb⟩; have K1 := sat.grown (show sat _ _ _ from by first | exact K.out | exact K.out.drew) hb; clear hb; have K2 := Lib.hid K1; clear K1 K; (try clear a0); (try clear l0); (try clear f0); (try clear a1); (try clear l1); (try clear f1); (try clear a2); (try clear l2); (try clear f2); (try clear a3); (try clear l3); (try clear f3); (try clear a4); (try clear l4); (try clear f4); (try clear a5); (try clear l5); (try clear f5); have K := K2; clear K2; (try have a0 := K.out.rd 0 rfl); (try have l0 := K.out.ltp 0 rfl); (try have f0 := K.out.fr 0 rfl); (try have a1 := K.out.rd 1 rfl); (try have l1 := K.out.ltp 1 rfl); (try have f1 := K.out.fr 1 rfl); (try have a2 := K.out.rd 2 rfl); (try have l2 := K.out.ltp 2 rfl); (try have f2 := K.out.fr 2 rfl); (try have a3 := K.out.rd 3 rfl); (try have l3 := K.out.ltp 3 rfl); (try have f3 := K.out.fr 3 rfl)))
    refine shown hkC _ _ (by (try dsimp only); (first | exact K.out.rd 0 rfl | exact K.out.drew.rd 0 rfl)) ?_; clear hkC kC hHeld; intro hHeld
    (try simp only [Act.put, p0, p1, p2])
    refine wpAnyH_ready (rs := [5]) (by kernel_rfl) (by simp) ?_
    refine AllReadyH.cons (o := _) rfl (fun kC hkC => ?_) AllReadyH.nil
    go_simp
    (first | (go_at_call 16; (with_reducible refine ((F1 _ K.out.below).out).mono ?_); rintro e w1 ⟨rfl, hb⟩; have K1 := sat.grown (show sat _ _ _ from by first | exact K.out | exact K.out.drew) hb; clear hb; have K2 := Lib.hid K1; clear K1 K; (try clear a0); (try clear l0); (try clear f0); (try clear a1); (try clear l1); (try clear f1); (try clear a2); (try clear l2); (try clear f2); (try clear a3); (try clear l3); (try clear f3); (try clear a4); (try clear l4); (try clear f4); (try clear a5); (try clear l5); (try clear f5); have K := K2; clear K2; (try have a0 := K.out.rd 0 rfl); (try have l0 := K.out.ltp 0 rfl); (try have f0 := K.out.fr 0 rfl); (try have a1 := K.out.rd 1 rfl); (try have l1 := K.out.ltp 1 rfl); (try have f1 := K.out.fr 1 rfl); (try have a2 := K.out.rd 2 rfl); (try have l2 := K.out.ltp 2 rfl); (try have f2 := K.out.fr 2 rfl); (try have a3 := K.out.rd 3 rfl); (try have l3 := K.out.ltp 3 rfl); (try have f3 := K.out.fr 3 rfl)) | (go_at_call 16; (with_reducible refine ((F1 _ K.out.drew.below).out).mono ?_); rintro e w1 ⟨rfl, hb⟩; have K1 := sat.grown (show sat _ _ _ from by first | exact K.out | exact K.out.drew) hb; clear hb; have K2 := Lib.hid K1; clear K1 K; (try clear a0); (try clear l0); (try clear f0); (try clear a1); (try clear l1); (try clear f1); (try clear a2); (try clear l2); (try clear f2); (try clear a3); (try clear l3); (try clear f3); (try clear a4); (try clear l4); (try clear f4); (try clear a5); (try clear l5); (try clear f5); have K := K2; clear K2; (try have a0 := K.out.rd 0 rfl); (try have l0 := K.out.ltp 0 rfl); (try have f0 := K.out.fr 0 rfl); (try have a1 := K.out.rd 1 rfl); (try have l1 := K.out.ltp 1 rfl); (try have f1 := K.out.fr 1 rfl); (try have a2 := K.out.rd 2 rfl); (try have l2 := K.out.ltp 2 rfl); (try have f2 := K.out.fr 2 rfl); (try have a3 := K.out.rd 3 rfl); (try have l3 := K.out.ltp 3 rfl); (try have f3 := K.out.fr 3 rfl)) | (go_at_call 17; (with_reducible refine ((F2 _ K.out.below).out).mono ?_); rintro e w1 ⟨rfl, hb⟩; have K1 := sat.grown (show sat _ _ _ from by first | exact K.out | exact K.out.drew) hb; clear hb; have K2 := Lib.hid K1; clear K1 K; (try clear a0); (try clear l0); (try clear f0); (try clear a1); (try clear l1); (try clear f1); (try clear a2); (try clear l2); (try clear f2); (try clear a3); (try clear l3); (try clear f3); (try clear a4); (try clear l4); (try clear f4); (try clear a5); (try clear l5); (try clear f5); have K := K2; clear K2; (try have a0 := K.out.rd 0 rfl); (try have l0 := K.out.ltp 0 rfl); (try have f0 := K.out.fr 0 rfl); (try have a1 := K.out.rd 1 rfl); (try have l1 := K.out.ltp 1 rfl); (try have f1 := K.out.fr 1 rfl); (try have a2 := K.out.rd 2 rfl); (try have l2 := K.out.ltp 2 rfl); (try have f2 := K.out.fr 2 rfl); (try have a3 := K.out.rd 3 rfl); (try have l3 := K.out.ltp 3 rfl); (try have f3 := K.out.fr 3 rfl)) | (go_at_call 17; (with_reducible refine ((F2 _ K.out.drew.below).out).mono ?_); rintro e w1 ⟨rfl, hb⟩; have K1 := sat.grown (show sat _ _ _ from by first | exact K.out | exact K.out.drew) hb; clear hb; have K2 := Lib.hid K1; clear K1 K; (try clear a0); (try clear l0); (try clear f0); (try clear a1); (try clear l1); (try clear f1); (try clear a2); (try clear l2); (try clear f2); (try clear a3); (try clear l3); (try clear f3); (try clear a4); (try clear l4); (try clear f4); (try clear a5); (try clear l5); (try clear f5); have K := K2; clear K2; (try have a0 := K.out.rd 0 rfl); (try have l0 := K.out.ltp 0 rfl); (try have f0 := K.out.fr 0 rfl); (try have a1 := K.out.rd 1 rfl); (try have l1 := K.out.ltp 1 rfl); (try have f1 := K.out.fr 1 rfl); (try have a2 := K.out.rd 2 rfl); (try have l2 := K.out.ltp 2 rfl); (try have f2 := K.out.fr 2 rfl); (try have a3 := K.out.rd 3 rfl); (try have l3 := K.out.ltp 3 rfl); (try have f3 := K.out.fr 3 rfl)))
    refine shown hkC _ _ (by (try dsimp only); (first | exact K.out.rd 0 rfl | exact K.out.drew.rd 0 rfl)) ?_; clear hkC kC hHeld; intro hHeld
    (try simp only [Act.put, p0, p1, p2])
    refine tk 6 (some 25) ?_
    (try simp only [Act.put, p0, p1, p2])
    refine tk 7 (some 8) ?_
    (try simp only [Act.put, p0, p1, p2])
    refine wpAnyH_done (by kernel_rfl) (NoPanic.normal ?_) _
    all_goals (go_wp2; go_ret; exact ⟨rfl, K.out.below⟩)
theorem auditRaw_calls (W : World) (t : Int) (_ : (Lit.int .i64 t).wf = true) (s : Int) (_ : (Lit.int .i64 s).wf = true) (r : Int) (_ : (Lit.int .i64 r).wf = true) (p : Option Addr) (len cap : Nat) (rows : List (List Value))
    (hr : RowsAt W [.int .i64, .int .i64, .int .i64, .int .u64, .int .u64, .bool] p len cap rows) :
    Calls Try.prog 4 #[.int .i64 t, .int .i64 s, .int .i64 r, .slice p len cap] W fun e W' => e = .returned (.bool true) ∧ Below W.heap.size W W' := by
  obtain ⟨l, rfl, hwf, ho⟩ := oldE_of hr
  exact raw_calls W t s r p l cap hr.le hwf ho
end Go.Proofs.Ytiladkalijonbaa
