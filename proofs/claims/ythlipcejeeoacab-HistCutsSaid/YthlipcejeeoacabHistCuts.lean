/- HistCuts: what is so of calls is so of a beginning of them. -/
import Derived.Test.YthlipcejeeoacabOver
import Derived.Test.YthlipcejeeoacabRight
namespace Go.Proofs.Ythlipcejeeoacab
open Go.RowKit Go.SepYthlipcejeeoacab Go.Maps
set_option linter.unusedSimpArgs false
set_option linter.unusedVariables false
set_option maxRecDepth 100000
set_option maxHeartbeats 4000000
theorem under_take (l : List DeedM) (a : Nat) (d : DeedM) : underN (l.take a) d ≤ underN l d := ((List.take_sublist a l).filter _).length_le
theorem most_mono (L L' : List DeedM) (h : ∀ d, underN L d ≤ underN L' d) : ∀ l r : List DeedM, mostM L l ≤ mostM L' (l ++ r)
  | [], r => by
    have := (mostM_bd L' ([] ++ r)).1
    simpa [mostM] using this
  | d :: l, r => by
    have := most_mono L L' h l r
    have := h d
    rw [List.cons_append, mostM, mostM]
    omega
theorem most_take (l : List DeedM) (a : Nat) : mostM (l.take a) (l.take a) ≤ mostM l l := by
  have h := most_mono (l.take a) l (under_take l a) (l.take a) (l.drop a)
  rwa [List.take_append_drop] at h
theorem over_take (l : List DeedM) (a : Nat) : ((l.take a).filter overD).length ≤ (l.filter overD).length := ((List.take_sublist a l).filter _).length_le
theorem right_take (l : List DeedM) (a : Nat) (h : rightM [] l = true) : rightM [] (l.take a) = true := by
  rw [← List.take_append_drop a l, rightM_append, Bool.and_eq_true] at h
  exact h.1
theorem overn_calls (p : Option Addr) (l : List DeedM) (cap : Nat) (w : World) (hl : l.length ≤ 1000000) (h : OldD w p l) :
    Calls Try.prog 6 #[.slice p l.length cap] w fun e w' => ∃ p2 c2, e = .returned (.slice p2 (l.filter overD).length c2) ∧ Below w.heap.size w w' :=
  (over_calls p l cap w hl h).mono (by rintro e w' ⟨r, p2, c2, rfl, rfl, _, hb⟩; exact ⟨_, _, rfl, hb⟩)
theorem add0 (x : Addr) : x.add 0 = x := by cases x with | mk b o s => unfold Addr.add; split <;> simp_all
attribute [local go_sem] add0
theorem cuts_calls (W : World) (p : Option Addr) (l : List DeedM) (cap : Nat) (at' : Int) (ha : w64P at') (hcap : l.length ≤ cap) (hwf : ∀ e ∈ l, DeedM.wf e) (h : OldD W p l) :
    Calls Try.prog 4 #[.slice p l.length cap, .int .i64 at'] W fun e W' => e = .returned (.bool true) ∧ Below W.heap.size W W' := by
  have K := Lib.hid (sat.start W)
  have HD := fun w => Lib.hid (head14_calls w)
  by_cases h60 : l.length > 60
  · have t1 : decide ((l.length : Int) > 60) = true := by simp; omega
    clear h60 h hwf
    go_enter Try.func4, Try.ntmps4
    go_wp2_with (first | (go_at_call 5; (with_reducible refine ((HD _).out).mono ?_); rintro e w1 ⟨rfl, hb⟩; have K1 := sat.grown (by repeat (with_reducible first | exact K.out | apply sat.alloc_any | apply sat.drew | apply sat.drewN)) hb; clear hb; have K2 := Lib.hid K1; clear K1 K; (try clear a0); (try clear l0); (try clear a1); (try clear l1); (try clear a2); (try clear l2); have K := K2; clear K2))
    go_ret
    exact ⟨rfl, K.out.below⟩
  have t1 : decide ((l.length : Int) > 60) = false := by simp; omega
  have n60 : l.length ≤ 60 := by omega
  clear h60
  obtain ⟨a, hal, hae⟩ : ∃ a : Nat, a ≤ l.length ∧ wrap64 (Int.tmod (IntKind.u64.wrap at') ((l.length : Int) + 1)) = (a : Int) := by
    have hb : (2 : Int) ^ IntKind.u64.bits = 18446744073709551616 := by decide
    have hs : IntKind.u64.signed = false := rfl
    have e2 : 0 ≤ IntKind.u64.wrap at' := by simp only [IntKind.wrap, hb, hs, Bool.false_and]; first | omega | (simp; omega)
    rw [Int.tmod_eq_emod_of_nonneg e2]
    have h1 := Int.emod_nonneg (IntKind.u64.wrap at') (b := (l.length : Int) + 1) (by omega)
    have h2 := Int.emod_lt_of_pos (IntKind.u64.wrap at') (b := (l.length : Int) + 1) (by omega)
    refine ⟨(IntKind.u64.wrap at' % ((l.length : Int) + 1)).toNat, by omega, ?_⟩
    rw [w64 (by omega) (by omega)]
    omega
  have hlt : (l.take a).length = a := by rw [List.length_take]; omega
  have i0 : (0 : Int) ≤ (a : Int) := by omega
  have i1 : (a : Int) ≤ (cap : Int) := by omega
  have i2 : a ≤ cap := by omega
  have R1 := Lib.hid (fun (w : World) (b : Below W.heap.size W w) => right_calls p l cap w (by omega) hwf (h.grown b))
  have R2 := Lib.hid (fun (w : World) (b : Below W.heap.size W w) => right_calls p (l.take a) cap w (by omega) (fun e he => hwf e (List.mem_of_mem_take he)) ((h.take a).grown b))
  have M1 := Lib.hid (fun (w : World) (b : Below W.heap.size W w) => most_calls p l cap w (by omega) (h.grown b))
  have M2 := Lib.hid (fun (w : World) (b : Below W.heap.size W w) => most_calls p (l.take a) cap w (by omega) ((h.take a).grown b))
  have O1 := Lib.hid (fun (w : World) (b : Below W.heap.size W w) => overn_calls p l cap w (by omega) (h.grown b))
  have O2 := Lib.hid (fun (w : World) (b : Below W.heap.size W w) => overn_calls p (l.take a) cap w (by omega) ((h.take a).grown b))
  rw [hlt] at R2 M2 O2
  have hR := right_take l a
  have hM := most_take l a
  have hO := over_take l a
  have tM : decide (mostM (l.take a) (l.take a) ≤ mostM l l) = true := by simpa using hM
  clear h hwf
  generalize rightM [] l = r1 at *
  generalize rightM [] (l.take a) = r2 at *
  generalize mostM l l = m1 at *
  generalize mostM (l.take a) (l.take a) = m2 at *
  generalize (l.filter overD).length = o1 at *
  generalize ((l.take a).filter overD).length = o2 at *
  have tO : decide ((o2 : Int) ≤ (o1 : Int)) = true := by simpa using hO
  have TT := Lib.hid (And.intro (fun h : r1 = true => hR h) (And.intro hM hO))
  clear hR hM hO hlt
  go_enter Try.func4, Try.ntmps4
  cases r1
  case' true => obtain rfl : r2 = true := TT.out.1 rfl
  all_goals
    go_wp2_with (first | (go_at_call 5; (with_reducible refine ((HD _).out).mono ?_); rintro e w1 ⟨rfl, hb⟩; have K1 := sat.grown (by repeat (with_reducible first | exact K.out | apply sat.alloc_any | apply sat.drew | apply sat.drewN)) hb; clear hb; have K2 := Lib.hid K1; clear K1 K; (try clear a0); (try clear l0); (try clear a1); (try clear l1); (try clear a2); (try clear l2); have K := K2; clear K2) | (go_at_call 7; (with_reducible (first | refine ((R1.out _ (RowKit.Hid.out K).below)).mono ?_ | refine ((R2.out _ (RowKit.Hid.out K).below)).mono ?_)); rintro r w1 ⟨rfl, hb⟩; have K1 := sat.grown K.out hb; clear hb; have K2 := Lib.hid K1; clear K1 K; (try clear a0); (try clear l0); (try clear a1); (try clear l1); (try clear a2); (try clear l2); have K := K2; clear K2) | (go_at_call 9; (with_reducible (first | refine ((M1.out _ (RowKit.Hid.out K).below)).mono ?_ | refine ((M2.out _ (RowKit.Hid.out K).below)).mono ?_)); rintro r w1 ⟨rfl, hb⟩; have K1 := sat.grown K.out hb; clear hb; have K2 := Lib.hid K1; clear K1 K; (try clear a0); (try clear l0); (try clear a1); (try clear l1); (try clear a2); (try clear l2); have K := K2; clear K2) | (go_at_call 6; (with_reducible (first | refine ((O1.out _ (RowKit.Hid.out K).below)).mono ?_ | refine ((O2.out _ (RowKit.Hid.out K).below)).mono ?_)); rintro r w1 ⟨p2, c2, rfl, hb⟩; have K1 := sat.grown K.out hb; clear hb; have K2 := Lib.hid K1; clear K1 K; (try clear a0); (try clear l0); (try clear a1); (try clear l1); (try clear a2); (try clear l2); have K := K2; clear K2))
    go_ret
    exact ⟨ret_b (by have := TT.out.2.2; simpa using this), K.out.below⟩
theorem histCuts_calls (W : World) (p : Option Addr) (len cap : Nat) (rows : List (List Value)) (hr : RowsAt W deedK p len cap rows) (at' : Int) (ha : (Lit.int .i64 at').wf = true) :
    Calls Try.prog 4 #[.slice p len cap, .int .i64 at'] W fun e W' => e = .returned (.bool true) ∧ Below W.heap.size W W' := by
  obtain ⟨l, rfl, hwf, ho⟩ := oldD_of hr
  exact cuts_calls W p l cap at' (unwf64 ha) hr.le hwf ho
end Go.Proofs.Ythlipcejeeoacab
