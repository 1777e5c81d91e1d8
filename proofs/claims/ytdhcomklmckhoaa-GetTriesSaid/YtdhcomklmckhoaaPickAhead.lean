/- The places in which something is, put in one by one, as the statements of pick say it: which is ahead of which (later, ahead). Conditions: words within their kind, at most a million of them. -/
import Derived.Test.YtdhcomklmckhoaaPickKit
namespace Go.Proofs.Ytdhcomklmckhoaa
open Go.RowKit Go.SepYtdhcomklmckhoaa
set_option linter.unusedSimpArgs false
set_option linter.unusedVariables false
set_option maxRecDepth 100000
theorem field_stamp (a b c d e : Value) (w : World) : (Instr.field 56 (.agg #[a, b, c, d, e]) 3).run Try.prog w = .ok (.agg #[d, e]) w := by kernel_rfl
theorem field_state (a b c d e : Value) (w : World) : (Instr.field 56 (.agg #[a, b, c, d, e]) 0).run Try.prog w = .ok a w := by kernel_rfl
theorem field_end (a b c d e : Value) (w : World) : (Instr.field 56 (.agg #[a, b, c, d, e]) 1).run Try.prog w = .ok b w := by kernel_rfl
attribute [local go_sem] field_stamp field_state field_end
theorem lcmp_calls (s o : StampM) (w : World) : Tells 71 #[.agg #[.int .i64 s.lo, .int .i64 s.hi], .agg #[.int .i64 o.lo, .int .i64 o.hi]] w (.int .i64 (s.cmp o)) := by
  have e : s.cmp o = if s.lo < o.lo ∨ (s.lo = o.lo ∧ s.hi < o.hi) then -1 else if s.lo = o.lo ∧ s.hi = o.hi then 0 else 1 := by
    unfold StampM.cmp cmpI
    (repeat' split) <;> omega
  rw [e]
  clear e
  obtain ⟨a, b⟩ := s
  obtain ⟨c, d⟩ := o
  dsimp only
  have hd : (a < c) ∨ (a = c ∧ b < d) ∨ (a = c ∧ b = d) ∨ (c < a) ∨ (a = c ∧ d < b) := by omega
  rcases hd with h | ⟨h, h'⟩ | ⟨h, h'⟩ | h | ⟨h, h'⟩
  · have c1 : decide (a < c) = true := by simpa using h
    simp only [h, true_or, if_true]
    clear h
    go_enter Try.func71, Try.ntmps71
    go_wp2
    go_ret
    exact ⟨rfl, ((Below.refl _ _).alloc (Nat.le_refl _) _).alloc (by simp) _⟩
  · subst h
    have c1 : decide (a < a) = false := by simp
    have c2 : (a == a) = true := by simp
    have c3 : decide (b < d) = true := by simpa using h'
    simp only [h', and_self, or_true, if_true]
    clear h'
    go_enter Try.func71, Try.ntmps71
    go_wp2
    go_ret
    exact ⟨rfl, ((Below.refl _ _).alloc (Nat.le_refl _) _).alloc (by simp) _⟩
  · subst h
    subst h'
    have c1 : decide (a < a) = false := by simp
    have c2 : (a == a) = true := by simp
    have c3 : decide (b < b) = false := by simp
    have c4 : (b == b) = true := by simp
    rw [if_neg (by omega), if_pos ⟨rfl, rfl⟩]
    go_enter Try.func71, Try.ntmps71
    go_wp2
    go_ret
    exact ⟨rfl, ((Below.refl _ _).alloc (Nat.le_refl _) _).alloc (by simp) _⟩
  · have c1 : decide (a < c) = false := by simp; omega
    have c2 : (a == c) = false := by simp; omega
    rw [if_neg (by omega), if_neg (by omega)]
    clear h
    go_enter Try.func71, Try.ntmps71
    go_wp2
    go_ret
    exact ⟨rfl, ((Below.refl _ _).alloc (Nat.le_refl _) _).alloc (by simp) _⟩
  · subst h
    have c1 : decide (a < a) = false := by simp
    have c2 : (a == a) = true := by simp
    have c3 : decide (b < d) = false := by simp; omega
    have c4 : (b == d) = false := by simp; omega
    rw [if_neg (by omega), if_neg (by omega)]
    clear h'
    go_enter Try.func71, Try.ntmps71
    go_wp2
    go_ret
    exact ⟨rfl, ((Below.refl _ _).alloc (Nat.le_refl _) _).alloc (by simp) _⟩
theorem later_calls (words : List Int) (p : Option Addr) (cap : Nat) (w : World) (hc : OldU w p words) (hwf : ∀ x ∈ words, 0 ≤ x ∧ x < 18446744073709551616) (a b : Nat) (ha : a < words.length) (hb : b < words.length) :
    Tells 58 #[.slice p words.length cap, .int .i64 a, .int .i64 b] w (.bool (laterB (unpack (getI words a)) a (unpack (getI words b)) b)) := by
  obtain ⟨g, o, rfl, hg, xa⟩ := hc a ha
  obtain ⟨g', o', e', _, xb⟩ := hc b hb
  simp only [Option.some.injEq, Addr.mk.injEq, and_true] at e'
  obtain ⟨rfl, rfl⟩ := e'
  have wa := hwf _ (List.getElem_mem ha)
  have wb := hwf _ (List.getElem_mem hb)
  have ea : getI words a = words[a] := by simp [getI, ha]
  have eb : getI words b = words[b] := by simp [getI, hb]
  rw [ea, eb]
  have U := fun w => Lib.hid (unpack_calls words[a] wa.1 wa.2 w)
  have V := fun w => Lib.hid (unpack_calls words[b] wb.1 wb.2 w)
  have C := fun w => Lib.hid (lcmp_calls (unpack words[a]).stamp (unpack words[b]).stamp w)
  have K := Lib.hid (sat.start w)
  have ca : decide ((a : Int) < (words.length : Int)) = true := by simpa using ha
  have cb : decide ((b : Int) < (words.length : Int)) = true := by simpa using hb
  have F : ∀ w', Below w.heap.size w w' → w'.cell? ⟨g, o + a, none⟩ = some (.int .u64 words[a]) ∧ w'.cell? ⟨g, o + b, none⟩ = some (.int .u64 words[b]) := fun w' h => ⟨(h.cell (p := ⟨g, o + a, none⟩) hg).trans xa, (h.cell (p := ⟨g, o + b, none⟩) hg).trans xb⟩
  have H := Lib.hid F
  unfold laterB
  generalize unpack words[a] = x at *
  generalize unpack words[b] = y at *
  generalize hcc : x.stamp.cmp y.stamp = cc at *
  unfold WordM.v at U V
  clear F hc hwf ea eb wa wb
  generalize words[a] = xa' at *
  generalize words[b] = xb' at *
  by_cases h1 : cc > 0
  · have c1 : decide (cc > 0) = true := by simpa using h1
    simp only [c1, Bool.true_or]
    clear h1 hcc
    go_enter Try.func58, Try.ntmps58
    go_wp2
    go_region_held3 (fun w' => w'.cell? ⟨g, o + a, none⟩ = some (.int .u64 xa') ∧ w'.cell? ⟨g, o + b, none⟩ = some (.int .u64 xb')) (first | exact H.out _ (show sat w _ [] from (by repeat (with_reducible first | exact K.out | apply sat.alloc_any | apply sat.drew | apply sat.drewN))).below | go_keep) (first | (go_at_call 22; (with_reducible refine ((U _).out).mono ?_); rintro e w1 ⟨rfl, hb⟩; have K1 := sat.grown (by repeat (with_reducible first | exact K.out | apply sat.alloc_any | apply sat.drew | apply sat.drewN)) hb; clear hb; have K2 := Lib.hid K1; clear K1 K; (try clear a0); (try clear l0); (try clear a1); (try clear l1); (try clear a2); (try clear l2); have K := K2; clear K2) | (go_at_call 22; (with_reducible refine ((V _).out).mono ?_); rintro e w1 ⟨rfl, hb⟩; have K1 := sat.grown (by repeat (with_reducible first | exact K.out | apply sat.alloc_any | apply sat.drew | apply sat.drewN)) hb; clear hb; have K2 := Lib.hid K1; clear K1 K; (try clear a0); (try clear l0); (try clear a1); (try clear l1); (try clear a2); (try clear l2); have K := K2; clear K2) | (go_at_call 71; (with_reducible refine ((C _).out).mono ?_); rintro e w1 ⟨rfl, hb⟩; have K1 := sat.grown (by repeat (with_reducible first | exact K.out | apply sat.alloc_any | apply sat.drew | apply sat.drewN)) hb; clear hb; have K2 := Lib.hid K1; clear K1 K; (try clear a0); (try clear l0); (try clear a1); (try clear l1); (try clear a2); (try clear l2); have K := K2; clear K2))
    all_goals go_wp2
    all_goals go_ret
    all_goals exact ⟨(by first | rfl | exact ret_b (by simp)), K.out.below⟩
  · have c1 : decide (cc > 0) = false := by simpa using h1
    simp only [c1, Bool.false_or]
    by_cases h2 : cc = 0
    · have c2 : (cc == 0) = true := by simpa using h2
      simp only [h2, decide_true, Bool.true_and]
      clear h1 h2 hcc
      go_enter Try.func58, Try.ntmps58
      go_wp2
      go_region_held3 (fun w' => w'.cell? ⟨g, o + a, none⟩ = some (.int .u64 xa') ∧ w'.cell? ⟨g, o + b, none⟩ = some (.int .u64 xb')) (first | exact H.out _ (show sat w _ [] from (by repeat (with_reducible first | exact K.out | apply sat.alloc_any | apply sat.drew | apply sat.drewN))).below | go_keep) (first | (go_at_call 22; (with_reducible refine ((U _).out).mono ?_); rintro e w1 ⟨rfl, hb⟩; have K1 := sat.grown (by repeat (with_reducible first | exact K.out | apply sat.alloc_any | apply sat.drew | apply sat.drewN)) hb; clear hb; have K2 := Lib.hid K1; clear K1 K; (try clear a0); (try clear l0); (try clear a1); (try clear l1); (try clear a2); (try clear l2); have K := K2; clear K2) | (go_at_call 22; (with_reducible refine ((V _).out).mono ?_); rintro e w1 ⟨rfl, hb⟩; have K1 := sat.grown (by repeat (with_reducible first | exact K.out | apply sat.alloc_any | apply sat.drew | apply sat.drewN)) hb; clear hb; have K2 := Lib.hid K1; clear K1 K; (try clear a0); (try clear l0); (try clear a1); (try clear l1); (try clear a2); (try clear l2); have K := K2; clear K2) | (go_at_call 71; (with_reducible refine ((C _).out).mono ?_); rintro e w1 ⟨rfl, hb⟩; have K1 := sat.grown (by repeat (with_reducible first | exact K.out | apply sat.alloc_any | apply sat.drew | apply sat.drewN)) hb; clear hb; have K2 := Lib.hid K1; clear K1 K; (try clear a0); (try clear l0); (try clear a1); (try clear l1); (try clear a2); (try clear l2); have K := K2; clear K2))
      all_goals go_wp2
      all_goals go_ret
      all_goals exact ⟨(by first | rfl | exact ret_b (by simp)), K.out.below⟩
    · have c2 : (cc == 0) = false := by simpa using h2
      simp only [h2, decide_false, Bool.false_and]
      clear h1 h2 hcc
      go_enter Try.func58, Try.ntmps58
      go_wp2
      go_region_held3 (fun w' => w'.cell? ⟨g, o + a, none⟩ = some (.int .u64 xa') ∧ w'.cell? ⟨g, o + b, none⟩ = some (.int .u64 xb')) (first | exact H.out _ (show sat w _ [] from (by repeat (with_reducible first | exact K.out | apply sat.alloc_any | apply sat.drew | apply sat.drewN))).below | go_keep) (first | (go_at_call 22; (with_reducible refine ((U _).out).mono ?_); rintro e w1 ⟨rfl, hb⟩; have K1 := sat.grown (by repeat (with_reducible first | exact K.out | apply sat.alloc_any | apply sat.drew | apply sat.drewN)) hb; clear hb; have K2 := Lib.hid K1; clear K1 K; (try clear a0); (try clear l0); (try clear a1); (try clear l1); (try clear a2); (try clear l2); have K := K2; clear K2) | (go_at_call 22; (with_reducible refine ((V _).out).mono ?_); rintro e w1 ⟨rfl, hb⟩; have K1 := sat.grown (by repeat (with_reducible first | exact K.out | apply sat.alloc_any | apply sat.drew | apply sat.drewN)) hb; clear hb; have K2 := Lib.hid K1; clear K1 K; (try clear a0); (try clear l0); (try clear a1); (try clear l1); (try clear a2); (try clear l2); have K := K2; clear K2) | (go_at_call 71; (with_reducible refine ((C _).out).mono ?_); rintro e w1 ⟨rfl, hb⟩; have K1 := sat.grown (by repeat (with_reducible first | exact K.out | apply sat.alloc_any | apply sat.drew | apply sat.drewN)) hb; clear hb; have K2 := Lib.hid K1; clear K1 K; (try clear a0); (try clear l0); (try clear a1); (try clear l1); (try clear a2); (try clear l2); have K := K2; clear K2))
      all_goals go_wp2
      all_goals go_ret
      all_goals exact ⟨(by first | rfl | exact ret_b (by simp)), K.out.below⟩
theorem ahead_calls (words : List Int) (p : Option Addr) (cap : Nat) (w : World) (hc : OldU w p words) (hwf : ∀ x ∈ words, 0 ≤ x ∧ x < 18446744073709551616) (a b : Nat) (ha : a < words.length) (hb : b < words.length) :
    Tells 46 #[.slice p words.length cap, .int .i64 a, .int .i64 b] w (.bool (aheadB words a b)) := by
  have L := fun w' (h : Below w.heap.size w w') => Lib.hid (later_calls words p cap w' (hc.grown h) hwf a b ha hb)
  have M := fun w' (h : Below w.heap.size w w') => Lib.hid (later_calls words p cap w' (hc.grown h) hwf b a hb ha)
  obtain ⟨g, o, rfl, hg, xa⟩ := hc a ha
  obtain ⟨g', o', e', _, xb⟩ := hc b hb
  simp only [Option.some.injEq, Addr.mk.injEq, and_true] at e'
  obtain ⟨rfl, rfl⟩ := e'
  have wa := hwf _ (List.getElem_mem ha)
  have wb := hwf _ (List.getElem_mem hb)
  have ea : getI words a = words[a] := by simp [getI, ha]
  have eb : getI words b = words[b] := by simp [getI, hb]
  unfold aheadB
  dsimp only
  rw [ea, eb]
  simp only [ea, eb] at L M
  have U := fun w => Lib.hid (unpack_calls words[a] wa.1 wa.2 w)
  have V := fun w => Lib.hid (unpack_calls words[b] wb.1 wb.2 w)
  have K := Lib.hid (sat.start w)
  have ca : decide ((a : Int) < (words.length : Int)) = true := by simpa using ha
  have cb : decide ((b : Int) < (words.length : Int)) = true := by simpa using hb
  have F : ∀ w', Below w.heap.size w w' → w'.cell? ⟨g, o + a, none⟩ = some (.int .u64 words[a]) ∧ w'.cell? ⟨g, o + b, none⟩ = some (.int .u64 words[b]) := fun w' h => ⟨(h.cell (p := ⟨g, o + a, none⟩) hg).trans xa, (h.cell (p := ⟨g, o + b, none⟩) hg).trans xb⟩
  have H := Lib.hid F
  generalize laterB (unpack words[a]) a (unpack words[b]) b = r1 at *
  generalize laterB (unpack words[b]) b (unpack words[a]) a = r2 at *
  generalize unpack words[a] = x at *
  generalize unpack words[b] = y at *
  unfold WordM.v at U V
  clear F hc hwf ea eb wa wb
  generalize words[a] = xa' at *
  generalize words[b] = xb' at *
  by_cases h1 : x.fin = y.fin
  · have c1 : (x.fin != y.fin) = false := by simpa using h1
    rw [if_neg (by simpa using h1)]
    by_cases h2 : x.fin = 0
    · have c2 : (x.fin == 0) = true := by simpa using h2
      rw [if_pos h2]
      clear h1 h2
      go_enter Try.func46, Try.ntmps46
      go_wp2_with (first | ((go_at_call 22; (with_reducible refine ((U _).out).mono ?_); rintro e w1 ⟨rfl, hb⟩; have K1 := sat.grown (by repeat (with_reducible first | exact K.out | apply sat.alloc_any | apply sat.drew | apply sat.drewN)) hb; clear hb; have K2 := Lib.hid K1; clear K1 K; (try clear a0); (try clear l0); (try clear a1); (try clear l1); (try clear a2); (try clear l2); have K := K2; clear K2); have xb1 := (H.out _ K.out.below).2) | (go_at_call 22; (with_reducible refine ((V _).out).mono ?_); rintro e w1 ⟨rfl, hb⟩; have K1 := sat.grown (by repeat (with_reducible first | exact K.out | apply sat.alloc_any | apply sat.drew | apply sat.drewN)) hb; clear hb; have K2 := Lib.hid K1; clear K1 K; (try clear a0); (try clear l0); (try clear a1); (try clear l1); (try clear a2); (try clear l2); have K := K2; clear K2) | (go_at_call 58; (with_reducible refine ((L _ (RowKit.Hid.out K).below).out).mono ?_); rintro e w1 ⟨rfl, hb⟩; have K1 := sat.grown (by repeat (with_reducible first | exact K.out | apply sat.alloc_any | apply sat.drew | apply sat.drewN)) hb; clear hb; have K2 := Lib.hid K1; clear K1 K; (try clear a0); (try clear l0); (try clear a1); (try clear l1); (try clear a2); (try clear l2); have K := K2; clear K2) | (go_at_call 58; (with_reducible refine ((M _ (RowKit.Hid.out K).below).out).mono ?_); rintro e w1 ⟨rfl, hb⟩; have K1 := sat.grown (by repeat (with_reducible first | exact K.out | apply sat.alloc_any | apply sat.drew | apply sat.drewN)) hb; clear hb; have K2 := Lib.hid K1; clear K1 K; (try clear a0); (try clear l0); (try clear a1); (try clear l1); (try clear a2); (try clear l2); have K := K2; clear K2))
      all_goals go_ret
      all_goals exact ⟨(by first | rfl | exact ret_b (by simp)), K.out.below⟩
    · have c2 : (x.fin == 0) = false := by simpa using h2
      rw [if_neg h2]
      clear h1 h2
      go_enter Try.func46, Try.ntmps46
      go_wp2_with (first | ((go_at_call 22; (with_reducible refine ((U _).out).mono ?_); rintro e w1 ⟨rfl, hb⟩; have K1 := sat.grown (by repeat (with_reducible first | exact K.out | apply sat.alloc_any | apply sat.drew | apply sat.drewN)) hb; clear hb; have K2 := Lib.hid K1; clear K1 K; (try clear a0); (try clear l0); (try clear a1); (try clear l1); (try clear a2); (try clear l2); have K := K2; clear K2); have xb1 := (H.out _ K.out.below).2) | (go_at_call 22; (with_reducible refine ((V _).out).mono ?_); rintro e w1 ⟨rfl, hb⟩; have K1 := sat.grown (by repeat (with_reducible first | exact K.out | apply sat.alloc_any | apply sat.drew | apply sat.drewN)) hb; clear hb; have K2 := Lib.hid K1; clear K1 K; (try clear a0); (try clear l0); (try clear a1); (try clear l1); (try clear a2); (try clear l2); have K := K2; clear K2) | (go_at_call 58; (with_reducible refine ((L _ (RowKit.Hid.out K).below).out).mono ?_); rintro e w1 ⟨rfl, hb⟩; have K1 := sat.grown (by repeat (with_reducible first | exact K.out | apply sat.alloc_any | apply sat.drew | apply sat.drewN)) hb; clear hb; have K2 := Lib.hid K1; clear K1 K; (try clear a0); (try clear l0); (try clear a1); (try clear l1); (try clear a2); (try clear l2); have K := K2; clear K2) | (go_at_call 58; (with_reducible refine ((M _ (RowKit.Hid.out K).below).out).mono ?_); rintro e w1 ⟨rfl, hb⟩; have K1 := sat.grown (by repeat (with_reducible first | exact K.out | apply sat.alloc_any | apply sat.drew | apply sat.drewN)) hb; clear hb; have K2 := Lib.hid K1; clear K1 K; (try clear a0); (try clear l0); (try clear a1); (try clear l1); (try clear a2); (try clear l2); have K := K2; clear K2))
      all_goals go_ret
      all_goals exact ⟨(by first | rfl | exact ret_b (by simp)), K.out.below⟩
  · have c1 : (x.fin != y.fin) = true := by simpa using h1
    rw [if_pos (by simpa using h1)]
    clear h1
    go_enter Try.func46, Try.ntmps46
    go_wp2_with (first | ((go_at_call 22; (with_reducible refine ((U _).out).mono ?_); rintro e w1 ⟨rfl, hb⟩; have K1 := sat.grown (by repeat (with_reducible first | exact K.out | apply sat.alloc_any | apply sat.drew | apply sat.drewN)) hb; clear hb; have K2 := Lib.hid K1; clear K1 K; (try clear a0); (try clear l0); (try clear a1); (try clear l1); (try clear a2); (try clear l2); have K := K2; clear K2); have xb1 := (H.out _ K.out.below).2) | (go_at_call 22; (with_reducible refine ((V _).out).mono ?_); rintro e w1 ⟨rfl, hb⟩; have K1 := sat.grown (by repeat (with_reducible first | exact K.out | apply sat.alloc_any | apply sat.drew | apply sat.drewN)) hb; clear hb; have K2 := Lib.hid K1; clear K1 K; (try clear a0); (try clear l0); (try clear a1); (try clear l1); (try clear a2); (try clear l2); have K := K2; clear K2) | (go_at_call 58; (with_reducible refine ((L _ (RowKit.Hid.out K).below).out).mono ?_); rintro e w1 ⟨rfl, hb⟩; have K1 := sat.grown (by repeat (with_reducible first | exact K.out | apply sat.alloc_any | apply sat.drew | apply sat.drewN)) hb; clear hb; have K2 := Lib.hid K1; clear K1 K; (try clear a0); (try clear l0); (try clear a1); (try clear l1); (try clear a2); (try clear l2); have K := K2; clear K2) | (go_at_call 58; (with_reducible refine ((M _ (RowKit.Hid.out K).below).out).mono ?_); rintro e w1 ⟨rfl, hb⟩; have K1 := sat.grown (by repeat (with_reducible first | exact K.out | apply sat.alloc_any | apply sat.drew | apply sat.drewN)) hb; clear hb; have K2 := Lib.hid K1; clear K1 K; (try clear a0); (try clear l0); (try clear a1); (try clear l1); (try clear a2); (try clear l2); have K := K2; clear K2))
    all_goals go_ret
    all_goals exact ⟨(by first | rfl | exact ret_b (by simp)), K.out.below⟩
end Go.Proofs.Ytdhcomklmckhoaa
