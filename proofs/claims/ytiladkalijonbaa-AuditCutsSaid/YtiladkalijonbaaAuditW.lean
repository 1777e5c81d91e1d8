/- The auditor, step by step: what each of its functions answers. Conditions: a Right layout; a place of it. -/
import Derived.Test.YtiladkalijonbaaAuditP
import Derived.Test.YtiladkalijonbaaMapWalk
import Derived.Test.YtiladkalijonbaaReg
import Derived.Deep.RegionHeld3
import Derived.Deep.DeepCutAuto
namespace Go.Proofs.Ytiladkalijonbaa
open Go.RowKit Go.SepYtiladkalijonbaa Go.Maps
set_option linter.unusedSimpArgs false
set_option linter.unusedVariables false
set_option maxRecDepth 100000
set_option maxHeartbeats 4000000
abbrev Ev.v (e : Ev) : List Value := [.int .i64 e.who, .int .i64 e.op, .int .i64 e.cell, .int .u64 e.old, .int .u64 e.new, .bool e.ok]
abbrev audV (c : ConfM) (bc bs : Nat) : List Value := [.int .i64 c.th, .int .i64 c.sl, .int .i64 c.src, .int .i64 c.dl, .map (some bc), .map (some bs)]
abbrev audA (b : Nat) (c : ConfM) (bc bs : Nat) : SA := pt b (.cells (audV c bc bs).toArray 76 (0, 0))
abbrev evA (b : Nat) (e : Ev) : SA := pt b (.cells e.v.toArray 71 (0, 0))
abbrev wordL (x : WordM) : List Value := [.int .i64 x.state, .int .i64 x.fin, .int .i64 x.gen, .int .i64 x.stamp.lo, .int .i64 x.stamp.hi]
abbrev wordA (b : Nat) (x : WordM) : SA := pt b (.cells (wordL x).toArray 67 (0, 0))
abbrev wordV (x : WordM) : Value := .agg #[.int .i64 x.state, .int .i64 x.fin, .int .i64 x.gen, .int .i64 x.stamp.lo, .int .i64 x.stamp.hi]
theorem unpack_lay (x : Int) (h0 : 0 ≤ x) (h1 : x < 18446744073709551616) (w : World) : Tells 37 #[.int .u64 x] w (wordV (unpack x)) := unpack_calls x h0 h1 w
section
variable {E w : World} {L : List SA}
theorem audS {a bc bs n : Nat} {c : ConfM} {f : Lit → Option Int} {M : List SA} (h : sat E w (audA a c bc bs :: cellsA bc n f :: M)) (i : Int) (hi : w64P i) :
    (∀ j, w.cell? ⟨a, j, none⟩ = (audV c bc bs)[j]?) ∧ (Instr.lookup 73 (.map (some bc)) (.int .i64 i) false).run Try.prog w = .ok (.int .u64 ((f (.int .i64 i)).getD 0)) w :=
  ⟨h.rd 0 rfl, look_cells (h.pick 1 rfl) hi⟩
theorem aword_calls (c : ConfM) (hc : c.ok) (a bc bs n m : Nat) (f g : Lit → Option Int) (slot : Int) (h0 : 0 ≤ slot) (h1 : slot < c.all)
    (hf : ∀ i, 0 ≤ (f (.int .i64 i)).getD 0 ∧ (f (.int .i64 i)).getD 0 < 18446744073709551616)
    (h : sat E w (audA a c bc bs :: cellsA bc n f :: seenA bs m g :: L)) :
    Calls Try.prog 44 #[.pointer (some ⟨a, 0, none⟩), .int .i64 slot] w fun r w' => r = .returned (wordV (unpack ((f (.int .i64 slot)).getD 0))) ∧ sat E w' (audA a c bc bs :: cellsA bc n f :: seenA bs m g :: L) := by
  have hal := hc.all_bd
  have LK := Lib.hid (show w64P slot by unfold w64P; omega)
  have U := fun w' => Lib.hid (unpack_lay _ (hf slot).1 (hf slot).2 w')
  have W1 := fun w' => Lib.hid (word_calls c w' slot)
  have K := Lib.hid h
  have a0 := h.rd 0 rfl
  clear h hf
  go_enter Try.func44, Try.ntmps44
  go_wp2_with (first | ((with_reducible refine at_alloc ?_); refine st_allocf K.out (fun _ => rfl) ?_; intro gr w1 K1; have K2 := Lib.hid K1; clear K1 K; (try clear a0); (try clear l0); (try clear a1); (try clear l1); (try clear a2); (try clear l2); (try clear f0); have K := K2; clear K2; have a0 := K.out.rd 0 rfl; have l0 := K.out.ltp 0 rfl; have f0 := K.out.fr 0 rfl; have a1 := K.out.rd 1 rfl; have l1 := K.out.ltp 1 rfl))
  go_region_held3 (fun w' => (∀ j, w'.cell? ⟨a, j, none⟩ = (audV c bc bs)[j]?) ∧ (Instr.lookup 73 (.map (some bc)) (.int .i64 slot) false).run Try.prog w' = .ok (.int .u64 ((f (.int .i64 slot)).getD 0)) w') (first | exact audS (show sat E _ _ from (by repeat (with_reducible first | exact K.out | apply sat.alloc_any | apply sat.drew | apply sat.drewN))).drop slot LK.out | exact audS (sat.set0 (sat.set0 (sat.set0 (sat.set0 (sat.set0 K.out))))).drop slot LK.out) (first | (go_at_call 46; (with_reducible refine ((W1 _).out).mono ?_); rintro e w1 ⟨rfl, hb⟩; have K1 := sat.grown (by repeat (with_reducible first | exact K.out | apply sat.alloc_any | apply sat.drew | apply sat.drewN)) hb; clear hb; have K2 := Lib.hid K1; clear K1 K; (try clear a0); (try clear l0); (try clear a1); (try clear l1); (try clear a2); (try clear l2); (try clear f0); have K := K2; clear K2; have a0 := K.out.rd 0 rfl; have l0 := K.out.ltp 0 rfl; have f0 := K.out.fr 0 rfl; have a1 := K.out.rd 1 rfl; have l1 := K.out.ltp 1 rfl) | (go_at_call 37; (with_reducible refine ((U _).out).mono ?_); rintro e w1 ⟨rfl, hb⟩; have K1 := sat.grown (by repeat (with_reducible first | exact K.out | apply sat.alloc_any | apply sat.drew | apply sat.drewN)) hb; clear hb; have K2 := Lib.hid K1; clear K1 K; (try clear a0); (try clear l0); (try clear a1); (try clear l1); (try clear a2); (try clear l2); (try clear f0); have K := K2; clear K2; have a0 := K.out.rd 0 rfl; have l0 := K.out.ltp 0 rfl; have f0 := K.out.fr 0 rfl; have a1 := K.out.rd 1 rfl; have l1 := K.out.ltp 1 rfl))
  clear ‹_ ∧ Sem.run _ _ _ = _›
  have K1 := sat.set0 (i := 4) (v := .int .i64 (unpack ((f (.int .i64 slot)).getD 0)).stamp.hi) (sat.set0 (i := 3) (v := .int .i64 (unpack ((f (.int .i64 slot)).getD 0)).stamp.lo) (sat.set0 (i := 2) (v := .int .i64 (unpack ((f (.int .i64 slot)).getD 0)).gen) (sat.set0 (i := 1) (v := .int .i64 (unpack ((f (.int .i64 slot)).getD 0)).fin) (sat.set0 (i := 0) (v := .int .i64 (unpack ((f (.int .i64 slot)).getD 0)).state) K.out))))
  simp only [List.set] at K1
  obtain ⟨w2, hw2, K2⟩ := K1.gen
  rw [← hw2]
  clear hw2 K1 K a0 l0 f0 a1 l1
  have K := Lib.hid K2
  clear K2
  have a0 := K.out.rd 0 rfl
  go_wp2
  exact bodyPost_ret (v := wordV (unpack ((f (.int .i64 slot)).getD 0))) (by simp [results, Try.results44, go_sem, a0]) rfl ⟨rfl, K.out.drop⟩
theorem _root_.Go.SepYtiladkalijonbaa.sat.cab {A B C : SA} (h : sat E w (A :: B :: C :: L)) : sat E w (C :: A :: B :: L) := h.pick 2 rfl
theorem _root_.Go.SepYtiladkalijonbaa.sat.uncab {A B C : SA} (h : sat E w (C :: A :: B :: L)) : sat E w (A :: B :: C :: L) := (h.pick 2 rfl).pick 2 rfl
theorem szal (w : World) (o : Obj) : (w.alloc o).heap.size = w.heap.size + 1 := by simp
theorem szdrew (w : World) : w.drew.heap.size = w.heap.size := rfl
theorem allocB {w : World} {A O : Obj} {M : List SA} (h : sat E (w.alloc A) M) : sat E ((w.alloc A).alloc O) (pt (w.heap.size + 1) O :: M) := by
  have := h.alloc O
  rwa [szal] at this
theorem set5_0 {b t : Nat} {M : List SA} {x0 x1 x2 x3 x4 y0 y1 y2 y3 y4 : Value} (h : sat E w (pt b (.cells #[x0, x1, x2, x3, x4] t (0, 0)) :: M)) :
    sat E (((((w.setCell ⟨b, 0, none⟩ y0).setCell ⟨b, 1, none⟩ y1).setCell ⟨b, 2, none⟩ y2).setCell ⟨b, 3, none⟩ y3).setCell ⟨b, 4, none⟩ y4) (pt b (.cells #[y0, y1, y2, y3, y4] t (0, 0)) :: M) :=
  sat.set0 (i := 4) (v := y4) (sat.set0 (i := 3) (v := y3) (sat.set0 (i := 2) (v := y2) (sat.set0 (i := 1) (v := y1) (sat.set0 (i := 0) (v := y0) (l := [x0, x1, x2, x3, x4]) h))))
theorem set5_1 {A : SA} {b t : Nat} {M : List SA} {x0 x1 x2 x3 x4 y0 y1 y2 y3 y4 : Value} (h : sat E w (A :: pt b (.cells #[x0, x1, x2, x3, x4] t (0, 0)) :: M)) :
    sat E (((((w.setCell ⟨b, 0, none⟩ y0).setCell ⟨b, 1, none⟩ y1).setCell ⟨b, 2, none⟩ y2).setCell ⟨b, 3, none⟩ y3).setCell ⟨b, 4, none⟩ y4) (A :: pt b (.cells #[y0, y1, y2, y3, y4] t (0, 0)) :: M) :=
  (set5_0 h.swap).swap
end
end Go.Proofs.Ytiladkalijonbaa
