/- 'make' of a slice: a row of one's own. Plain lemmas over any program; no condition. -/
import Derived.Test.YtiladkalijonbaaStep
import Derived.Laws.MakeOwn
import Derived.Laws.OwnMore
namespace Go.SepYtiladkalijonbaa
open Go.RowKit
section
variable {E w : World} {L : List SA} {P : Program}
theorem st_make {ops : Array Oper} {rest : List Oper} {a : Act} {Q : Exit → Act → World → Prop} {dst : Option Tmp} {s x : Operand} {t : TypeId} {oty : TypeId} {pos : String} {af : Array Edge}
    (e size bytes : Nat) (zc : Array Value) (ht : P.underlying t = some (.slice e)) (hi : ∃ q z, P.info? e = some q ∧ q.zero = some z ∧ q.size = size ∧ q.bytes = bytes ∧ z.cells = zc)
    (h : sat E w L) {kl kc : IntKind} {l c : Nat} (hs : look a s = some (.int kl (l : Int))) (hx : look a x = some (.int kc (c : Int))) (hlc : l ≤ c) (hcells : c * size ≤ 16777216) (h63 : c ≤ maxLen) (hb : bytes * c ≤ 281474976710656)
    (k : ∀ g w', sat E w' (rowA (.slice (some ⟨g, 0, none⟩) l c) e size l ((madeCells zc (c * size)).toList.take (l * size)) :: L) → wpList P ops Q rest (a.put dst (.slice (some ⟨g, 0, none⟩) l c)) w') :
    wpList P ops Q (⟨dst, .makeSlice t s x, oty, pos, af, none⟩ :: rest) a w := by
  obtain ⟨q, z, g1, g2, g3, g4, g5⟩ := hi
  subst g3 g4 g5
  have hb' : (q.bytes : Int) * (c : Int) ≤ 281474976710656 := by
    have h : ((q.bytes * c : Nat) : Int) ≤ 281474976710656 := by omega
    rwa [Int.natCast_mul] at h
  have h63' : (c : Int) ≤ 9223372036854775807 := by simp only [maxLen] at h63; omega
  have hr := run_makeSlice (P := P) w t e q z ht g1 g2 kl kc (l : Int) (c : Int) (by omega) (by omega) (by simpa using hcells) hb' h63'
  simp only [Int.toNat_natCast] at hr
  refine wpList_plain rfl fun K hK => ?_
  unfold Oper.wp execOp
  simp only [look_eval hs, look_eval hx, Sem.run_bind, hr, Result.andThen_ok, Sem.run_pure]
  refine hK _ _ (k w.heap.size _ (sat.row_shut ?_ hlc h63 (size_madeCells _ _) rfl (h.alloc _)))
  rw [List.length_take, Array.length_toList, size_madeCells]
  exact Nat.min_eq_left (Nat.mul_le_mul_right _ hlc)
end
end Go.SepYtiladkalijonbaa
