/- The library's sort (slices.SortFunc) at things in places, by the order in which they came, and by that order turned round. Conditions: fewer than 2^62 things. -/
import Derived.Test.YtdhcomklmckhoaaCmp
import Derived.Test.YtdhcomklmckhoaaSorted
import Derived.Shelf.SlSortCmp.WholeK
import Derived.Shelf.Lay
import Derived.Ground.SlsfProg
namespace Go.Proofs
open Go.Shelf Go.RowKit Go.Lib Go.Sort
shelf_lay_g SlLaysF0.n6 Slsf 6 at Try 82 as Try.sortThing
namespace Ytdhcomklmckhoaa
open Go.SepYtdhcomklmckhoaa
theorem Grn.grow {w w' : World} (h : Grn w w') : ∃ q os', w' = grow (w.drewN q) os' := by
  refine ⟨w'.drawn - w.drawn, w'.heap.extract w.heap.size w'.heap.size, ?_⟩
  obtain ⟨b, d⟩ := h
  obtain ⟨hp, tp, dr, o, out⟩ := w
  obtain ⟨hp', tp', dr', o', out'⟩ := w'
  obtain ⟨e1, e2, e3, e4, e5⟩ := b
  simp only at e1 e2 e3 e4 e5 d
  subst e1 e2 e3
  simp only [Sort.grow, World.drewN, World.mk.injEq, true_and, and_true]
  refine ⟨?_, by omega⟩
  apply Array.ext_getElem?
  intro i
  by_cases hi : i < hp.size
  · rw [e5 i hi, Array.getElem?_append_left hi]
  · rw [Array.getElem?_append_right (by omega)]
    by_cases hj : i < hp'.size
    · rw [Array.getElem?_extract, if_pos (by omega)]; congr 1; omega
    · rw [Array.getElem?_eq_none (by omega), Array.getElem?_eq_none (by simp; omega)]
instance : Inhabited WordM := ⟨⟨0, 0, 0, ⟨0, 0⟩⟩⟩
theorem cmp_lays (blk off size : Nat) (w : World) : CmpLays Try.prog 84 #[] thingC 6 tcmp blk off size w := fun _ _ _ _ x y => (tcmp_calls x y _).mono fun _ _ ⟨he, hg⟩ => ⟨he, hg.grow⟩
theorem rev_lays (blk off size : Nat) (w : World) : CmpLays Try.prog 83 #[] thingC 6 (fun a b => tcmp b a) blk off size w := fun _ _ _ _ x y => (trev_calls x y _).mono fun _ _ ⟨he, hg⟩ => ⟨he, hg.grow⟩
theorem tcmp_lt (a b : Thing) : ltOf tcmp a b = decide (a.2.stamp.lo < b.2.stamp.lo ∨ (a.2.stamp.lo = b.2.stamp.lo ∧ (a.2.stamp.hi < b.2.stamp.hi ∨ (a.2.stamp.hi = b.2.stamp.hi ∧ a.1 < b.1)))) := by
  unfold ltOf tcmp or2 StampM.cmp cmpI
  congr 1
  apply propext
  (repeat' split) <;> omega
theorem tcmp_swo : SWO (ltOf tcmp) where
  irrefl x := by rw [tcmp_lt]; simp
  trans x y z h1 h2 := by rw [tcmp_lt] at *; simp only [decide_eq_true_eq] at *; omega
  ntrans x y z h1 h2 := by rw [tcmp_lt] at *; simp only [decide_eq_false_iff_not] at *; omega
theorem rcmp_lt (a b : Thing) : ltOf (fun a b => tcmp b a) a b = ltOf tcmp b a := rfl
theorem rcmp_swo : SWO (ltOf (fun a b => tcmp b a)) where
  irrefl x := by rw [rcmp_lt]; exact tcmp_swo.irrefl x
  trans x y z h1 h2 := by rw [rcmp_lt] at *; exact tcmp_swo.trans z y x h2 h1
  ntrans x y z h1 h2 := by rw [rcmp_lt] at *; exact tcmp_swo.ntrans z y x h2 h1
end Ytdhcomklmckhoaa
end Go.Proofs
