/- The layout, stamps and words as the program reckons them. Conditions: the layout is Right, numbers within their bounds. -/
import Derived.Test.YthlipcejeeoacabProg
import Derived.Test.YthlipcejeeoacabStep
import Derived.Test.YthlipcejeeoacabModel
import Derived.WalkKit
import Derived.KernelRfl
import Derived.RowKit3
import Derived.OwnWalk
import Derived.WalkSpells
import Derived.IntWalk
import Derived.Outline
import Derived.Lib.Hide
import Derived.Deep.RegionHeld3
import Derived.Deep.DeepCutAuto
import Derived.Laws.NewBlocks
import Derived.Laws.Bits64b
namespace Go.Proofs.Ythlipcejeeoacab
open Go.RowKit Go.SepYthlipcejeeoacab
set_option linter.unusedSimpArgs false
set_option linter.unusedVariables false
set_option maxRecDepth 100000
def ConfM.v (c : ConfM) : List Value := [.int .i64 c.th, .int .i64 c.sl, .int .i64 c.src, .int .i64 c.dl]
def StampM.v (s : StampM) : List Value := [.int .i64 s.lo, .int .i64 s.hi]
def WordM.v (w : WordM) : List Value := [.int .i64 w.state, .int .i64 w.fin, .int .i64 w.gen, .int .i64 w.stamp.lo, .int .i64 w.stamp.hi]
/-- A call that only reckons: what it answers. -/
abbrev Tells (f : Nat) (args : Array Value) (w : World) (v : Value) : Prop := Calls Try.prog f args w fun e w' => e = .returned v ∧ Below w.heap.size w w'

theorem w64 {x : Int} (h : -9223372036854775808 ≤ x) (h' : x < 9223372036854775808) : wrap64 x = x := by unfold wrap64; omega
theorem wi {x : Int} (h : -9223372036854775808 ≤ x) (h' : x < 9223372036854775808) : IntKind.i64.wrap x = x := IntWalk.i64_in _ (by omega)
theorem ret_i {k : IntKind} {a b : Int} (h : a = b) : Ending.returned (.int k a) = .returned (.int k b) := by rw [h]
theorem ret_b {a b : Bool} (h : a = b) : Ending.returned (.bool a) = .returned (.bool b) := by rw [h]
/-- A block that was made for an argument, behind a call that only reckons. -/
theorem held_step {w0 w w1 : World} {b : Nat} {l : List Value} (h : (∀ o, w.cell? ⟨b, o, none⟩ = l[o]?) ∧ Below w0.heap.size w0 w ∧ b < w.heap.size) (hb : Below w.heap.size w w1) : (∀ o, w1.cell? ⟨b, o, none⟩ = l[o]?) ∧ Below w0.heap.size w0 w1 ∧ b < w1.heap.size :=
  ⟨fun o => by rw [hb.cell (p := ⟨b, o, none⟩) h.2.2]; exact h.1 o, h.2.1.trans (hb.mono h.2.1.size), Nat.lt_of_lt_of_le h.2.2 hb.size⟩
theorem held_start (w : World) (l : List Value) (t : Nat) : (∀ o, (w.alloc (.cells l.toArray t)).drew.cell? ⟨w.heap.size, o, none⟩ = l[o]?) ∧ Below w.heap.size w (w.alloc (.cells l.toArray t)).drew ∧ w.heap.size < (w.alloc (.cells l.toArray t)).drew.heap.size :=
  ⟨fun o => by show (w.alloc (.cells l.toArray t)).cell? _ = _; rw [World.cell?_alloc_at _ _ _ _ rfl]; simp, ((Below.refl _ _).alloc (Nat.le_refl _) _).drew, by show w.heap.size < (w.alloc (.cells l.toArray t)).heap.size; simp⟩
section
variable (c : ConfM) (w : World)
end
end Go.Proofs.Ythlipcejeeoacab
