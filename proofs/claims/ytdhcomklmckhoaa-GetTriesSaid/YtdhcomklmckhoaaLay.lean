/- The layout, stamps and words as the program reckons them. Conditions: the layout is Right, numbers within their bounds. -/
import Derived.Test.YtdhcomklmckhoaaProg
import Derived.Test.YtdhcomklmckhoaaStep
import Derived.Test.YtdhcomklmckhoaaModel
import Derived.WalkKit
import Derived.KernelRfl
import Derived.RowKit3
import Derived.OwnWalk
import Derived.WalkSpells
import Derived.IntWalk
import Derived.Outline
import Derived.Lib.Hide
import Derived.Deep.RegionHeld3
import Derived.Deep.DeepCutAuto
import Derived.Laws.NewBlocks
import Derived.Laws.Bits64b
namespace Go.Proofs.Ytdhcomklmckhoaa
open Go.RowKit Go.SepYtdhcomklmckhoaa
set_option linter.unusedSimpArgs false
set_option linter.unusedVariables false
set_option maxRecDepth 100000
def ConfM.v (c : ConfM) : List Value := [.int .i64 c.th, .int .i64 c.sl, .int .i64 c.src, .int .i64 c.dl]
def StampM.v (s : StampM) : List Value := [.int .i64 s.lo, .int .i64 s.hi]
def WordM.v (w : WordM) : List Value := [.int .i64 w.state, .int .i64 w.fin, .int .i64 w.gen, .int .i64 w.stamp.lo, .int .i64 w.stamp.hi]
/-- A call that only reckons: what it answers. -/
abbrev Tells (f : Nat) (args : Array Value) (w : World) (v : Value) : Prop := Calls Try.prog f args w fun e w' => e = .returned v ∧ Below w.heap.size w w'

theorem w64 {x : Int} (h : -9223372036854775808 ≤ x) (h' : x < 9223372036854775808) : wrap64 x = x := by unfold wrap64; omega
theorem wi {x : Int} (h : -9223372036854775808 ≤ x) (h' : x < 9223372036854775808) : IntKind.i64.wrap x = x := IntWalk.i64_in _ (by omega)
theorem ret_i {k : IntKind} {a b : Int} (h : a = b) : Ending.returned (.int k a) = .returned (.int k b) := by rw [h]
theorem ret_b {a b : Bool} (h : a = b) : Ending.returned (.bool a) = .returned (.bool b) := by rw [h]
/-- A block that was made for an argument, behind a call that only reckons. -/
theorem held_step {w0 w w1 : World} {b : Nat} {l : List Value} (h : (∀ o, w.cell? ⟨b, o, none⟩ = l[o]?) ∧ Below w0.heap.size w0 w ∧ b < w.heap.size) (hb : Below w.heap.size w w1) : (∀ o, w1.cell? ⟨b, o, none⟩ = l[o]?) ∧ Below w0.heap.size w0 w1 ∧ b < w1.heap.size :=
  ⟨fun o => by rw [hb.cell (p := ⟨b, o, none⟩) h.2.2]; exact h.1 o, h.2.1.trans (hb.mono h.2.1.size), Nat.lt_of_lt_of_le h.2.2 hb.size⟩
theorem held_start (w : World) (l : List Value) (t : Nat) : (∀ o, (w.alloc (.cells l.toArray t)).drew.cell? ⟨w.heap.size, o, none⟩ = l[o]?) ∧ Below w.heap.size w (w.alloc (.cells l.toArray t)).drew ∧ w.heap.size < (w.alloc (.cells l.toArray t)).drew.heap.size :=
  ⟨fun o => by show (w.alloc (.cells l.toArray t)).cell? _ = _; rw [World.cell?_alloc_at _ _ _ _ rfl]; simp, ((Below.refl _ _).alloc (Nat.le_refl _) _).drew, by show w.heap.size < (w.alloc (.cells l.toArray t)).heap.size; simp⟩
section
variable (c : ConfM) (w : World)
theorem all_calls (h : c.ok) : Tells 9 #[.agg #[.int .i64 c.th, .int .i64 c.sl, .int .i64 c.src, .int .i64 c.dl]] w (.int .i64 c.all) := by
  have e : wrap64 (c.th * c.sl) = c.all := by
    have := h.all_bd
    unfold ConfM.all at *
    exact w64 (by omega) (by omega)
  have H := Lib.hid e
  clear e h
  go_enter Try.func9, Try.ntmps9
  go_wp2
  go_ret
  exact ⟨ret_i H.out, (Below.refl _ _).alloc (Nat.le_refl _) _⟩
theorem first_calls (h : c.ok) (t : Int) (h0 : 0 ≤ t) (h1 : t < c.th) : Tells 81 #[.agg #[.int .i64 c.th, .int .i64 c.sl, .int .i64 c.src, .int .i64 c.dl], .int .i64 t] w (.int .i64 (c.first t)) := by
  have e : wrap64 (t * c.sl) = c.first t := by
    have := h.all_bd
    have := h.first_bd h0 h1
    have := h.sl1
    unfold ConfM.first at *
    exact w64 (by omega) (by omega)
  have H := Lib.hid e
  clear e h h0 h1
  go_enter Try.func81, Try.ntmps81
  go_wp2
  go_ret
  exact ⟨ret_i H.out, (Below.refl _ _).alloc (Nat.le_refl _) _⟩
theorem word_calls (s : Int) : Tells 23 #[.agg #[.int .i64 c.th, .int .i64 c.sl, .int .i64 c.src, .int .i64 c.dl], .int .i64 s] w (.int .i64 s) := by
  go_enter Try.func23, Try.ntmps23
  go_wp2
  go_ret
  exact ⟨rfl, by first | exact Below.refl _ _ | exact (Below.refl _ _).alloc (Nat.le_refl _) _⟩
theorem value_calls (h : c.ok) (s : Int) (h0 : 0 ≤ s) (h1 : s < c.all) : Tells 14 #[.agg #[.int .i64 c.th, .int .i64 c.sl, .int .i64 c.src, .int .i64 c.dl], .int .i64 s] w (.int .i64 (c.value s)) := by
  have e : wrap64 (c.all + s) = c.value s := by
    have := h.all_bd
    unfold ConfM.value
    exact w64 (by omega) (by omega)
  have H := Lib.hid e
  have C := fun w => Lib.hid (all_calls c w h)
  clear e h h0 h1
  go_enter Try.func14, Try.ntmps14
  go_wp2_with (go_at_call 9; refine (C _).out.mono ?_; rintro e w1 ⟨rfl, hb⟩)
  go_ret
  exact ⟨ret_i H.out, by first | exact hb | exact ((Below.refl _ _).alloc (Nat.le_refl _) _).trans (hb.mono (by simp))⟩
theorem hazard_calls (h : c.ok) (s : Int) (h0 : 0 ≤ s) (h1 : s < c.th) : Tells 21 #[.agg #[.int .i64 c.th, .int .i64 c.sl, .int .i64 c.src, .int .i64 c.dl], .int .i64 s] w (.int .i64 (c.hazard s)) := by
  have e : wrap64 (wrap64 (2 * c.all) + s) = c.hazard s := by
    have := h.all_bd
    have := h.th2
    unfold ConfM.hazard
    rw [w64 (x := 2 * c.all) (by omega) (by omega)]
    exact w64 (by omega) (by omega)
  have H := Lib.hid e
  have C := fun w => Lib.hid (all_calls c w h)
  clear e h h0 h1
  go_enter Try.func21, Try.ntmps21
  go_wp2_with (go_at_call 9; refine (C _).out.mono ?_; rintro e w1 ⟨rfl, hb⟩)
  go_ret
  exact ⟨ret_i H.out, by first | exact hb | exact ((Below.refl _ _).alloc (Nat.le_refl _) _).trans (hb.mono (by simp))⟩
theorem number_calls (h : c.ok) (s : Int) (h0 : 0 ≤ s) (h1 : s < c.th) : Tells 78 #[.agg #[.int .i64 c.th, .int .i64 c.sl, .int .i64 c.src, .int .i64 c.dl], .int .i64 s] w (.int .i64 (c.number s)) := by
  have e : IntKind.i64.wrap (IntKind.i64.wrap (IntKind.i64.wrap (2 * c.all) + c.th) + s) = c.number s := by
    have := h.all_bd
    have := h.th2
    have := h.th1
    unfold ConfM.number
    rw [wi (x := 2 * c.all) (by omega) (by omega), wi (x := 2 * c.all + c.th) (by omega) (by omega)]
    exact wi (by omega) (by omega)
  have H := Lib.hid e
  have C := fun w => Lib.hid (all_calls c w h)
  clear e h h0 h1
  go_enter Try.func78, Try.ntmps78
  go_wp2
  go_region_held3 (fun w' => (∀ o, w'.cell? ⟨w.heap.size, o, none⟩ = [.int .i64 c.th, .int .i64 c.sl, .int .i64 c.src, .int .i64 c.dl][o]?) ∧ Below w.heap.size w w' ∧ w.heap.size < w'.heap.size) (first | exact held_start _ _ _ | exact held_step (by assumption) (by assumption) | go_keep)
    (first | (go_at_call 9; refine (C _).out.mono ?_; rintro e w1 ⟨rfl, hb⟩))
  go_wp2
  go_ret
  rename_i hh
  exact ⟨ret_i H.out, hh.2.1⟩
theorem cellsn_calls (h : c.ok) : Tells 44 #[.agg #[.int .i64 c.th, .int .i64 c.sl, .int .i64 c.src, .int .i64 c.dl]] w (.int .i64 c.cells) := by
  have e : IntKind.i64.wrap (IntKind.i64.wrap (2 * c.all) + IntKind.i64.wrap (2 * c.th)) = c.cells := by
    have := h.all_bd
    have := h.th2
    have := h.th1
    unfold ConfM.cells
    rw [wi (x := 2 * c.all) (by omega) (by omega), wi (x := 2 * c.th) (by omega) (by omega)]
    exact wi (by omega) (by omega)
  have H := Lib.hid e
  have C := fun w => Lib.hid (all_calls c w h)
  clear e h
  go_enter Try.func44, Try.ntmps44
  go_wp2
  go_region_held3 (fun w' => (∀ o, w'.cell? ⟨w.heap.size, o, none⟩ = [.int .i64 c.th, .int .i64 c.sl, .int .i64 c.src, .int .i64 c.dl][o]?) ∧ Below w.heap.size w w' ∧ w.heap.size < w'.heap.size) (first | exact held_start _ _ _ | exact held_step (by assumption) (by assumption) | go_keep)
    (first | (go_at_call 9; refine (C _).out.mono ?_; rintro e w1 ⟨rfl, hb⟩))
  go_wp2
  go_ret
  rename_i hh
  exact ⟨ret_i H.out, hh.2.1⟩
end
end Go.Proofs.Ytdhcomklmckhoaa
