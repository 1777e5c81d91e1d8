/- Several texts in one: Mem Lay LayR Word Conf RowG Copy MemN. Each says ahead of it what it shows. -/
import Derived.Test.YtegdhojhnmgjgaaGreatProg
import Derived.Test.YtegdhojhnmgjgaaGreatB1
import Derived.WalkKit
import Derived.KernelRfl
import Derived.RowKit3
import Derived.OwnWalk
import Derived.WalkSpells
import Derived.Outline
import Derived.Laws.NewBlocks
import Derived.Lib.Hide
import Derived.IntWalk
import Derived.Deep.RegionHeld3
import Derived.Deep.DeepCutAuto
import Derived.Laws.Bits64b
import Derived.Laws.BitsLemmas
import Derived.Laws.ResultCell
import Derived.DataReads
import Derived.Laws.MakeOwn
import Derived.Laws.OwnMore
import Derived.Laws.CopyOwn
import Derived.Lib.SliceRun
set_option linter.unusedVariables false
set_option linter.unusedSimpArgs false
/- The cells that are shared (package mem), as a list of numbers and a list of what was noted: what each of its functions does. No condition beyond room for what is noted. -/
namespace Go.Proofs.YtegdhojhnmgjgaaGreat
open Go.RowKit Go.SepYtegdhojhnmgjgaaGreat
set_option maxRecDepth 100000
def Ev.cells (e : Ev) : List Value := [.int .i64 e.who, .int .i64 e.op, .int .i64 e.cell, .int .u64 e.old, .int .u64 e.new, .bool e.ok]
def evCells (l : List Ev) : List Value := l.flatMap Ev.cells
def u64s (l : List Int) : List Value := l.map (Value.int .u64)
/-- The block of a Mem, that of its cells, and the row of what was noted. -/
def memA (b : Nat) (m : MemM) : SA := fun h => m.wf ∧ ∃ (c : Nat) (p : Option Addr) (q r : Nat),
  bag [pt b (.cells #[.slice (some ⟨c, 0, none⟩) m.cells.length m.cells.length, .slice p q r] 98 (0, 0)), pt c (.cells (u64s m.cells).toArray 33 (0, 0)), rowA (.slice p q r) 85 6 m.log.length (evCells m.log)] h
theorem evCells_snoc (l : List Ev) (e : Ev) : evCells (l ++ [e]) = evCells l ++ e.cells := by simp [evCells]

theorem memA_open {E w : World} {L : List SA} {b : Nat} {m : MemM} (h : sat E w (memA b m :: L)) : m.wf ∧ ∃ (c : Nat) (p : Option Addr) (q r : Nat),
    sat E w (pt b (.cells [.slice (some ⟨c, 0, none⟩) m.cells.length m.cells.length, .slice p q r].toArray 98 (0, 0)) :: pt c (.cells (u64s m.cells).toArray 33 (0, 0)) :: rowA (.slice p q r) 85 6 m.log.length (evCells m.log) :: L) := by
  obtain ⟨hw, h⟩ := h.pure
  obtain ⟨c, h⟩ := h.ex
  obtain ⟨p, h⟩ := h.ex
  obtain ⟨q, h⟩ := h.ex
  obtain ⟨r, h⟩ := h.ex
  exact ⟨hw, c, p, q, r, h.unbag⟩
theorem memA_shut {E w : World} {L : List SA} {b : Nat} {m : MemM} {c : Nat} {p : Option Addr} {q r : Nat} (hw : m.wf)
    (h : sat E w (pt b (.cells [.slice (some ⟨c, 0, none⟩) m.cells.length m.cells.length, .slice p q r].toArray 98 (0, 0)) :: pt c (.cells (u64s m.cells).toArray 33 (0, 0)) :: rowA (.slice p q r) 85 6 m.log.length (evCells m.log) :: L)) : sat E w (memA b m :: L) :=
  sat.mkpure hw (sat.mkex c (sat.mkex p (sat.mkex q (sat.mkex r (sat.bag (M := [_, _, _]) h)))))
theorem touch_fin {E w : World} {L : List SA} {b : Nat} {m : MemM} {c : Nat} {p : Option Addr} {q r : Nat} {who op cell old next new : Int} {ok : Bool} (hw : m.wf) (hx : 0 ≤ next ∧ next < 18446744073709551616) (hc : 0 ≤ cell ∧ cell < m.cells.length)
    (hn : new = opNew op (getI m.cells cell) old next) (ho : ok = opOk op (getI m.cells cell) old)
    (h : sat E w (pt b (.cells [.slice (some ⟨c, 0, none⟩) m.cells.length m.cells.length, .slice p q r].toArray 98 (0, 0)) :: pt c (.cells ((u64s m.cells).set cell.toNat (.int .u64 new)).toArray 33 (0, 0)) ::
      rowA (.slice p q r) 85 6 (m.log.length + 1) (evCells m.log ++ [.int .i64 who, .int .i64 op, .int .i64 cell, .int .u64 (getI m.cells cell), .int .u64 new, .bool ok]) :: L)) :
    sat E w (memA b (m.touch who op cell old next) :: L) := by
  subst hn; subst ho
  refine memA_shut (c := c) (p := p) (q := q) (r := r) (MemM.touch_wf hw _ _ _ _ _ hx) ?_
  have e : m.touch who op cell old next = ⟨setI m.cells cell (opNew op (getI m.cells cell) old next), m.log ++ [⟨who, op, cell, getI m.cells cell, opNew op (getI m.cells cell) old next, opOk op (getI m.cells cell) old⟩]⟩ := by
    exact if_pos hc
  rw [e]
  simp only [setI, List.length_set, List.length_append, List.length_cons, List.length_nil, evCells_snoc, u64s, List.map_set]
  exact h
theorem there_calls (b : Nat) (m : MemM) (cell : Int) (E w : World) (L : List SA) (h : sat E w (memA b m :: L)) :
    Calls Tryz.prog 61 #[.pointer (some ⟨b, 0, none⟩), .int .i64 cell] w fun e w' => e = .returned (.bool (decide (0 ≤ cell) && decide (cell < m.cells.length))) ∧ w = w' := by
  obtain ⟨hw, c, p, q, r, h⟩ := memA_open h
  have h0 := h.rd 0 rfl
  clear h
  by_cases c1 : 0 ≤ cell
  · go_enter Tryz.func61, Tryz.ntmps61
    go_wp2
    go_ret
    exact ⟨by simp [c1], rfl⟩
  · go_enter Tryz.func61, Tryz.ntmps61
    go_wp2
    go_ret
    exact ⟨by simp; omega, rfl⟩
theorem evInfo : ∃ q z, Tryz.prog.info? 85 = some q ∧ q.zero = some z ∧ q.size = 6 ∧ q.bytes = 48 ∧ z.cells.size = 6 := ⟨_, _, rfl, rfl, rfl, rfl, rfl⟩
theorem opNew_load (was old next : Int) : opNew 0 was old next = was := rfl
theorem getD_cell {l : List Int} {c : Int} (h0 : 0 ≤ c) (h1 : c < l.length) : (u64s l)[c.toNat]? = some (.int .u64 (getI l c)) := by
  have : c.toNat < l.length := by omega
  simp [u64s, this, getI]

theorem touch_out (b : Nat) (m : MemM) (who op cell old next : Int) (hc : ¬ (0 ≤ cell ∧ cell < m.cells.length)) (E w : World) (L : List SA) (h : sat E w (memA b m :: L)) :
    Calls Tryz.prog 104 #[.pointer (some ⟨b, 0, none⟩), .int .i64 who, .int .i64 op, .int .i64 cell, .int .u64 old, .int .u64 next] w fun e w' => e = .returned (.tuple #[.int .u64 0, .bool false]) ∧ w = w' := by
  have hb : (decide (0 ≤ cell) && decide (cell < m.cells.length)) = false := by simpa using hc
  have H := there_calls b m cell E w L h
  rw [hb] at H
  have HH := Lib.hid H
  clear H hb hc
  go_enter Tryz.func104, Tryz.ntmps104
  go_wp2_with (go_at_call 61; refine HH.out.mono ?_; rintro e w' ⟨rfl, rfl⟩)
  go_ret2
  exact ⟨rfl, rfl⟩

set_option maxHeartbeats 4000000 in
theorem touch_in (b : Nat) (m : MemM) (who op cell old next : Int) (hc : 0 ≤ cell ∧ cell < m.cells.length) (hnx : 0 ≤ next ∧ next < 18446744073709551616) (hroom : m.log.length < 1000000000) (E w : World) (L : List SA) (h : sat E w (memA b m :: L)) :
    Calls Tryz.prog 104 #[.pointer (some ⟨b, 0, none⟩), .int .i64 who, .int .i64 op, .int .i64 cell, .int .u64 old, .int .u64 next] w fun e w' =>
      e = .returned (.tuple #[.int .u64 (getI m.cells cell), .bool (opOk op (getI m.cells cell) old)]) ∧ sat E w' (memA b (m.touch who op cell old next) :: L) := by
  have hb : (decide (0 ≤ cell) && decide (cell < m.cells.length)) = true := by simpa using hc
  have H := there_calls b m cell E w L h
  rw [hb] at H
  have HH := Lib.hid H
  clear H hb
  obtain ⟨hc0, hc1⟩ := hc
  obtain ⟨hw, c, p, q, r, g⟩ := memA_open h
  clear h
  have a0 := g.rd 0 rfl
  have a1 := g.rd 1 rfl cell.toNat
  have a2 := g.fr 1 rfl
  rw [getD_cell hc0 hc1] at a1
  have K := Lib.hid g
  have W := Lib.hid hw
  have X := Lib.hid hnx
  clear g hw hnx
  go_enter Tryz.func104, Tryz.ntmps104
  go_wp2_with (first | (go_at_call 61; refine HH.out.mono ?_; rintro e w' ⟨rfl, rfl⟩) | ((with_reducible refine at_store ?_); refine st_store 1 K.out rfl rfl rfl rfl ?_ ?_ ?_ ?_; (· kernel_rfl); (· show _ + 1 ≤ _; simp [u64s]; omega); (· simp [Value.oneCell']); intro w1 K1; simp only [List.set, putL_one] at K1; have K2 := Lib.hid K1; clear K1 K a0 a1 a2; have K := K2; clear K2; have a0 := K.out.rd 0 rfl; have a2 := K.out.fr 0 rfl) | ((with_reducible refine at_append ?_); refine st_append_new 2 85 6 48 Tryz.underlying39 evInfo K.out rfl rfl rfl rfl ?_ Nat.one_pos ?_ ?_ ?_; (· simp [Value.oneCell']); (· simp only [maxLen]; omega); (· omega); intro p1 n1 c1 w1 K1; simp only [List.set] at K1; have K2 := Lib.hid K1; clear K1 K a0 a2; have K := K2; clear K2; have a0 := K.out.rd 0 rfl; have a2 := K.out.fr 0 rfl) | ((with_reducible refine at_store ?_); refine st_store 0 K.out rfl rfl rfl rfl ?_ ?_ ?_ ?_; (· kernel_rfl); (· simp); (· simp [Value.oneCell']); intro w1 K1; simp only [List.set, putL] at K1; have K2 := Lib.hid K1; clear K1 K a0 a2; have K := K2; clear K2))
  all_goals
    go_ret2
    refine ⟨?_, touch_fin W.out X.out ⟨hc0, hc1⟩ ?_ ?_ K.out⟩
  all_goals simp_all [opNew, opOk, IntKind.wrap_u64]


theorem touch_calls (b : Nat) (m : MemM) (who op cell old next : Int) (hnx : 0 ≤ next ∧ next < 18446744073709551616) (hroom : m.log.length < 1000000000) {E w : World} {L : List SA} (h : sat E w (memA b m :: L)) :
    Calls Tryz.prog 104 #[.pointer (some ⟨b, 0, none⟩), .int .i64 who, .int .i64 op, .int .i64 cell, .int .u64 old, .int .u64 next] w fun e w' =>
      e = .returned (.tuple #[.int .u64 (m.peek cell), .bool (m.okOf op cell old)]) ∧ sat E w' (memA b (m.touch who op cell old next) :: L) := by
  by_cases hc : m.has cell
  · have e1 : m.peek cell = getI m.cells cell := if_pos hc
    have e2 : m.okOf op cell old = opOk op (getI m.cells cell) old := if_pos hc
    rw [e1, e2]
    exact touch_in b m who op cell old next hc hnx hroom E w L h
  · have e1 : m.peek cell = 0 := if_neg hc
    have e2 : m.okOf op cell old = false := if_neg hc
    have e3 : m.touch who op cell old next = m := if_neg hc
    rw [e1, e2, e3]
    exact (touch_out b m who op cell old next hc E w L h).mono fun e w' ⟨he, hw⟩ => ⟨he, hw ▸ h⟩

theorem load_calls (b : Nat) (m : MemM) (who cell : Int) (hroom : m.log.length < 1000000000) {E w : World} {L : List SA} (h : sat E w (memA b m :: L)) :
    Calls Tryz.prog 95 #[.pointer (some ⟨b, 0, none⟩), .int .i64 who, .int .i64 cell] w fun e w' =>
      e = .returned (.int .u64 (m.peek cell)) ∧ sat E w' (memA b (m.touch who 0 cell 0 0) :: L) := by
  have H := Lib.hid h
  clear h
  go_enter Tryz.func95, Tryz.ntmps95
  go_wp2_with (go_at_call 104; refine (touch_calls b m who 0 cell 0 0 (by omega) hroom H.out).mono ?_; rintro e w' ⟨rfl, K⟩)
  go_ret
  exact ⟨rfl, K⟩
theorem store_calls (b : Nat) (m : MemM) (who cell x : Int) (hx : 0 ≤ x ∧ x < 18446744073709551616) (hroom : m.log.length < 1000000000) {E w : World} {L : List SA} (h : sat E w (memA b m :: L)) :
    Calls Tryz.prog 75 #[.pointer (some ⟨b, 0, none⟩), .int .i64 who, .int .i64 cell, .int .u64 x] w fun e w' =>
      e = .returned (.tuple #[]) ∧ sat E w' (memA b (m.touch who 1 cell 0 x) :: L) := by
  have H := Lib.hid h
  have X := Lib.hid hx
  clear h hx
  go_enter Tryz.func75, Tryz.ntmps75
  go_wp2_with (go_at_call 104; refine (touch_calls b m who 1 cell 0 x X.out hroom H.out).mono ?_; rintro e w' ⟨rfl, K⟩)
  go_end0
  exact ⟨rfl, K⟩
theorem swapc_calls (b : Nat) (m : MemM) (who cell old x : Int) (hx : 0 ≤ x ∧ x < 18446744073709551616) (hroom : m.log.length < 1000000000) {E w : World} {L : List SA} (h : sat E w (memA b m :: L)) :
    Calls Tryz.prog 110 #[.pointer (some ⟨b, 0, none⟩), .int .i64 who, .int .i64 cell, .int .u64 old, .int .u64 x] w fun e w' =>
      e = .returned (.bool (m.okOf 2 cell old)) ∧ sat E w' (memA b (m.touch who 2 cell old x) :: L) := by
  have H := Lib.hid h
  have X := Lib.hid hx
  clear h hx
  go_enter Tryz.func110, Tryz.ntmps110
  go_wp2_with (go_at_call 104; refine (touch_calls b m who 2 cell old x X.out hroom H.out).mono ?_; rintro e w' ⟨rfl, K⟩)
  go_ret
  exact ⟨rfl, K⟩
theorem add_calls (b : Nat) (m : MemM) (who cell x : Int) (hx : 0 ≤ x ∧ x < 18446744073709551616) (hroom : m.log.length < 1000000000) {E w : World} {L : List SA} (h : sat E w (memA b m :: L)) :
    Calls Tryz.prog 100 #[.pointer (some ⟨b, 0, none⟩), .int .i64 who, .int .i64 cell, .int .u64 x] w fun e w' =>
      e = .returned (.int .u64 (m.peek cell)) ∧ sat E w' (memA b (m.touch who 3 cell 0 x) :: L) := by
  have H := Lib.hid h
  have X := Lib.hid hx
  clear h hx
  go_enter Tryz.func100, Tryz.ntmps100
  go_wp2_with (go_at_call 104; refine (touch_calls b m who 3 cell 0 x X.out hroom H.out).mono ?_; rintro e w' ⟨rfl, K⟩)
  go_ret
  exact ⟨rfl, K⟩
theorem peek_calls (b : Nat) (m : MemM) (cell : Int) {E w : World} {L : List SA} (h : sat E w (memA b m :: L)) :
    Calls Tryz.prog 32 #[.pointer (some ⟨b, 0, none⟩), .int .i64 cell] w fun e w' => e = .returned (.int .u64 (m.peek cell)) ∧ w = w' := by
  have H := there_calls b m cell E w L h
  by_cases hc : m.has cell
  · have e1 : m.peek cell = getI m.cells cell := if_pos hc
    rw [e1]
    obtain ⟨hc0, hc1⟩ := hc
    rw [show (decide (0 ≤ cell) && decide (cell < m.cells.length)) = true by simp [hc0, hc1]] at H
    have HH := Lib.hid H
    obtain ⟨hw, c, p, q, r, g⟩ := memA_open h
    have a0 := g.rd 0 rfl
    have a1 := g.rd 1 rfl cell.toNat
    rw [getD_cell hc0 hc1] at a1
    clear H h g e1 hw
    go_enter Tryz.func32, Tryz.ntmps32
    go_wp2_with (go_at_call 61; refine HH.out.mono ?_; rintro e w' ⟨rfl, rfl⟩)
    go_ret
    exact ⟨rfl, rfl⟩
  · have e1 : m.peek cell = 0 := if_neg hc
    rw [e1]
    rw [show (decide (0 ≤ cell) && decide (cell < m.cells.length)) = false by simpa [MemM.has] using hc] at H
    have HH := Lib.hid H
    clear H h e1 hc
    go_enter Tryz.func32, Tryz.ntmps32
    go_wp2_with (go_at_call 61; refine HH.out.mono ?_; rintro e w' ⟨rfl, rfl⟩)
    go_ret
    exact ⟨rfl, rfl⟩
end Go.Proofs.YtegdhojhnmgjgaaGreat
/- The layout, stamps and words as the program reckons them. Conditions: the layout is Right, numbers within their bounds. -/
namespace Go.Proofs.YtegdhojhnmgjgaaGreat
open Go.RowKit Go.SepYtegdhojhnmgjgaaGreat
set_option maxRecDepth 100000
def ConfM.v (c : ConfM) : List Value := [.int .i64 c.th, .int .i64 c.sl, .int .i64 c.src, .int .i64 c.dl]
def StampM.v (s : StampM) : List Value := [.int .i64 s.lo, .int .i64 s.hi]
def WordM.v (w : WordM) : List Value := [.int .i64 w.state, .int .i64 w.fin, .int .i64 w.gen, .int .i64 w.stamp.lo, .int .i64 w.stamp.hi]
/-- A call that only reckons: what it answers. -/
abbrev Tells (f : Nat) (args : Array Value) (w : World) (v : Value) : Prop := Calls Tryz.prog f args w fun e w' => e = .returned v ∧ Below w.heap.size w w'

theorem w64 {x : Int} (h : -9223372036854775808 ≤ x) (h' : x < 9223372036854775808) : wrap64 x = x := by unfold wrap64; omega
theorem wi {x : Int} (h : -9223372036854775808 ≤ x) (h' : x < 9223372036854775808) : IntKind.i64.wrap x = x := IntWalk.i64_in _ (by omega)
theorem ret_i {k : IntKind} {a b : Int} (h : a = b) : Ending.returned (.int k a) = .returned (.int k b) := by rw [h]
theorem ret_b {a b : Bool} (h : a = b) : Ending.returned (.bool a) = .returned (.bool b) := by rw [h]
/-- A block that was made for an argument, behind a call that only reckons. -/
theorem held_step {w0 w w1 : World} {b : Nat} {l : List Value} (h : (∀ o, w.cell? ⟨b, o, none⟩ = l[o]?) ∧ Below w0.heap.size w0 w ∧ b < w.heap.size) (hb : Below w.heap.size w w1) : (∀ o, w1.cell? ⟨b, o, none⟩ = l[o]?) ∧ Below w0.heap.size w0 w1 ∧ b < w1.heap.size :=
  ⟨fun o => by rw [hb.cell (p := ⟨b, o, none⟩) h.2.2]; exact h.1 o, h.2.1.trans (hb.mono h.2.1.size), Nat.lt_of_lt_of_le h.2.2 hb.size⟩
theorem held_start (w : World) (l : List Value) (t : Nat) : (∀ o, (w.alloc (.cells l.toArray t)).drew.cell? ⟨w.heap.size, o, none⟩ = l[o]?) ∧ Below w.heap.size w (w.alloc (.cells l.toArray t)).drew ∧ w.heap.size < (w.alloc (.cells l.toArray t)).drew.heap.size :=
  ⟨fun o => by show (w.alloc (.cells l.toArray t)).cell? _ = _; rw [World.cell?_alloc_at _ _ _ _ rfl]; simp, ((Below.refl _ _).alloc (Nat.le_refl _) _).drew, by show w.heap.size < (w.alloc (.cells l.toArray t)).heap.size; simp⟩
section
variable (c : ConfM) (w : World)
theorem all_calls (h : c.ok) : Tells 31 #[.agg #[.int .i64 c.th, .int .i64 c.sl, .int .i64 c.src, .int .i64 c.dl]] w (.int .i64 c.all) := by
  have e : wrap64 (c.th * c.sl) = c.all := by
    have := h.all_bd
    unfold ConfM.all at *
    exact w64 (by omega) (by omega)
  have H := Lib.hid e
  clear e h
  go_enter Tryz.func31, Tryz.ntmps31
  go_wp2
  go_ret
  exact ⟨ret_i H.out, (Below.refl _ _).alloc (Nat.le_refl _) _⟩
theorem first_calls (h : c.ok) (t : Int) (h0 : 0 ≤ t) (h1 : t < c.th) : Tells 105 #[.agg #[.int .i64 c.th, .int .i64 c.sl, .int .i64 c.src, .int .i64 c.dl], .int .i64 t] w (.int .i64 (c.first t)) := by
  have e : wrap64 (t * c.sl) = c.first t := by
    have := h.all_bd
    have := h.first_bd h0 h1
    have := h.sl1
    unfold ConfM.first at *
    exact w64 (by omega) (by omega)
  have H := Lib.hid e
  clear e h h0 h1
  go_enter Tryz.func105, Tryz.ntmps105
  go_wp2
  go_ret
  exact ⟨ret_i H.out, (Below.refl _ _).alloc (Nat.le_refl _) _⟩
theorem word_calls (s : Int) : Tells 33 #[.agg #[.int .i64 c.th, .int .i64 c.sl, .int .i64 c.src, .int .i64 c.dl], .int .i64 s] w (.int .i64 s) := by
  go_enter Tryz.func33, Tryz.ntmps33
  go_wp2
  go_ret
  exact ⟨rfl, by first | exact Below.refl _ _ | exact (Below.refl _ _).alloc (Nat.le_refl _) _⟩
theorem value_calls (h : c.ok) (s : Int) (h0 : 0 ≤ s) (h1 : s < c.all) : Tells 34 #[.agg #[.int .i64 c.th, .int .i64 c.sl, .int .i64 c.src, .int .i64 c.dl], .int .i64 s] w (.int .i64 (c.value s)) := by
  have e : wrap64 (c.all + s) = c.value s := by
    have := h.all_bd
    unfold ConfM.value
    exact w64 (by omega) (by omega)
  have H := Lib.hid e
  have C := fun w => Lib.hid (all_calls c w h)
  clear e h h0 h1
  go_enter Tryz.func34, Tryz.ntmps34
  go_wp2_with (go_at_call 31; refine (C _).out.mono ?_; rintro e w1 ⟨rfl, hb⟩)
  go_ret
  exact ⟨ret_i H.out, by first | exact hb | exact ((Below.refl _ _).alloc (Nat.le_refl _) _).trans (hb.mono (by simp))⟩
theorem hazard_calls (h : c.ok) (s : Int) (h0 : 0 ≤ s) (h1 : s < c.th) : Tells 96 #[.agg #[.int .i64 c.th, .int .i64 c.sl, .int .i64 c.src, .int .i64 c.dl], .int .i64 s] w (.int .i64 (c.hazard s)) := by
  have e : wrap64 (wrap64 (2 * c.all) + s) = c.hazard s := by
    have := h.all_bd
    have := h.th2
    unfold ConfM.hazard
    rw [w64 (x := 2 * c.all) (by omega) (by omega)]
    exact w64 (by omega) (by omega)
  have H := Lib.hid e
  have C := fun w => Lib.hid (all_calls c w h)
  clear e h h0 h1
  go_enter Tryz.func96, Tryz.ntmps96
  go_wp2_with (go_at_call 31; refine (C _).out.mono ?_; rintro e w1 ⟨rfl, hb⟩)
  go_ret
  exact ⟨ret_i H.out, by first | exact hb | exact ((Below.refl _ _).alloc (Nat.le_refl _) _).trans (hb.mono (by simp))⟩
theorem number_calls (h : c.ok) (s : Int) (h0 : 0 ≤ s) (h1 : s < c.th) : Tells 101 #[.agg #[.int .i64 c.th, .int .i64 c.sl, .int .i64 c.src, .int .i64 c.dl], .int .i64 s] w (.int .i64 (c.number s)) := by
  have e : IntKind.i64.wrap (IntKind.i64.wrap (IntKind.i64.wrap (2 * c.all) + c.th) + s) = c.number s := by
    have := h.all_bd
    have := h.th2
    have := h.th1
    unfold ConfM.number
    rw [wi (x := 2 * c.all) (by omega) (by omega), wi (x := 2 * c.all + c.th) (by omega) (by omega)]
    exact wi (by omega) (by omega)
  have H := Lib.hid e
  have C := fun w => Lib.hid (all_calls c w h)
  clear e h h0 h1
  go_enter Tryz.func101, Tryz.ntmps101
  go_wp2
  go_region_held3 (fun w' => (∀ o, w'.cell? ⟨w.heap.size, o, none⟩ = [.int .i64 c.th, .int .i64 c.sl, .int .i64 c.src, .int .i64 c.dl][o]?) ∧ Below w.heap.size w w' ∧ w.heap.size < w'.heap.size) (first | exact held_start _ _ _ | exact held_step (by assumption) (by assumption) | go_keep)
    (first | (go_at_call 31; refine (C _).out.mono ?_; rintro e w1 ⟨rfl, hb⟩))
  go_wp2
  go_ret
  rename_i hh
  exact ⟨ret_i H.out, hh.2.1⟩
theorem cellsn_calls (h : c.ok) : Tells 18 #[.agg #[.int .i64 c.th, .int .i64 c.sl, .int .i64 c.src, .int .i64 c.dl]] w (.int .i64 c.cells) := by
  have e : IntKind.i64.wrap (IntKind.i64.wrap (2 * c.all) + IntKind.i64.wrap (2 * c.th)) = c.cells := by
    have := h.all_bd
    have := h.th2
    have := h.th1
    unfold ConfM.cells
    rw [wi (x := 2 * c.all) (by omega) (by omega), wi (x := 2 * c.th) (by omega) (by omega)]
    exact wi (by omega) (by omega)
  have H := Lib.hid e
  have C := fun w => Lib.hid (all_calls c w h)
  clear e h
  go_enter Tryz.func18, Tryz.ntmps18
  go_wp2
  go_region_held3 (fun w' => (∀ o, w'.cell? ⟨w.heap.size, o, none⟩ = [.int .i64 c.th, .int .i64 c.sl, .int .i64 c.src, .int .i64 c.dl][o]?) ∧ Below w.heap.size w w' ∧ w.heap.size < w'.heap.size) (first | exact held_start _ _ _ | exact held_step (by assumption) (by assumption) | go_keep)
    (first | (go_at_call 31; refine (C _).out.mono ?_; rintro e w1 ⟨rfl, hb⟩))
  go_wp2
  go_ret
  rename_i hh
  exact ⟨ret_i H.out, hh.2.1⟩
end
end Go.Proofs.YtegdhojhnmgjgaaGreat
/- Whether a layout is Right, as the program reckons it. No condition. -/
namespace Go.Proofs.YtegdhojhnmgjgaaGreat
open Go.RowKit Go.SepYtegdhojhnmgjgaaGreat
set_option maxRecDepth 100000
section
variable (c : ConfM) (w : World)
theorem right_calls : Tells 35 #[.agg #[.int .i64 c.th, .int .i64 c.sl, .int .i64 c.src, .int .i64 c.dl]] w (.bool c.right) := by
  unfold ConfM.right
  by_cases h1 : 1 ≤ c.th
  · by_cases h2 : c.th ≤ 64
    · by_cases h3 : 1 ≤ c.sl
      · by_cases h4 : c.sl ≤ 64
        · by_cases h5 : 0 ≤ c.src
          · by_cases h6 : c.src ≤ 4
            · by_cases h7 : 0 ≤ c.dl
              all_goals
                go_enter Tryz.func35, Tryz.ntmps35
                go_wp2
                go_ret
                exact ⟨ret_b (by (simp [*]) <;> (intros; omega)), (Below.refl _ _).alloc (Nat.le_refl _) _⟩
            · go_enter Tryz.func35, Tryz.ntmps35
              go_wp2
              go_ret
              exact ⟨ret_b (by (simp [*]) <;> (intros; omega)), (Below.refl _ _).alloc (Nat.le_refl _) _⟩
          · go_enter Tryz.func35, Tryz.ntmps35
            go_wp2
            go_ret
            exact ⟨ret_b (by (simp [*]) <;> (intros; omega)), (Below.refl _ _).alloc (Nat.le_refl _) _⟩
        · go_enter Tryz.func35, Tryz.ntmps35
          go_wp2
          go_ret
          exact ⟨ret_b (by (simp [*]) <;> (intros; omega)), (Below.refl _ _).alloc (Nat.le_refl _) _⟩
      · go_enter Tryz.func35, Tryz.ntmps35
        go_wp2
        go_ret
        exact ⟨ret_b (by (simp [*]) <;> (intros; omega)), (Below.refl _ _).alloc (Nat.le_refl _) _⟩
    · go_enter Tryz.func35, Tryz.ntmps35
      go_wp2
      go_ret
      exact ⟨ret_b (by (simp [*]) <;> (intros; omega)), (Below.refl _ _).alloc (Nat.le_refl _) _⟩
  · go_enter Tryz.func35, Tryz.ntmps35
    go_wp2
    go_ret
    exact ⟨ret_b (by (simp [*]) <;> (intros; omega)), (Below.refl _ _).alloc (Nat.le_refl _) _⟩
end
end Go.Proofs.YtegdhojhnmgjgaaGreat
/- Stamps and words as the program reckons them. Conditions: numbers within their kinds. -/
namespace Go.Proofs.YtegdhojhnmgjgaaGreat
open Go.RowKit Go.SepYtegdhojhnmgjgaaGreat
set_option maxRecDepth 100000
theorem and_mask (i : Nat) (hi : i ≤ 64) (x : Int) (h0 : 0 ≤ x) (h1 : x < 18446744073709551616) : bits .and .u64 x (2 ^ i - 1) = x % 2 ^ i :=
  bits_mask .u64 64 (by decide) (fun n h h' => by rw [IntKind.wrap_u64]; omega) i hi x h0 (by simpa using h1)
theorem unpack_calls (x : Int) (h0 : 0 ≤ x) (h1 : x < 18446744073709551616) (w : World) : Tells 91 #[.int .u64 x] w (.agg (unpack x).v.toArray) := by
  have e1 : wrap64 (bits .and .u64 x 3) = x % 4 := by rw [show (3 : Int) = 2 ^ 2 - 1 from rfl, and_mask 2 (by omega) x h0 h1]; exact w64 (by omega) (by omega)
  have e2 : wrap64 (bits .and .u64 (x / 4) 1) = x / 4 % 2 := by rw [show (1 : Int) = 2 ^ 1 - 1 from rfl, and_mask 1 (by omega) _ (by omega) (by omega)]; exact w64 (by omega) (by omega)
  have e3 : wrap64 (bits .and .u64 (x / 8) 8191) = x / 8 % 8192 := by rw [show (8191 : Int) = 2 ^ 13 - 1 from rfl, and_mask 13 (by omega) _ (by omega) (by omega)]; exact w64 (by omega) (by omega)
  have e4 : wrap64 (bits .and .u64 (x / 65536) 16777215) = x / 65536 % 16777216 := by rw [show (16777215 : Int) = 2 ^ 24 - 1 from rfl, and_mask 24 (by omega) _ (by omega) (by omega)]; exact w64 (by omega) (by omega)
  have e5 : wrap64 (bits .and .u64 (x / 1099511627776) 16777215) = x / 1099511627776 % 16777216 := by rw [show (16777215 : Int) = 2 ^ 24 - 1 from rfl, and_mask 24 (by omega) _ (by omega) (by omega)]; exact w64 (by omega) (by omega)
  have H := Lib.hid (And.intro e1 (And.intro e2 (And.intro e3 (And.intro e4 e5))))
  clear e1 e2 e3 e4 e5
  go_enter Tryz.func91, Tryz.ntmps91
  go_wp2
  obtain ⟨e1, e2, e3, e4, e5⟩ := H.out
  exact bodyPost_ret (v := .agg (unpack x).v.toArray) (by simp [results, Tryz.results91, go_sem, e1, e2, e3, e4, e5, unpack, WordM.v]) rfl ⟨rfl, (Below.refl _ _).alloc (Nat.le_refl _) _⟩
theorem wright_calls (x : WordM) (w : World) : Tells 86 #[.agg #[.int .i64 x.state, .int .i64 x.fin, .int .i64 x.gen, .int .i64 x.stamp.lo, .int .i64 x.stamp.hi]] w (.bool x.right) := by
  unfold WordM.right
  go_enter Tryz.func86, Tryz.ntmps86
  go_wp2
  all_goals
    go_ret
    exact ⟨ret_b (by simp_all [Top] <;> omega), (Below.refl _ _).alloc (Nat.le_refl _) _⟩
theorem or_add (i : Nat) (hi : i ≤ 64) (x y : Int) (hx : 0 ≤ x ∧ x < 2 ^ i) (hy : 0 ≤ y) (hd : y % 2 ^ i = 0) (h : x < 18446744073709551616 ∧ y < 18446744073709551616) : bits .or .u64 x y = x + y := by
  have hc : bits .or .u64 x y = bits .or .u64 y x := by simp only [bits, BitVec.or_comm]
  rw [hc, bits_join .u64 64 (by decide) (fun n h h' => by rw [IntKind.wrap_u64]; omega) i y x hy hd (by simpa using h.2) hx.1 hx.2 (by simpa using h.1), Int.add_comm]
theorem wordR {x : WordM} (h : x.right = true) : 0 ≤ x.state ∧ x.state ≤ 2 ∧ 0 ≤ x.fin ∧ x.fin ≤ 1 ∧ 0 ≤ x.gen ∧ x.gen ≤ 8191 ∧ 0 ≤ x.stamp.lo ∧ x.stamp.lo ≤ 16777215 ∧ 0 ≤ x.stamp.hi ∧ x.stamp.hi ≤ 16777215 := by
  simp only [WordM.right, Top, Bool.and_eq_true, Bool.or_eq_true, decide_eq_true_eq] at h
  omega
theorem pack_sum (x : WordM) (h : x.right = true) : bits .or .u64 (bits .or .u64 (bits .or .u64 (bits .or .u64 (IntKind.u64.wrap x.state) (IntKind.u64.wrap (IntKind.u64.wrap x.fin * 4))) (IntKind.u64.wrap (IntKind.u64.wrap x.gen * 8)))
    (IntKind.u64.wrap (IntKind.u64.wrap x.stamp.lo * 65536))) (IntKind.u64.wrap (IntKind.u64.wrap x.stamp.hi * 1099511627776)) = x.pack := by
  have hr := wordR h
  simp only [WordM.pack, h, if_true, IntKind.wrap_u64]
  rw [Int.emod_eq_of_lt (a := x.state) (by omega) (by omega), Int.emod_eq_of_lt (a := x.fin) (by omega) (by omega), Int.emod_eq_of_lt (a := x.gen) (by omega) (by omega), Int.emod_eq_of_lt (a := x.stamp.lo) (by omega) (by omega), Int.emod_eq_of_lt (a := x.stamp.hi) (by omega) (by omega)]
  rw [Int.emod_eq_of_lt (a := x.fin * 4) (by omega) (by omega), Int.emod_eq_of_lt (a := x.gen * 8) (by omega) (by omega), Int.emod_eq_of_lt (a := x.stamp.lo * 65536) (by omega) (by omega), Int.emod_eq_of_lt (a := x.stamp.hi * 1099511627776) (by omega) (by omega)]
  rw [or_add 2 (by omega) x.state (x.fin * 4) (by omega) (by omega) (by omega) (by omega), or_add 3 (by omega) (x.state + x.fin * 4) (x.gen * 8) (by omega) (by omega) (by omega) (by omega),
    or_add 16 (by omega) (x.state + x.fin * 4 + x.gen * 8) (x.stamp.lo * 65536) (by omega) (by omega) (by omega) (by omega), or_add 40 (by omega) _ (x.stamp.hi * 1099511627776) (by omega) (by omega) (by omega) (by omega)]
theorem pack_calls (x : WordM) (w : World) : Tells 64 #[.agg #[.int .i64 x.state, .int .i64 x.fin, .int .i64 x.gen, .int .i64 x.stamp.lo, .int .i64 x.stamp.hi]] w (.int .u64 x.pack) := by
  have C := fun w => Lib.hid (wright_calls x w)
  cases hr : x.right with
  | false =>
    rw [hr] at C
    have e : x.pack = 0 := by simp [WordM.pack, hr]
    rw [e]
    clear e hr
    go_enter Tryz.func64, Tryz.ntmps64
    go_wp2_with (go_at_call 86; refine (C _).out.mono ?_; rintro e w1 ⟨rfl, hb⟩)
    go_ret
    exact ⟨rfl, ((Below.refl _ _).alloc (Nat.le_refl _) _).trans (hb.mono (by simp))⟩
  | true =>
    rw [hr] at C
    go_enter Tryz.func64, Tryz.ntmps64
    go_wp2_with (go_at_call 86; refine (C _).out.mono ?_; rintro e w1 ⟨rfl, hb⟩; have hc := (fun o => hb.cell (p := ⟨w.heap.size, o, none⟩) (by simp) : ∀ o, w1.cell? ⟨w.heap.size, o, none⟩ = _))
    go_ret
    exact ⟨ret_i (pack_sum x hr), ((Below.refl _ _).alloc (Nat.le_refl _) _).trans (hb.mono (by simp))⟩
theorem sright_calls (x : StampM) (w : World) : Tells 92 #[.agg #[.int .i64 x.lo, .int .i64 x.hi]] w (.bool x.right) := by
  unfold StampM.right
  go_enter Tryz.func92, Tryz.ntmps92
  go_wp2
  all_goals
    go_ret
    exact ⟨ret_b (by simp_all [Top] <;> omega), (Below.refl _ _).alloc (Nat.le_refl _) _⟩
theorem taken_calls (x : WordM) (w : World) : Tells 111 #[.agg #[.int .i64 x.state, .int .i64 x.fin, .int .i64 x.gen, .int .i64 x.stamp.lo, .int .i64 x.stamp.hi]] w (.agg x.taken.v.toArray) := by
  go_enter Tryz.func111, Tryz.ntmps111
  go_wp2
  refine bodyPost_ret (v := .agg x.taken.v.toArray) (by simp [results, Tryz.results111, go_sem, WordM.taken, WordM.v]) rfl ⟨rfl, ?_⟩
  exact ((Below.refl _ _).alloc (Nat.le_refl _) _).alloc (by simp) _
theorem next_calls (x : WordM) (e : Int) (s : StampM) (hg : 0 ≤ x.gen ∧ x.gen ≤ 100000) (w : World) : Tells 78 #[.agg #[.int .i64 x.state, .int .i64 x.fin, .int .i64 x.gen, .int .i64 x.stamp.lo, .int .i64 x.stamp.hi], .int .i64 e, .agg #[.int .i64 s.lo, .int .i64 s.hi]] w (.agg (x.next e s).v.toArray) := by
  obtain ⟨hg0, hg1⟩ := hg
  go_enter Tryz.func78, Tryz.ntmps78
  go_wp2
  refine bodyPost_ret (v := .agg (x.next e s).v.toArray) (by simp [results, Tryz.results78, go_sem, WordM.next, WordM.v]) rfl ⟨rfl, ?_⟩
  exact (((Below.refl _ _).alloc (Nat.le_refl _) _).alloc (by simp) _).alloc (by simp; omega) _
end Go.Proofs.YtegdhojhnmgjgaaGreat
/- A layout as the statements make it, and rows of an argument as they lie in memory. Plain lemmas; no condition. -/
namespace Go.Proofs.YtegdhojhnmgjgaaGreat
open Go.RowKit Go.SepYtegdhojhnmgjgaaGreat
set_option maxRecDepth 100000
set_option maxHeartbeats 4000000
theorem andp (k : Nat) (hk : k ≤ 60) (n : Int) : bits .and .i64 n (2 ^ k - 1) = n % 2 ^ k := by
  have hp : (2 : Nat) ^ k ≤ 2 ^ 60 := Nat.pow_le_pow_right (by omega) hk
  have hp1 : 1 ≤ (2 : Nat) ^ k := Nat.one_le_two_pow
  have hc : ((2 : Int) ^ k) = ((2 ^ k : Nat) : Int) := by rw [Int.natCast_pow]; rfl
  have h : (BitVec.ofInt 64 (2 ^ k - 1)).toNat = 2 ^ k - 1 := by
    rw [BitVec.toNat_ofInt, hc]
    omega
  have key : (BitVec.ofInt 64 n &&& BitVec.ofInt 64 (2 ^ k - 1)).toNat = (n % ((2 ^ 64 : Nat) : Int)).toNat % 2 ^ k := by
    rw [BitVec.toNat_and, BitVec.toNat_ofInt, h, Nat.and_two_pow_sub_one_eq_mod]
  show IntKind.i64.wrap ((BitVec.ofInt 64 n &&& BitVec.ofInt 64 (2 ^ k - 1)).toNat : Nat) = n % 2 ^ k
  rw [key, IntKind.wrap_i64, hc]
  have hd : (2 ^ k : Nat) ∣ 2 ^ 64 := Nat.pow_dvd_pow 2 (by omega)
  have e1 : (((n % ((2 ^ 64 : Nat) : Int)).toNat % 2 ^ k : Nat) : Int) = n % ((2 ^ k : Nat) : Int) := by
    rw [Int.natCast_emod, Int.toNat_of_nonneg (Int.emod_nonneg _ (by decide))]
    exact Int.emod_emod_of_dvd _ (Int.natCast_dvd_natCast.2 hd)
  rw [e1]
  have b1 : 0 ≤ n % ((2 ^ k : Nat) : Int) := Int.emod_nonneg _ (by omega)
  have b2 : n % ((2 ^ k : Nat) : Int) < ((2 ^ k : Nat) : Int) := Int.emod_lt_of_pos _ (by omega)
  have b3 : ((2 ^ k : Nat) : Int) ≤ ((2 ^ 60 : Nat) : Int) := Int.ofNat_le.2 hp
  have b4 : ((2 ^ 60 : Nat) : Int) = 1152921504606846976 := by decide
  omega
theorem and3 (n : Int) : bits .and .i64 n 3 = n % 4 := andp 2 (by decide) n
theorem and7 (n : Int) : bits .and .i64 n 7 = n % 8 := andp 3 (by decide) n
theorem and15 (n : Int) : bits .and .i64 n 15 = n % 16 := andp 4 (by decide) n
theorem and16 (n : Int) : bits .and .i64 n 65535 = n % 65536 := andp 16 (by decide) n
/-- A layout, right and small. -/
def confS (t s r d : Int) : ConfM := ⟨1 + t % 4, 1 + s % 4, r % 18446744073709551616 % 5, d % 4⟩
theorem confS_ok (t s r d : Int) : (confS t s r d).ok := by
  constructor <;> (unfold confS; dsimp only; omega)
theorem confS_small (t s r d : Int) : (confS t s r d).th ≤ 4 ∧ (confS t s r d).sl ≤ 4 ∧ (confS t s r d).dl ≤ 3 := by
  unfold confS; dsimp only; omega
theorem conf_calls (t s r d : Int) (w : World) : Tells 10 #[.int .i64 t, .int .i64 s, .int .i64 r, .int .i64 d] w (.agg #[.int .i64 (confS t s r d).th, .int .i64 (confS t s r d).sl, .int .i64 (confS t s r d).src, .int .i64 (confS t s r d).dl]) := by
  have e1 := and3 t
  have e2 := and3 s
  have e3 := and3 d
  have f1 : wrap64 (1 + t % 4) = 1 + t % 4 := w64 (by omega) (by omega)
  have f2 : wrap64 (1 + s % 4) = 1 + s % 4 := w64 (by omega) (by omega)
  have g1 : IntKind.u64.wrap r = r % 18446744073709551616 := by rw [IntKind.wrap_u64]
  have g2 : wrap64 (r % 18446744073709551616 % 5) = r % 18446744073709551616 % 5 := w64 (by omega) (by omega)
  have H := Lib.hid (And.intro e1 (And.intro e2 (And.intro e3 (And.intro f1 (And.intro f2 (And.intro g1 g2))))))
  clear e1 e2 e3 f1 f2 g1 g2
  have K := Lib.hid (sat.start w)
  go_enter Tryz.func10, Tryz.ntmps10
  go_wp2
  obtain ⟨e1, e2, e3, f1, f2, g1, g2⟩ := H.out
  have g0 : (r % 18446744073709551616).tmod 5 = r % 18446744073709551616 % 5 := Int.tmod_eq_emod_of_nonneg (by omega)
  exact bodyPost_ret (v := .agg #[.int .i64 (confS t s r d).th, .int .i64 (confS t s r d).sl, .int .i64 (confS t s r d).src, .int .i64 (confS t s r d).dl]) (by simp [results, Tryz.results10, go_sem, confS, e1, e2, e3, f1, f2, g0, g1, g2]) rfl ⟨rfl, (K.out.alloc_any _).below⟩
/-- The elements of a slice, in memory that was there. -/
def OldS {α : Type} (V : α → List Value) (size : Nat) (w : World) (p : Option Addr) (l : List α) : Prop := ∀ j, (hj : j < l.length) → ∃ b off, p = some ⟨b, off, none⟩ ∧ b < w.heap.size ∧ ∀ i u, (V l[j])[i]? = some u → w.cell? ⟨b, off + j * size + i, none⟩ = some u
theorem OldS.grown {α : Type} {V : α → List Value} {size : Nat} {w w' : World} {p : Option Addr} {l : List α} (h : OldS V size w p l) (b : Below w.heap.size w w') : OldS V size w' p l := fun j hj => by
  obtain ⟨c, off, h1, h2, h3⟩ := h j hj
  exact ⟨c, off, h1, Nat.lt_of_lt_of_le h2 b.size, fun i u hi => (b.cell (p := ⟨c, off + j * size + i, none⟩) h2).trans (h3 i u hi)⟩
theorem oldS_of {α : Type} (V : α → List Value) (wf : α → Prop) {ks : List FK} {W : World} {a : Option Addr} {len cap : Nat} {rows : List (List Value)} (h : RowsAt W ks a len cap rows)
    (hV : ∀ r, okAll ks r → ∃ v, r = V v ∧ wf v) (h0 : ∀ v, ∃ u, (V v)[0]? = some u) : ∃ l : List α, l.length = len ∧ (∀ e ∈ l, wf e) ∧ OldS V ks.length W a l := by
  have hw : ∃ l : List α, rows = l.map V ∧ ∀ v ∈ l, wf v := by
    have key : ∀ rs : List (List Value), (∀ r ∈ rs, ∃ v : α, r = V v ∧ wf v) → ∃ l : List α, rs = l.map V ∧ ∀ v ∈ l, wf v := by
      intro rs
      induction rs with
      | nil => exact fun _ => ⟨[], rfl, by simp⟩
      | cons r rs ih =>
        intro hr
        obtain ⟨v, rfl, hn⟩ := hr r List.mem_cons_self
        obtain ⟨ws, rfl, hws⟩ := ih (fun r h => hr r (List.mem_cons_of_mem _ h))
        refine ⟨v :: ws, rfl, fun x hx => ?_⟩
        rcases List.mem_cons.1 hx with rfl | hx
        · exact hn
        · exact hws x hx
    exact key rows (fun r hr => hV r (h.ok r hr))
  obtain ⟨l, rfl, hwf⟩ := hw
  have hlen : l.length = len := by simpa using h.length
  refine ⟨l, hlen, hwf, fun j hj => ?_⟩
  cases a with
  | none => have := h.nil rfl; omega
  | some x =>
    have hc : ∀ i, (hi : i < l.length) → ∀ k u, (V l[i])[k]? = some u → W.cell? (x.add (i * ks.length + k)) = some u := fun i hi k u hu =>
      h.cell x rfl i k u (V l[i]) (by rw [List.getElem?_map, List.getElem?_eq_getElem hi]; rfl) hu
    obtain ⟨u0, hu0⟩ := h0 l[0]
    have h0 := hc 0 (by omega) 0 _ hu0
    have hs : x.spot = none := World.cell?_spot (by simpa [Addr.add] using h0)
    obtain ⟨b, o, sp⟩ := x
    simp only at hs
    subst hs
    have hj' := hc j hj
    refine ⟨b, o, rfl, ?_, fun i u hi => ?_⟩
    · rw [Addr.add_lit] at h0
      rcases Nat.lt_or_ge b W.heap.size with h | h
      · exact h
      · simp [World.cell?, Array.getElem?_eq_none h] at h0
    · have := hj' i u hi
      rw [Addr.add_lit] at this
      rw [Nat.add_assoc]
      exact this
theorem lit_u64 {i : Int} (h : (Lit.int .u64 i).wf = true) : 0 ≤ i ∧ i < 18446744073709551616 := by
  have e1 : IntKind.u64.min = 0 := by decide
  have e2 : IntKind.u64.max = 18446744073709551615 := by decide
  simp only [Lit.wf, Bool.and_eq_true, decide_eq_true_eq] at h
  omega
theorem lit_i64 {i : Int} (h : (Lit.int .i64 i).wf = true) : -9223372036854775808 ≤ i ∧ i < 9223372036854775808 := by
  have e1 : IntKind.i64.min = -9223372036854775808 := by decide
  have e2 : IntKind.i64.max = 9223372036854775807 := by decide
  simp only [Lit.wf, Bool.and_eq_true, decide_eq_true_eq] at h
  omega
end Go.Proofs.YtegdhojhnmgjgaaGreat
/- Rows of structs of one's own, whatever the struct, and copies of such. Plain lemmas; no condition. -/
namespace Go.Proofs.YtegdhojhnmgjgaaGreat
open Go.RowKit Go.SepYtegdhojhnmgjgaaGreat
section
variable {α : Type} {V : α → List Value} {k : Nat}
theorem fm_len (hk : ∀ x, (V x).length = k) : ∀ l : List α, (l.flatMap V).length = l.length * k
  | [] => by simp
  | e :: l => by rw [List.flatMap_cons, List.length_append, fm_len hk l, hk, List.length_cons, Nat.add_mul, Nat.one_mul, Nat.add_comm]
theorem fm_at (hk : ∀ x, (V x).length = k) : ∀ (l : List α) (n : Nat) (h : n < l.length) (i : Nat), i < k → (l.flatMap V)[n * k + i]? = (V l[n])[i]?
  | [], n, h, _, _ => by simp at h
  | e :: l, 0, _, i, hi => by
    rw [List.flatMap_cons, Nat.zero_mul, Nat.zero_add, List.getElem?_append_left (by rw [hk]; exact hi)]
    rfl
  | e :: l, n + 1, h, i, hi => by
    rw [List.flatMap_cons, List.getElem?_append_right (by rw [hk, Nat.add_mul]; omega), hk]
    have := fm_at hk l n (by simpa using h) i hi
    simp only [List.getElem_cons_succ]
    rw [← this]
    congr 1
    rw [Nat.add_mul]
    omega
theorem fm_one (h1 : ∀ x, ∀ u ∈ V x, u.oneCell' = true) (l : List α) : ∀ u ∈ l.flatMap V, u.oneCell' = true := by
  intro u hu
  obtain ⟨e, _, he⟩ := List.mem_flatMap.1 hu
  exact h1 e u he
theorem fm_mod (hk : ∀ x, (V x).length = k) (h0 : 0 < k) (l : List α) (j : Nat) (u : Value) (h : (l.flatMap V)[j]? = some u) : ∃ n i, ∃ hn : n < l.length, j = n * k + i ∧ i < k ∧ (V l[n])[i]? = some u := by
  have hj : j < (l.flatMap V).length := by
    rcases Nat.lt_or_ge j (l.flatMap V).length with h' | h'
    · exact h'
    · simp [List.getElem?_eq_none h'] at h
  rw [fm_len hk] at hj
  have hn : j / k < l.length := Nat.div_lt_of_lt_mul (by rwa [Nat.mul_comm])
  have hm : j % k < k := Nat.mod_lt _ h0
  have hd : j / k * k + j % k = j := by rw [Nat.mul_comm]; exact Nat.div_add_mod j k
  refine ⟨j / k, j % k, hn, hd.symm, hm, ?_⟩
  rw [← fm_at hk l (j / k) hn (j % k) hm, hd]
  exact h
theorem oldS_row (hk : ∀ x, (V x).length = k) {E w : World} {L : List SA} {p : Option Addr} {n c t : Nat} {l : List α} (h : sat E w (rowA (.slice p n c) t k l.length (l.flatMap V) :: L)) : OldS V k w p l := fun j hj => by
  obtain ⟨_, ⟨h0, h1, _⟩ | ⟨g, cap, cur, h0, _, _, _, _, h5⟩⟩ := h.row_open
  · simp at h0; omega
  · simp at h0
    obtain ⟨rfl, rfl, rfl⟩ := h0
    refine ⟨g, 0, rfl, h5.lt, fun i u hi => ?_⟩
    have h6 : i < k := by
      rcases Nat.lt_or_ge i k with h' | h'
      · exact h'
      · simp [List.getElem?_eq_none (show (V l[j]).length ≤ i by rw [hk]; exact h')] at hi
    rw [Nat.zero_add]
    exact h.row_rd 0 rfl (j * k + i) u (by rw [fm_at hk l j hj i h6]; exact hi)
theorem oldS_new (hk : ∀ x, (V x).length = k) (h0 : 0 < k) {w : World} {p : Option Addr} {l : List α} (h : OldS V k w p l) (hl : 0 < l.length) (hne : ∀ x, ∃ u, (V x)[0]? = some u) : ∃ b o, p = some ⟨b, o, none⟩ ∧ ∀ j u, (l.flatMap V)[j]? = some u → w.cell? ⟨b, o + j, none⟩ = some u := by
  obtain ⟨b, o, rfl, _, _⟩ := h 0 hl
  refine ⟨b, o, rfl, fun j u hu => ?_⟩
  obtain ⟨n, i, hn, rfl, hi, hv⟩ := fm_mod hk h0 l j u hu
  obtain ⟨b', o', e, _, hx⟩ := h n hn
  injection e with e
  injection e with e1 e2 _
  subst e1 e2
  rw [← Nat.add_assoc]
  exact hx i u hv
theorem OldS.take {size : Nat} {w : World} {p : Option Addr} {l : List α} (h : OldS V size w p l) (n : Nat) : OldS V size w p (l.take n) := fun j hj => by
  have hj' : j < l.length := by simp at hj; omega
  obtain ⟨c, off, h1, h2, h3⟩ := h j hj'
  refine ⟨c, off, h1, h2, fun i u hi => h3 i u ?_⟩
  rwa [List.getElem_take] at hi
theorem putL_app : ∀ (a b vs : List Value) (i : Nat), putL (a ++ b) (a.length + i) vs = a ++ putL b i vs
  | [], b, vs, i => by simp
  | x :: a, b, vs, i => by
    rw [List.length_cons, show a.length + 1 + i = (a.length + i) + 1 by omega]
    show x :: putL (a ++ b) (a.length + i) vs = _
    rw [putL_app a b vs i]; rfl
theorem putL_all : ∀ (a b vs : List Value), vs.length = a.length → putL (a ++ b) 0 vs = vs ++ b
  | [], b, [], _ => by rw [List.nil_append, putL_nil]
  | x :: a, b, v :: vs, h => by
    show v :: putL (a ++ b) 0 vs = _
    rw [putL_all a b vs (by simpa using h)]; rfl
theorem fm_put (hk : ∀ x, (V x).length = k) : ∀ (m : List α) (i : Nat) (d : α), i < m.length → putL (m.flatMap V) (i * k) (V d) = (m.set i d).flatMap V
  | [], _, _, h => by simp at h
  | e :: m, 0, d, _ => by
    rw [List.flatMap_cons, Nat.zero_mul, putL_all _ _ _ (by rw [hk, hk])]
    rfl
  | e :: m, i + 1, d, h => by
    rw [List.set_cons_succ, List.flatMap_cons, List.flatMap_cons, ← fm_put hk m i d (by simpa using h), show (i + 1) * k = (V e).length + i * k by rw [hk, Nat.add_mul]; omega, putL_app]
end
section
variable {E w : World} {L : List SA}
theorem row_cut {g n c e size m : Nat} {xs : List Value} (h : sat E w (rowA (.slice (some ⟨g, 0, none⟩) n c) e size n xs :: L)) (hm : m ≤ n) : sat E w (rowA (.slice (some ⟨g, 0, none⟩) m c) e size m (xs.take (m * size)) :: L) := by
  obtain ⟨hl, ⟨h0, _⟩ | ⟨g', cap', cur, h0, q1, q2, q3, q4, q5⟩⟩ := h.row_open
  · simp at h0
  · simp at h0
    obtain ⟨rfl, rfl⟩ := h0
    have hms : m * size ≤ n * size := Nat.mul_le_mul_right _ hm
    refine sat.row_shut ?_ (Nat.le_trans hm q1) q2 q3 ?_ q5
    · rw [List.length_take]; omega
    · rw [← q4, List.take_take, Nat.min_eq_left hms]
end
end Go.Proofs.YtegdhojhnmgjgaaGreat
/- 'make' and 'copy' of slices whose elements are one cell each: blocks of one's own, in a walk and in a drawn region. Plain lemmas over any program; no condition. -/
namespace Go.SepYtegdhojhnmgjgaaGreat
open Go Go.RowKit
section
variable {E w : World} {L : List SA} {P : Program}
theorem at_copy {ops : Array Oper} {rest : List Oper} {a : Act} {Q : Exit → Act → World → Prop} {dst : Option Tmp} {d s : Operand} {dT sT : TypeId} {oty : TypeId} {pos : String} {af : Array Edge}
    (h : wpList P ops Q (⟨dst, .call { callee := .builtin .copy, args := #[d, s], argTypes := #[dT, sT] }, oty, pos, af, none⟩ :: rest) a w) :
    wpList P ops Q (⟨dst, .call { callee := .builtin .copy, args := #[d, s], argTypes := #[dT, sT] }, oty, pos, af, none⟩ :: rest) a w := h
/-- A whole row is laid over a block of one's own of as many cells. -/
theorem st_copy (i : Nat) {ops : Array Oper} {rest : List Oper} {a : Act} {Q : Exit → Act → World → Prop} {dst : Option Tmp} {d s : Operand} {dT sT : TypeId} {oty : TypeId} {pos : String} {af : Array Edge}
    (elem : TypeId) (h : sat E w L) {g t dLen dCap sLen sCap : Nat} {l : List Value} {ad : Addr} (cs : List Value)
    (hd : look a d = some (.slice (some ⟨g, 0, none⟩) dLen dCap)) (hs : look a s = some (.slice (some ad) sLen sCap)) (e : L[i]? = some (pt g (.cells l.toArray t (0, 0))))
    (hu : P.underlying dT = some (.slice elem)) (hsz : (P.info? elem).map (·.size) = some 1) (hn : cs.length = Nat.min sLen dLen) (hl : l.length = cs.length)
    (hsrc : ∀ j v, cs[j]? = some v → w.cell? (ad.add j) = some v) (h1 : ∀ v ∈ cs, v.oneCell' = true)
    (k : ∀ w', sat E w' (L.set i (pt g (.cells cs.toArray t (0, 0)))) → wpList P ops Q rest (a.put dst (goInt cs.length)) w') :
    wpList P ops Q (⟨dst, .call { callee := .builtin .copy, args := #[d, s], argTypes := #[dT, sT] }, oty, pos, af, none⟩ :: rest) a w := by
  have hg := (h.pick i e).at
  refine wpList_copy_own rfl d s dT sT rfl elem hu hsz g 0 dLen dCap ad sLen sCap (look_eval hd) (look_eval hs) l.toArray t hg cs hn hsrc (by simp [hl]) h1 (k _ ?_)
  have q : (l.toArray.toList.take 0 ++ (cs ++ l.toArray.toList.drop (0 + cs.length))) = cs := by simp [List.drop_eq_nil_of_le (Nat.le_of_eq hl)]
  rw [q]
  exact h.at_part i e (fun M s => s.turn ⟨rfl, rfl, rfl, by simp, fun k _ hk => setRow_other w g k _ (fun q => hk (by simp [q]))⟩ (setRow_heap w g _ _ t _ hg))
/-- 'make', as a block of one's own, laid in front. -/
theorem st_makeP {ops : Array Oper} {rest : List Oper} {a : Act} {Q : Exit → Act → World → Prop} {dst : Option Tmp} {s x : Operand} {t : TypeId} {oty : TypeId} {pos : String} {af : Array Edge}
    (e bytes : Nat) (zv : Value) (ht : P.underlying t = some (.slice e)) (hi : ∃ q z, P.info? e = some q ∧ q.zero = some z ∧ q.size = 1 ∧ q.bytes = bytes ∧ z.cells = #[zv])
    (h : sat E w L) {kl kc : IntKind} {l : Nat} {l1 l2 : Int} (hs : look a s = some (.int kl l1)) (hx : look a x = some (.int kc l2)) (h1 : l1 = l) (h2 : l2 = l) (hcells : l ≤ 16777216) (hb : bytes * l ≤ 281474976710656)
    (k : ∀ g w', sat E w' (pt g (.cells (List.replicate l zv).toArray e (0, 0)) :: L) → wpList P ops Q rest (a.put dst (.slice (some ⟨g, 0, none⟩) l l)) w') :
    wpList P ops Q (⟨dst, .makeSlice t s x, oty, pos, af, none⟩ :: rest) a w := by
  obtain ⟨q, z, g1, g2, g3, g4, g5⟩ := hi
  subst h1 h2
  subst g4
  have hb' : (q.bytes : Int) * (l : Int) ≤ 281474976710656 := by
    have h : ((q.bytes * l : Nat) : Int) ≤ 281474976710656 := by omega
    rwa [Int.natCast_mul] at h
  have hr := run_makeSlice (P := P) w t e q z ht g1 g2 kl kc (l : Int) (l : Int) (by omega) (by omega) (by rw [g3]; omega) hb' (by omega)
  simp only [Int.toNat_natCast, g3, g5, Nat.mul_one] at hr
  rw [show madeCells #[zv] l = (List.replicate l zv).toArray by rw [← toList_madeCells_one]] at hr
  refine wpList_plain rfl fun K hK => ?_
  unfold Oper.wp execOp
  simp only [look_eval hs, look_eval hx, Sem.run_bind, hr, Result.andThen_ok, Sem.run_pure]
  exact hK _ _ (k w.heap.size _ (h.alloc _))
theorem rg_makeP {ops : Array Oper} {a : Act} {Q : Exit → Act → World → Prop} {o : Oper} {Kc : Act → World → Prop} {s x : Operand} {t : TypeId}
    (e bytes : Nat) (zv : Value) (ht : P.underlying t = some (.slice e)) (hi : ∃ q z, P.info? e = some q ∧ q.zero = some z ∧ q.size = 1 ∧ q.bytes = bytes ∧ z.cells = #[zv])
    (hw : Region.wanted o (yielded ops a.tmps) = true) {d : Option Tmp} (hd : o.dst = d) (ho : o.op = .makeSlice t s x)
    (h : sat E w L) {kl kc : IntKind} {l : Nat} {l1 l2 : Int} (hs : look a s = some (.int kl l1)) (hx : look a x = some (.int kc l2)) (h1 : l1 = l) (h2 : l2 = l) (hcells : l ≤ 16777216) (hb : bytes * l ≤ 281474976710656)
    (k : ∀ g w', sat E w' (pt g (.cells (List.replicate l zv).toArray e (0, 0)) :: L) → Kc (a.put d (.slice (some ⟨g, 0, none⟩) l l)) w') :
    if Region.wanted o (yielded ops a.tmps) = true then Oper.wp P o a w Kc Q else Kc (a.put o.dst undef) w := by
  obtain ⟨q, z, g1, g2, g3, g4, g5⟩ := hi
  subst h1 h2 hd
  subst g4
  have hb' : (q.bytes : Int) * (l : Int) ≤ 281474976710656 := by
    have h : ((q.bytes * l : Nat) : Int) ≤ 281474976710656 := by omega
    rwa [Int.natCast_mul] at h
  have hr := run_makeSlice (P := P) w t e q z ht g1 g2 kl kc (l : Int) (l : Int) (by omega) (by omega) (by rw [g3]; omega) hb' (by omega)
  simp only [Int.toNat_natCast, g3, g5, Nat.mul_one] at hr
  rw [show madeCells #[zv] l = (List.replicate l zv).toArray by rw [← toList_madeCells_one]] at hr
  rw [if_pos hw]
  unfold Oper.wp execOp
  simp only [ho, look_eval hs, look_eval hx, Sem.run_bind, hr, Result.andThen_ok, Sem.run_pure]
  exact k w.heap.size _ (h.alloc _)
end
end Go.SepYtegdhojhnmgjgaaGreat
/- The cells that are shared (package mem): New, Count, Log. Conditions: as many cells as there may be. -/
namespace Go.Proofs.YtegdhojhnmgjgaaGreat
open Go.RowKit Go.SepYtegdhojhnmgjgaaGreat
set_option maxRecDepth 100000
set_option maxHeartbeats 1000000
attribute [local go_sem] min2_w max2_w min_w max_w
theorem u64InfoM : ∃ q z, Tryz.prog.info? 33 = some q ∧ q.zero = some z ∧ q.size = 1 ∧ q.bytes = 8 ∧ z.cells = #[.int .u64 0] := ⟨_, _, rfl, rfl, rfl, rfl, rfl⟩
theorem ev_sz (e : Ev) : e.cells.length = 6 := rfl
theorem ev_oneC (e : Ev) : ∀ u ∈ e.cells, u.oneCell' = true := by
  intro u hu
  simp [Ev.cells] at hu
  rcases hu with rfl | rfl | rfl | rfl | rfl | rfl <;> rfl
theorem MemM.new_wf (n : Nat) : (MemM.new n).wf := by
  intro x hx
  obtain ⟨_, rfl⟩ := List.mem_replicate.1 hx
  omega
section
variable {E w : World} {L : List SA}
theorem memnew_calls (n : Nat) (hn : n ≤ 65536) (h : sat E w L) :
    Calls Tryz.prog 17 #[.int .i64 (n : Int)] w fun e w' => ∃ g, e = .returned (.pointer (some ⟨g, 0, none⟩)) ∧ sat E w' (memA g (MemM.new n) :: L) := by
  have K := Lib.hid h
  clear h
  have v0 : min (n : Int) 65536 = n := by omega
  have v1 : max 0 (n : Int) = n := by omega
  go_enter Tryz.func17, Tryz.ntmps17
  go_wp2_with (first | ((with_reducible refine at_make ?_); refine st_makeP 33 8 (.int .u64 0) Tryz.underlying67 u64InfoM K.out rfl rfl rfl rfl (by omega) (by omega) ?_; intro gm w1 K1; have K2 := Lib.hid K1; clear K1 K; (try clear a0); (try clear l0); (try clear a1); (try clear l1); (try clear a2); (try clear l2); have K := K2; clear K2; have a0 := K.out.rd 0 rfl; have l0 := K.out.ltp 0 rfl) | ((with_reducible refine at_box ?_); refine st_boxf K.out rfl rfl (fun _ => rfl) ?_; intro gb w1 K1; have K2 := Lib.hid K1; clear K1 K; (try clear a0); (try clear l0); (try clear a1); (try clear l1); (try clear a2); (try clear l2); have K := K2; clear K2; have a0 := K.out.rd 0 rfl; have l0 := K.out.ltp 0 rfl; have a1 := K.out.rd 1 rfl; have l1 := K.out.ltp 1 rfl))
  go_ret
  refine ⟨gb, rfl, memA_shut (MemM.new_wf n) (c := gm) (p := none) (q := 0) (r := 0) ?_⟩
  have K1 := sat.row_nil 85 6 (show sat E _ _ from K.out)
  have e : List.replicate n (Value.int .u64 0) = u64s (MemM.new n).cells := by simp [u64s, MemM.new]
  rw [e] at K1
  have hl : (MemM.new n).cells.length = n := by simp [MemM.new]
  rw [hl]
  exact (K1.pick 2 rfl).pick 2 rfl
theorem eqlE (w : World) (a : Option Addr) (n c : Nat) : (binOp .eql 39 (.slice a n c) (.slice none 0 0)).run Tryz.prog w = .ok (.bool a.isNone) w := Lib.run_eql_slice_nil w 39 85 a n c 0 0 Tryz.underlying39
attribute [local go_sem] eqlE
theorem evclone_calls (p : Option Addr) (l : List Ev) (cap : Nat) (hl : l.length ≤ 1000000) (ho : OldS Ev.cells 6 w p l) (h : sat E w L) :
    Calls Tryz.prog 57 #[.slice p l.length cap] w fun e w' => ∃ p1 c1, e = .returned (.slice p1 l.length c1) ∧ sat E w' (rowA (.slice p1 l.length c1) 85 6 l.length (evCells l) :: L) := by
  have K := Lib.hid h
  have H := Lib.hid ho
  clear h ho
  cases p with
  | none =>
    have hl0 : l = [] := by
      rcases Nat.eq_zero_or_pos l.length with h | h
      · exact List.eq_nil_of_length_eq_zero h
      · obtain ⟨b, off, e, _⟩ := H.out 0 h
        simp at e
    subst hl0
    go_enter Tryz.func57, Tryz.ntmps57
    go_wp2
    go_ret
    exact ⟨_, _, rfl, sat.row_nil _ _ K.out⟩
  | some a =>
    have HN := Lib.hid (show ∀ w', Below w.heap.size w w' → 0 < l.length → ∃ b o, some a = some ⟨b, o, none⟩ ∧ ∀ j u, (evCells l)[j]? = some u → w'.cell? ⟨b, o + j, none⟩ = some u from fun w' hb h0 => oldS_new ev_sz (by decide) (H.out.grown hb) h0 (fun x => ⟨_, rfl⟩))
    go_enter Tryz.func57, Tryz.ntmps57
    go_wp2_with (have KE := sat.row_empty (e := 85) (size := 6) K.out; (with_reducible refine at_append ?_); refine st_append_part 0 85 6 48 Tryz.underlying39 evInfo KE rfl rfl (news := evCells l) rfl (fm_len ev_sz l) ?_ (fm_one ev_oneC l) ?_ ?_ ?_; (· exact HN.out _ ((Below.refl _ _).alloc (Nat.le_refl _) _)); (· simp only [maxLen]; omega); (· omega); intro pa na ca w1 K1; simp only [List.set, Nat.zero_add, List.nil_append] at K1; clear KE)
    go_ret
    obtain ⟨hna, _⟩ := Go.SepYtegdhojhnmgjgaaGreat.row_len K1
    subst hna
    exact ⟨_, _, rfl, K1⟩
theorem log_calls (b : Nat) (m : MemM) (hl : m.log.length ≤ 1000000) (h : sat E w (memA b m :: L)) :
    Calls Tryz.prog 28 #[.pointer (some ⟨b, 0, none⟩)] w fun e w' => ∃ p1 c1, e = .returned (.slice p1 m.log.length c1) ∧ sat E w' (rowA (.slice p1 m.log.length c1) 85 6 m.log.length (evCells m.log) :: memA b m :: L) := by
  have h0 := h
  obtain ⟨hw, c, p, q, r, h⟩ := memA_open h
  have h2 := oldS_row ev_sz (h.pick 2 rfl)
  obtain ⟨hq, _⟩ := Go.SepYtegdhojhnmgjgaaGreat.row_len (h.pick 2 rfl)
  subst hq
  have a0 := h.rd 0 rfl
  have CL := Lib.hid (evclone_calls p m.log r hl h2 h0)
  clear h0 h hw
  go_enter Tryz.func28, Tryz.ntmps28
  go_wp2_with (go_at_call 57; (with_reducible refine CL.out.mono ?_); rintro e w1 ⟨p1, c1, rfl, K1⟩)
  go_ret
  exact ⟨_, _, rfl, K1⟩
end
end Go.Proofs.YtegdhojhnmgjgaaGreat
