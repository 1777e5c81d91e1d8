/- The cells that are shared (package mem), as a list of numbers and a list of what was noted: what each of its functions does. No condition beyond room for what is noted. -/
import Derived.Test.YtdhcomklmckhoaaProg
import Derived.Test.YtdhcomklmckhoaaStep
import Derived.Test.YtdhcomklmckhoaaModel
import Derived.WalkKit
import Derived.KernelRfl
import Derived.RowKit3
import Derived.OwnWalk
import Derived.WalkSpells
import Derived.Outline
import Derived.Laws.NewBlocks
import Derived.Lib.Hide
namespace Go.Proofs.Ytdhcomklmckhoaa
open Go.RowKit Go.SepYtdhcomklmckhoaa
set_option linter.unusedSimpArgs false
set_option linter.unusedVariables false
set_option maxRecDepth 100000
def Ev.cells (e : Ev) : List Value := [.int .i64 e.who, .int .i64 e.op, .int .i64 e.cell, .int .u64 e.old, .int .u64 e.new, .bool e.ok]
def evCells (l : List Ev) : List Value := l.flatMap Ev.cells
def u64s (l : List Int) : List Value := l.map (Value.int .u64)
/-- The block of a Mem, that of its cells, and the row of what was noted. -/
def memA (b : Nat) (m : MemM) : SA := fun h => m.wf ∧ ∃ (c : Nat) (p : Option Addr) (q r : Nat),
  bag [pt b (.cells #[.slice (some ⟨c, 0, none⟩) m.cells.length m.cells.length, .slice p q r] 93 (0, 0)), pt c (.cells (u64s m.cells).toArray 31 (0, 0)), rowA (.slice p q r) 74 6 m.log.length (evCells m.log)] h
theorem evCells_snoc (l : List Ev) (e : Ev) : evCells (l ++ [e]) = evCells l ++ e.cells := by simp [evCells]

theorem memA_open {E w : World} {L : List SA} {b : Nat} {m : MemM} (h : sat E w (memA b m :: L)) : m.wf ∧ ∃ (c : Nat) (p : Option Addr) (q r : Nat),
    sat E w (pt b (.cells [.slice (some ⟨c, 0, none⟩) m.cells.length m.cells.length, .slice p q r].toArray 93 (0, 0)) :: pt c (.cells (u64s m.cells).toArray 31 (0, 0)) :: rowA (.slice p q r) 74 6 m.log.length (evCells m.log) :: L) := by
  obtain ⟨hw, h⟩ := h.pure
  obtain ⟨c, h⟩ := h.ex
  obtain ⟨p, h⟩ := h.ex
  obtain ⟨q, h⟩ := h.ex
  obtain ⟨r, h⟩ := h.ex
  exact ⟨hw, c, p, q, r, h.unbag⟩
theorem memA_shut {E w : World} {L : List SA} {b : Nat} {m : MemM} {c : Nat} {p : Option Addr} {q r : Nat} (hw : m.wf)
    (h : sat E w (pt b (.cells [.slice (some ⟨c, 0, none⟩) m.cells.length m.cells.length, .slice p q r].toArray 93 (0, 0)) :: pt c (.cells (u64s m.cells).toArray 31 (0, 0)) :: rowA (.slice p q r) 74 6 m.log.length (evCells m.log) :: L)) : sat E w (memA b m :: L) :=
  sat.mkpure hw (sat.mkex c (sat.mkex p (sat.mkex q (sat.mkex r (sat.bag (M := [_, _, _]) h)))))
theorem touch_fin {E w : World} {L : List SA} {b : Nat} {m : MemM} {c : Nat} {p : Option Addr} {q r : Nat} {who op cell old next new : Int} {ok : Bool} (hw : m.wf) (hx : 0 ≤ next ∧ next < 18446744073709551616) (hc : 0 ≤ cell ∧ cell < m.cells.length)
    (hn : new = opNew op (getI m.cells cell) old next) (ho : ok = opOk op (getI m.cells cell) old)
    (h : sat E w (pt b (.cells [.slice (some ⟨c, 0, none⟩) m.cells.length m.cells.length, .slice p q r].toArray 93 (0, 0)) :: pt c (.cells ((u64s m.cells).set cell.toNat (.int .u64 new)).toArray 31 (0, 0)) ::
      rowA (.slice p q r) 74 6 (m.log.length + 1) (evCells m.log ++ [.int .i64 who, .int .i64 op, .int .i64 cell, .int .u64 (getI m.cells cell), .int .u64 new, .bool ok]) :: L)) :
    sat E w (memA b (m.touch who op cell old next) :: L) := by
  subst hn; subst ho
  refine memA_shut (c := c) (p := p) (q := q) (r := r) (MemM.touch_wf hw _ _ _ _ _ hx) ?_
  have e : m.touch who op cell old next = ⟨setI m.cells cell (opNew op (getI m.cells cell) old next), m.log ++ [⟨who, op, cell, getI m.cells cell, opNew op (getI m.cells cell) old next, opOk op (getI m.cells cell) old⟩]⟩ := by
    exact if_pos hc
  rw [e]
  simp only [setI, List.length_set, List.length_append, List.length_cons, List.length_nil, evCells_snoc, u64s, List.map_set]
  exact h
theorem there_calls (b : Nat) (m : MemM) (cell : Int) (E w : World) (L : List SA) (h : sat E w (memA b m :: L)) :
    Calls Try.prog 47 #[.pointer (some ⟨b, 0, none⟩), .int .i64 cell] w fun e w' => e = .returned (.bool (decide (0 ≤ cell) && decide (cell < m.cells.length))) ∧ w = w' := by
  obtain ⟨hw, c, p, q, r, h⟩ := memA_open h
  have h0 := h.rd 0 rfl
  clear h
  by_cases c1 : 0 ≤ cell
  · go_enter Try.func47, Try.ntmps47
    go_wp2
    go_ret
    exact ⟨by simp [c1], rfl⟩
  · go_enter Try.func47, Try.ntmps47
    go_wp2
    go_ret
    exact ⟨by simp; omega, rfl⟩
theorem evInfo : ∃ q z, Try.prog.info? 74 = some q ∧ q.zero = some z ∧ q.size = 6 ∧ q.bytes = 48 ∧ z.cells.size = 6 := ⟨_, _, rfl, rfl, rfl, rfl, rfl⟩
theorem opNew_load (was old next : Int) : opNew 0 was old next = was := rfl
theorem getD_cell {l : List Int} {c : Int} (h0 : 0 ≤ c) (h1 : c < l.length) : (u64s l)[c.toNat]? = some (.int .u64 (getI l c)) := by
  have : c.toNat < l.length := by omega
  simp [u64s, this, getI]

theorem touch_out (b : Nat) (m : MemM) (who op cell old next : Int) (hc : ¬ (0 ≤ cell ∧ cell < m.cells.length)) (E w : World) (L : List SA) (h : sat E w (memA b m :: L)) :
    Calls Try.prog 49 #[.pointer (some ⟨b, 0, none⟩), .int .i64 who, .int .i64 op, .int .i64 cell, .int .u64 old, .int .u64 next] w fun e w' => e = .returned (.tuple #[.int .u64 0, .bool false]) ∧ w = w' := by
  have hb : (decide (0 ≤ cell) && decide (cell < m.cells.length)) = false := by simpa using hc
  have H := there_calls b m cell E w L h
  rw [hb] at H
  have HH := Lib.hid H
  clear H hb hc
  go_enter Try.func49, Try.ntmps49
  go_wp2_with (go_at_call 47; refine HH.out.mono ?_; rintro e w' ⟨rfl, rfl⟩)
  go_ret2
  exact ⟨rfl, rfl⟩

set_option maxHeartbeats 4000000 in
theorem touch_in (b : Nat) (m : MemM) (who op cell old next : Int) (hc : 0 ≤ cell ∧ cell < m.cells.length) (hnx : 0 ≤ next ∧ next < 18446744073709551616) (hroom : m.log.length < 1000000000) (E w : World) (L : List SA) (h : sat E w (memA b m :: L)) :
    Calls Try.prog 49 #[.pointer (some ⟨b, 0, none⟩), .int .i64 who, .int .i64 op, .int .i64 cell, .int .u64 old, .int .u64 next] w fun e w' =>
      e = .returned (.tuple #[.int .u64 (getI m.cells cell), .bool (opOk op (getI m.cells cell) old)]) ∧ sat E w' (memA b (m.touch who op cell old next) :: L) := by
  have hb : (decide (0 ≤ cell) && decide (cell < m.cells.length)) = true := by simpa using hc
  have H := there_calls b m cell E w L h
  rw [hb] at H
  have HH := Lib.hid H
  clear H hb
  obtain ⟨hc0, hc1⟩ := hc
  obtain ⟨hw, c, p, q, r, g⟩ := memA_open h
  clear h
  have a0 := g.rd 0 rfl
  have a1 := g.rd 1 rfl cell.toNat
  have a2 := g.fr 1 rfl
  rw [getD_cell hc0 hc1] at a1
  have K := Lib.hid g
  have W := Lib.hid hw
  have X := Lib.hid hnx
  clear g hw hnx
  go_enter Try.func49, Try.ntmps49
  go_wp2_with (first | (go_at_call 47; refine HH.out.mono ?_; rintro e w' ⟨rfl, rfl⟩) | ((with_reducible refine at_store ?_); refine st_store 1 K.out rfl rfl rfl rfl ?_ ?_ ?_ ?_; (· kernel_rfl); (· show _ + 1 ≤ _; simp [u64s]; omega); (· simp [Value.oneCell']); intro w1 K1; simp only [List.set, putL_one] at K1; have K2 := Lib.hid K1; clear K1 K a0 a1 a2; have K := K2; clear K2; have a0 := K.out.rd 0 rfl; have a2 := K.out.fr 0 rfl) | ((with_reducible refine at_append ?_); refine st_append_new 2 74 6 48 Try.underlying70 evInfo K.out rfl rfl rfl rfl ?_ Nat.one_pos ?_ ?_ ?_; (· simp [Value.oneCell']); (· simp only [maxLen]; omega); (· omega); intro p1 n1 c1 w1 K1; simp only [List.set] at K1; have K2 := Lib.hid K1; clear K1 K a0 a2; have K := K2; clear K2; have a0 := K.out.rd 0 rfl; have a2 := K.out.fr 0 rfl) | ((with_reducible refine at_store ?_); refine st_store 0 K.out rfl rfl rfl rfl ?_ ?_ ?_ ?_; (· kernel_rfl); (· simp); (· simp [Value.oneCell']); intro w1 K1; simp only [List.set, putL] at K1; have K2 := Lib.hid K1; clear K1 K a0 a2; have K := K2; clear K2))
  all_goals
    go_ret2
    refine ⟨?_, touch_fin W.out X.out ⟨hc0, hc1⟩ ?_ ?_ K.out⟩
  all_goals simp_all [opNew, opOk, IntKind.wrap_u64]


theorem touch_calls (b : Nat) (m : MemM) (who op cell old next : Int) (hnx : 0 ≤ next ∧ next < 18446744073709551616) (hroom : m.log.length < 1000000000) {E w : World} {L : List SA} (h : sat E w (memA b m :: L)) :
    Calls Try.prog 49 #[.pointer (some ⟨b, 0, none⟩), .int .i64 who, .int .i64 op, .int .i64 cell, .int .u64 old, .int .u64 next] w fun e w' =>
      e = .returned (.tuple #[.int .u64 (m.peek cell), .bool (m.okOf op cell old)]) ∧ sat E w' (memA b (m.touch who op cell old next) :: L) := by
  by_cases hc : m.has cell
  · have e1 : m.peek cell = getI m.cells cell := if_pos hc
    have e2 : m.okOf op cell old = opOk op (getI m.cells cell) old := if_pos hc
    rw [e1, e2]
    exact touch_in b m who op cell old next hc hnx hroom E w L h
  · have e1 : m.peek cell = 0 := if_neg hc
    have e2 : m.okOf op cell old = false := if_neg hc
    have e3 : m.touch who op cell old next = m := if_neg hc
    rw [e1, e2, e3]
    exact (touch_out b m who op cell old next hc E w L h).mono fun e w' ⟨he, hw⟩ => ⟨he, hw ▸ h⟩

theorem load_calls (b : Nat) (m : MemM) (who cell : Int) (hroom : m.log.length < 1000000000) {E w : World} {L : List SA} (h : sat E w (memA b m :: L)) :
    Calls Try.prog 51 #[.pointer (some ⟨b, 0, none⟩), .int .i64 who, .int .i64 cell] w fun e w' =>
      e = .returned (.int .u64 (m.peek cell)) ∧ sat E w' (memA b (m.touch who 0 cell 0 0) :: L) := by
  have H := Lib.hid h
  clear h
  go_enter Try.func51, Try.ntmps51
  go_wp2_with (go_at_call 49; refine (touch_calls b m who 0 cell 0 0 (by omega) hroom H.out).mono ?_; rintro e w' ⟨rfl, K⟩)
  go_ret
  exact ⟨rfl, K⟩
theorem store_calls (b : Nat) (m : MemM) (who cell x : Int) (hx : 0 ≤ x ∧ x < 18446744073709551616) (hroom : m.log.length < 1000000000) {E w : World} {L : List SA} (h : sat E w (memA b m :: L)) :
    Calls Try.prog 24 #[.pointer (some ⟨b, 0, none⟩), .int .i64 who, .int .i64 cell, .int .u64 x] w fun e w' =>
      e = .returned (.tuple #[]) ∧ sat E w' (memA b (m.touch who 1 cell 0 x) :: L) := by
  have H := Lib.hid h
  have X := Lib.hid hx
  clear h hx
  go_enter Try.func24, Try.ntmps24
  go_wp2_with (go_at_call 49; refine (touch_calls b m who 1 cell 0 x X.out hroom H.out).mono ?_; rintro e w' ⟨rfl, K⟩)
  go_end0
  exact ⟨rfl, K⟩
theorem swapc_calls (b : Nat) (m : MemM) (who cell old x : Int) (hx : 0 ≤ x ∧ x < 18446744073709551616) (hroom : m.log.length < 1000000000) {E w : World} {L : List SA} (h : sat E w (memA b m :: L)) :
    Calls Try.prog 53 #[.pointer (some ⟨b, 0, none⟩), .int .i64 who, .int .i64 cell, .int .u64 old, .int .u64 x] w fun e w' =>
      e = .returned (.bool (m.okOf 2 cell old)) ∧ sat E w' (memA b (m.touch who 2 cell old x) :: L) := by
  have H := Lib.hid h
  have X := Lib.hid hx
  clear h hx
  go_enter Try.func53, Try.ntmps53
  go_wp2_with (go_at_call 49; refine (touch_calls b m who 2 cell old x X.out hroom H.out).mono ?_; rintro e w' ⟨rfl, K⟩)
  go_ret
  exact ⟨rfl, K⟩
theorem add_calls (b : Nat) (m : MemM) (who cell x : Int) (hx : 0 ≤ x ∧ x < 18446744073709551616) (hroom : m.log.length < 1000000000) {E w : World} {L : List SA} (h : sat E w (memA b m :: L)) :
    Calls Try.prog 77 #[.pointer (some ⟨b, 0, none⟩), .int .i64 who, .int .i64 cell, .int .u64 x] w fun e w' =>
      e = .returned (.int .u64 (m.peek cell)) ∧ sat E w' (memA b (m.touch who 3 cell 0 x) :: L) := by
  have H := Lib.hid h
  have X := Lib.hid hx
  clear h hx
  go_enter Try.func77, Try.ntmps77
  go_wp2_with (go_at_call 49; refine (touch_calls b m who 3 cell 0 x X.out hroom H.out).mono ?_; rintro e w' ⟨rfl, K⟩)
  go_ret
  exact ⟨rfl, K⟩
theorem peek_calls (b : Nat) (m : MemM) (cell : Int) {E w : World} {L : List SA} (h : sat E w (memA b m :: L)) :
    Calls Try.prog 13 #[.pointer (some ⟨b, 0, none⟩), .int .i64 cell] w fun e w' => e = .returned (.int .u64 (m.peek cell)) ∧ w = w' := by
  have H := there_calls b m cell E w L h
  by_cases hc : m.has cell
  · have e1 : m.peek cell = getI m.cells cell := if_pos hc
    rw [e1]
    obtain ⟨hc0, hc1⟩ := hc
    rw [show (decide (0 ≤ cell) && decide (cell < m.cells.length)) = true by simp [hc0, hc1]] at H
    have HH := Lib.hid H
    obtain ⟨hw, c, p, q, r, g⟩ := memA_open h
    have a0 := g.rd 0 rfl
    have a1 := g.rd 1 rfl cell.toNat
    rw [getD_cell hc0 hc1] at a1
    clear H h g e1 hw
    go_enter Try.func13, Try.ntmps13
    go_wp2_with (go_at_call 47; refine HH.out.mono ?_; rintro e w' ⟨rfl, rfl⟩)
    go_ret
    exact ⟨rfl, rfl⟩
  · have e1 : m.peek cell = 0 := if_neg hc
    rw [e1]
    rw [show (decide (0 ≤ cell) && decide (cell < m.cells.length)) = false by simpa [MemM.has] using hc] at H
    have HH := Lib.hid H
    clear H h e1 hc
    go_enter Try.func13, Try.ntmps13
    go_wp2_with (go_at_call 47; refine HH.out.mono ?_; rintro e w' ⟨rfl, rfl⟩)
    go_ret
    exact ⟨rfl, rfl⟩
end Go.Proofs.Ytdhcomklmckhoaa
