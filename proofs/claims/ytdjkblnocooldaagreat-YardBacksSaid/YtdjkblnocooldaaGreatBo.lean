/- Several texts in one: BackM. Each says ahead of it what it shows. -/
import Derived.Test.YtdjkblnocooldaaGreatBc
set_option linter.unusedVariables false
set_option linter.unusedSimpArgs false
/- What was noted of cells, done again, is the cells (the plain law of YardBacks). -/
namespace Go.Proofs.YtdjkblnocooldaaGreat

def backOld (e : Ev) : Int := if e.op = 2 ∧ e.ok = false then (e.old + 1) % 18446744073709551616 else e.old
def backNext (e : Ev) : Int := if e.op = 3 then (e.new - e.old) % 18446744073709551616 else e.new
def backOk (m : MemM) (e : Ev) : Bool := decide (0 ≤ e.op) && decide (e.op ≤ 3) && decide (m.has e.cell)
/-- An event is done again: none if it does not agree. -/
def backStep (m : MemM) (e : Ev) : Option MemM :=
  if backOk m e = false then none
  else if (m.touch e.who e.op e.cell (backOld e) (backNext e)).log.getLast? = some e then some (m.touch e.who e.op e.cell (backOld e) (backNext e)) else none
def backs (m : MemM) : List Ev → Option MemM
  | [] => some m
  | e :: l => match backStep m e with | none => none | some m' => backs m' l
theorem backs_append : ∀ (a b : List Ev) (m : MemM), backs m (a ++ b) = (match backs m a with | none => none | some m' => backs m' b)
  | [], b, m => rfl
  | e :: a, b, m => by
    show (match backStep m e with | none => none | some m' => backs m' (a ++ b)) = _
    rw [backs]
    cases backStep m e with
    | none => rfl
    | some m' => exact backs_append a b m'
theorem back_touch {m : MemM} (hw : m.wf) {w op cell old next : Int} (h0 : 0 ≤ op) (h1 : op ≤ 3) (h3 : op = 3 → next = 1) (hc : m.has cell) :
    backStep m ⟨w, op, cell, getI m.cells cell, opNew op (getI m.cells cell) old next, opOk op (getI m.cells cell) old⟩ = some (m.touch w op cell old next) := by
  have hb := getI_wf hw cell
  generalize hx : getI m.cells cell = was at hb
  have hne : (was + 1) % 18446744073709551616 ≠ was := by omega
  have key : ∀ o n : Int, opNew op was o n = opNew op was old next → opOk op was o = opOk op was old → m.touch w op cell o n = m.touch w op cell old next := by
    intro o n e1 e2
    unfold MemM.touch
    rw [if_pos hc, if_pos hc, hx, e1, e2]
  have e : m.touch w op cell (backOld ⟨w, op, cell, was, opNew op was old next, opOk op was old⟩) (backNext ⟨w, op, cell, was, opNew op was old next, opOk op was old⟩) = m.touch w op cell old next := by
    rcases (show op = 0 ∨ op = 1 ∨ op = 2 ∨ op = 3 by omega) with rfl | rfl | rfl | rfl
    · exact key _ _ rfl rfl
    · exact key _ _ rfl rfl
    · by_cases q : was = old
      · subst q
        refine key _ _ ?_ ?_ <;> simp [backOld, backNext, opNew, opOk]
      · refine key _ _ ?_ ?_ <;> simp [backOld, backNext, opNew, opOk, q] <;> omega
    · obtain rfl := h3 rfl
      refine key _ _ ?_ ?_
      · simp only [backNext, opNew]
        simp
        omega
      · rfl
  unfold backStep
  rw [if_neg (by unfold backOk; simp [h0, h1, hc])]
  show (if (m.touch w op cell _ _).log.getLast? = _ then some (m.touch w op cell _ _) else none) = _
  rw [e, if_pos]
  unfold MemM.touch
  rw [if_pos hc]
  simp [hx]
/-- What was noted is what came of it. -/
def MemM.told (n : Nat) (m : MemM) : Prop := backs (MemM.new n) m.log = some m
theorem MemM.new_told (n : Nat) : (MemM.new n).told n := rfl
theorem MemM.by_told {n : Nat} {w : Int} {m m' : MemM} (h : m.told n) (hw : m.wf) (hb : MemM.by w m m') : m'.told n := by
  rcases hb with rfl | ⟨op, cell, old, next, h0, h1, h3, rfl⟩
  · exact h
  · by_cases hc : m.has cell
    · unfold MemM.told
      have e : (m.touch w op cell old next).log = m.log ++ [⟨w, op, cell, getI m.cells cell, opNew op (getI m.cells cell) old next, opOk op (getI m.cells cell) old⟩] := by
        unfold MemM.touch; rw [if_pos hc]
      rw [e, backs_append]
      rw [show backs (MemM.new n) m.log = some m from h]
      show (match backStep m _ with | none => none | some m' => backs m' []) = _
      rw [back_touch hw h0 h1 h3 hc]
      rfl
    · have e : m.touch w op cell old next = m := by unfold MemM.touch; rw [if_neg hc]
      rw [e]; exact h
theorem MoveM.run_by {y : YardM} (h : y.oinv) (th : Int) (v : MoveM) : ∃ w, MemM.by w y.mem (v.run th y).mem := by
  unfold MoveM.run
  split
  · refine ⟨0, .inl ?_⟩
    unfold YardM.call; (repeat' split) <;> rfl
  · split
    · refine ⟨0, .inl ?_⟩
      unfold YardM.pass; split <;> rfl
    · split
      · exact ⟨_, (YardM.step_oinv h v.who).mem⟩
      · exact ⟨_, (YardM.step_oinv h (v.at_ th)).mem⟩
end Go.Proofs.YtdjkblnocooldaaGreat
