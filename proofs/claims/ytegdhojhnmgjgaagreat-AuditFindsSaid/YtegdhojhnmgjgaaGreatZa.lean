/- Several texts in one: AuditM. Each says ahead of it what it shows. -/
import Derived.Test.YtegdhojhnmgjgaaGreatB1
set_option linter.unusedVariables false
set_option linter.unusedSimpArgs false
/- What may be done to cells, by the page: plain Lean, no program. -/
namespace Go.Proofs.YtegdhojhnmgjgaaGreat
/-- Numbers as the program holds them. -/
def Ev.wf (e : Ev) : Prop:=(-9223372036854775808 ≤ e.who ∧ e.who < 9223372036854775808) ∧ (-9223372036854775808 ≤ e.cell ∧ e.cell < 9223372036854775808) ∧ (0 ≤ e.old ∧ e.old < 18446744073709551616) ∧ (0 ≤ e.new ∧ e.new < 18446744073709551616)
def u64M (x : Int) : Int:=x % 18446744073709551616
def kindM (c : ConfM) (cell : Int) : Int × Int :=
  if cell < 0 ∨ c.cells ≤ cell then (0,0) else if cell < c.all then (1,cell) else if cell < 2 * c.all then (2,cell - c.all)
  else if cell < 2 * c.all + c.th then (3,cell - 2 * c.all) else (4,cell - 2 * c.all - c.th)
def ownerM (c : ConfM) (slot : Int) : Int:=Int.tdiv slot c.sl
def wordB (c : ConfM) (e : Ev) (slot : Int) : Bool :=
  if e.op = 0 then true
  else if e.op = 1 then e.who == ownerM c slot && (unpack e.old).state != 1 && (unpack e.new).stamp.right && decide (unpack e.new = (unpack e.old).next (unpack e.new).fin (unpack e.new).stamp)
  else if e.op = 2 then !e.ok || ((unpack e.old).state == 1 && decide (unpack e.new = (unpack e.old).taken))
  else false
def valueB (c : ConfM) (last : Int → Int) (rd : Option Int) (e : Ev) (slot : Int) : Bool :=
  if e.op = 0 then (match rd with|none=>false|some g=>g == (unpack (last slot)).gen && last (c.hazard e.who) == u64M (slot + 1))
  else if e.op = 1 then e.who == ownerM c slot && (unpack (last slot)).state != 1
  else false
def numberB (c : ConfM) (e : Ev) (t : Int) : Bool :=
  if c.src = 0 then t == 0 && e.op == 3 && e.new == u64M (e.old + 1)
  else if c.src = 1 then e.op == 0 || (e.op == 1 && e.who == t && decide (e.new > e.old))
  else if c.src = 2 then t == 0 && (e.op == 0 || (e.op == 2 && (!e.ok || e.new == u64M (e.old + 1))))
  else false
/-- May a cell be touched so, where 'last' is what cells are and 'rd' the Gen that the thread loaded last of a place? -/
def mayM (c : ConfM) (last : Int → Int) (rd : Int → Option Int) (e : Ev) : Bool :=
  if e.who < 0 ∨ c.th ≤ e.who then false
  else match kindM c e.cell with
    | (1, n) => wordB c e n
    | (2, n) => valueB c last (rd n) e n
    | (3, n) => e.op == 0 || (e.op == 1 && e.who == n)
    | (4, n) => numberB c e n
    | _ => false
/-- What a cell is behind events. -/
def lastM (l : List Ev) (cell : Int) : Int:=l.foldl (fun x e=>if e.cell = cell then e.new else x) 0
/-- The last word that a thread loaded of a cell. -/
def loadedM : List Ev → Int → Int → Option Int
  | [], _, _ => none
  | e :: l, who, cell => match loadedM l who cell with
    | some x => some x
    | none => if e.who = who ∧ e.cell = cell ∧ e.op = 0 then some e.old else none
def rdM (l : List Ev) (who : Int) (slot : Int) : Option Int:=(loadedM l who slot).map fun x=>(unpack x).gen
def okM (c : ConfM) (l : List Ev) (e : Ev) : Bool:=e.old == lastM l e.cell && mayM c (lastM l) (rdM l e.who) e
/-- The first of the events l, behind those of pre, that may not be; -1: none. -/
def firstM (c : ConfM) : List Ev → List Ev → Int
  | _, [] => -1
  | pre, e :: l => if okM c pre e then firstM c (pre ++ [e]) l else pre.length
theorem lastM_snoc (l : List Ev) (e : Ev) (cell : Int) : lastM (l ++ [e]) cell = if e.cell = cell then e.new else lastM l cell:=by
  unfold lastM
  rw [List.foldl_append]
  rfl
theorem loadedM_snoc (e : Ev) (who cell : Int) : ∀ l : List Ev,loadedM (l ++ [e]) who cell = if e.who = who ∧ e.cell = cell ∧ e.op = 0 then some e.old else loadedM l who cell
  | [] => by
    simp only [List.nil_append,loadedM]
  | x :: l => by
    rw [List.cons_append,loadedM,loadedM_snoc e who cell l,loadedM]
    by_cases h : e.who = who ∧ e.cell = cell ∧ e.op = 0
    · rw [if_pos h,if_pos h]
    · rw [if_neg h,if_neg h]
theorem rdM_snoc (l : List Ev) (e : Ev) (who slot : Int) : rdM (l ++ [e]) who slot = if e.who = who ∧ e.cell = slot ∧ e.op = 0 then some (unpack e.old).gen else rdM l who slot:=by
  unfold rdM
  rw [loadedM_snoc]
  by_cases h : e.who = who ∧ e.cell = slot ∧ e.op = 0
  · rw [if_pos h,if_pos h];rfl
  · rw [if_neg h,if_neg h]
theorem firstM_bd (c : ConfM) : ∀ (l pre : List Ev),firstM c pre l = -1 ∨ ((pre.length : Int) ≤ firstM c pre l ∧ firstM c pre l < pre.length + l.length)
  | [], pre => .inl rfl
  | e :: l, pre => by
    unfold firstM
    by_cases h : okM c pre e = true
    · rw [if_pos h]
      have:=firstM_bd c l (pre ++ [e])
      simp only [List.length_append,List.length_cons,List.length_nil] at this ⊢
      omega
    · rw [if_neg h]
      right
      simp only [List.length_cons]
      omega
/-- Of a beginning. -/
theorem firstM_append (c : ConfM) : ∀ (l m pre : List Ev),firstM c pre (l ++ m) = if firstM c pre l = -1 then firstM c (pre ++ l) m else firstM c pre l
  | [], m, pre => by simp [firstM]
  | e :: l, m, pre => by
    rw [List.cons_append,firstM,firstM]
    by_cases h : okM c pre e = true
    · rw [if_pos h,if_pos h,firstM_append c l m (pre ++ [e])]
      simp only [List.append_assoc,List.cons_append,List.nil_append]
    · rw [if_neg h,if_neg h,if_neg (by omega)]
theorem firstM_take (c : ConfM) (l : List Ev) (n : Nat) (h : firstM c [] l = (n : Int)) : firstM c [] (l.take n) = -1:=by
  have hb:=firstM_bd c (l.take n) []
  have ha:=firstM_append c (l.take n) (l.drop n) []
  rw [List.take_append_drop,h] at ha
  by_cases hf : firstM c [] (l.take n) = -1
  · exact hf
  · rw [if_neg hf] at ha
    rcases hb with hb|hb
    · exact hb
    · have : (l.take n).length ≤ n:=by rw [List.length_take];omega
      simp only [List.length_nil] at hb
      omega
end Go.Proofs.YtegdhojhnmgjgaaGreat
