/- What the program's layers do, as plain functions on numbers and lists: cells, stamps, words, and each call step by step. No Go in it. -/
namespace Go.Proofs.Ytdhcomklmckhoaa

/-- An element by its number. -/
def getI (l : List Int) (i : Int) : Int := l.getD i.toNat 0
def setI (l : List Int) (i : Int) (x : Int) : List Int := l.set i.toNat x
abbrev Top : Int := 16777215

/-! ### Cells -/
structure Ev where
  who : Int
  op : Int
  cell : Int
  old : Int
  new : Int
  ok : Bool
  deriving DecidableEq
structure MemM where
  cells : List Int
  log : List Ev
def opNew (op was old next : Int) : Int := if op = 0 then was else if op = 2 then (if was = old then next else was) else if op = 3 then (was + next) % 18446744073709551616 else next
def opOk (op was old : Int) : Bool := if op = 2 then decide (was = old) else true
def MemM.has (m : MemM) (cell : Int) : Prop := 0 ≤ cell ∧ cell < m.cells.length
instance (m : MemM) (cell : Int) : Decidable (m.has cell) := by unfold MemM.has; exact inferInstance
def MemM.peek (m : MemM) (cell : Int) : Int := if m.has cell then getI m.cells cell else 0
def MemM.okOf (m : MemM) (op cell old : Int) : Bool := if m.has cell then opOk op (getI m.cells cell) old else false
def MemM.touch (m : MemM) (who op cell old next : Int) : MemM :=
  if m.has cell then
    ⟨setI m.cells cell (opNew op (getI m.cells cell) old next), m.log ++ [⟨who, op, cell, getI m.cells cell, opNew op (getI m.cells cell) old next, opOk op (getI m.cells cell) old⟩]⟩
  else m
def MemM.wf (m : MemM) : Prop := ∀ x ∈ m.cells, 0 ≤ x ∧ x < 18446744073709551616
def MemM.new (n : Nat) : MemM := ⟨List.replicate n 0, []⟩
theorem getI_wf {m : MemM} (h : m.wf) (c : Int) : 0 ≤ getI m.cells c ∧ getI m.cells c < 18446744073709551616 := by
  unfold getI
  rw [List.getD_eq_getElem?_getD]
  cases hc : m.cells[c.toNat]? with
  | none => simp
  | some x => exact h x (List.mem_of_getElem? hc)
theorem MemM.peek_wf {m : MemM} (h : m.wf) (c : Int) : 0 ≤ m.peek c ∧ m.peek c < 18446744073709551616 := by
  unfold MemM.peek; split
  · exact getI_wf h c
  · omega
theorem MemM.touch_wf {m : MemM} (h : m.wf) (who op cell old next : Int) (hn : 0 ≤ next ∧ next < 18446744073709551616) : (m.touch who op cell old next).wf := by
  unfold MemM.touch
  split
  · intro x hx
    rcases List.mem_or_eq_of_mem_set hx with hx | rfl
    · exact h x hx
    · have := getI_wf h cell
      unfold opNew
      (repeat' split) <;> omega
  · exact h
theorem MemM.touch_length (m : MemM) (who op cell old next : Int) : (m.touch who op cell old next).cells.length = m.cells.length := by
  unfold MemM.touch; split <;> simp [setI]
theorem MemM.touch_log (m : MemM) (who op cell old next : Int) : (m.touch who op cell old next).log.length ≤ m.log.length + 1 := by
  unfold MemM.touch; split <;> simp

/-! ### Stamps, words, the layout -/
structure StampM where
  lo : Int
  hi : Int
  deriving DecidableEq
def StampM.right (s : StampM) : Bool := decide (0 ≤ s.lo) && decide (s.lo ≤ s.hi) && decide (s.hi < Top)
def StampM.before (s o : StampM) : Bool := decide (s.hi < o.lo)
def cmpI (a b : Int) : Int := if a < b then -1 else if a > b then 1 else 0
def StampM.cmp (s o : StampM) : Int := if cmpI s.lo o.lo ≠ 0 then cmpI s.lo o.lo else cmpI s.hi o.hi
abbrev point (n : Int) : StampM := ⟨n, n⟩
structure WordM where
  state : Int
  fin : Int
  gen : Int
  stamp : StampM
  deriving DecidableEq
def WordM.right (w : WordM) : Bool :=
  decide (0 ≤ w.state) && decide (w.state ≤ 2) && (decide (w.fin = 0) || decide (w.fin = 1)) && decide (0 ≤ w.gen) && decide (w.gen ≤ 8191) && decide (0 ≤ w.stamp.lo) && decide (w.stamp.lo ≤ Top) && decide (0 ≤ w.stamp.hi) && decide (w.stamp.hi ≤ Top)
def WordM.pack (w : WordM) : Int := if w.right then w.state + w.fin * 4 + w.gen * 8 + w.stamp.lo * 65536 + w.stamp.hi * 1099511627776 else 0
def unpack (x : Int) : WordM := ⟨x % 4, x / 4 % 2, x / 8 % 8192, ⟨x / 65536 % 16777216, x / 1099511627776 % 16777216⟩⟩
def WordM.taken (w : WordM) : WordM := { w with state := 2 }
def WordM.next (w : WordM) (e : Int) (s : StampM) : WordM := ⟨1, e, w.gen + 1, s⟩
structure ConfM where
  th : Int
  sl : Int
  src : Int
  dl : Int
  deriving DecidableEq
def ConfM.right (c : ConfM) : Bool :=
  decide (1 ≤ c.th) && decide (c.th ≤ 64) && decide (1 ≤ c.sl) && decide (c.sl ≤ 64) && decide (0 ≤ c.src) && decide (c.src ≤ 4) && decide (0 ≤ c.dl) && decide (c.dl ≤ 100)
structure ConfM.ok (c : ConfM) : Prop where
  th1 : 1 ≤ c.th
  th2 : c.th ≤ 64
  sl1 : 1 ≤ c.sl
  sl2 : c.sl ≤ 64
  src1 : 0 ≤ c.src
  src2 : c.src ≤ 4
  dl1 : 0 ≤ c.dl
  dl2 : c.dl ≤ 100
theorem ConfM.right_ok {c : ConfM} : c.right = true ↔ c.ok := by
  simp only [ConfM.right, Bool.and_eq_true, decide_eq_true_eq]
  exact ⟨fun ⟨⟨⟨⟨⟨⟨⟨a, b⟩, c⟩, d⟩, e⟩, f⟩, g⟩, h⟩ => ⟨a, b, c, d, e, f, g, h⟩, fun ⟨a, b, c, d, e, f, g, h⟩ => ⟨⟨⟨⟨⟨⟨⟨a, b⟩, c⟩, d⟩, e⟩, f⟩, g⟩, h⟩⟩
def ConfM.all (c : ConfM) : Int := c.th * c.sl
def ConfM.first (c : ConfM) (t : Int) : Int := t * c.sl
def ConfM.value (c : ConfM) (s : Int) : Int := c.all + s
def ConfM.hazard (c : ConfM) (t : Int) : Int := 2 * c.all + t
def ConfM.number (c : ConfM) (t : Int) : Int := 2 * c.all + c.th + t
def ConfM.cells (c : ConfM) : Int := 2 * c.all + 2 * c.th
theorem ConfM.ok.all_bd {c : ConfM} (h : c.ok) : 1 ≤ c.all ∧ c.all ≤ 4096 := by
  have := h.th1; have := h.th2; have := h.sl1; have := h.sl2
  unfold ConfM.all
  constructor
  · have := Int.mul_le_mul h.th1 h.sl1 (by omega) (by omega); omega
  · have := Int.mul_le_mul h.th2 h.sl2 (by omega) (by omega); omega
theorem ConfM.ok.first_bd {c : ConfM} (h : c.ok) {t : Int} (h0 : 0 ≤ t) (h1 : t < c.th) : 0 ≤ c.first t ∧ c.first t + c.sl ≤ c.all := by
  have := h.sl1
  unfold ConfM.all ConfM.first
  constructor
  · exact Int.mul_nonneg h0 (by omega)
  · have e : t * c.sl + c.sl = (t + 1) * c.sl := by rw [Int.add_mul, Int.one_mul]
    rw [e]
    exact Int.mul_le_mul_of_nonneg_right (by omega) (by omega)

/-! ### How stamps are made -/
structure TickM where
  conf : ConfM
  who : Int
  steps : Int
  a : Int
  b : Int
  stamp : StampM
  phase : Int
  deriving DecidableEq
def TickM.new (c : ConfM) (who : Int) : TickM := ⟨c, who, 0, 0, 0, ⟨0, 0⟩, 0⟩
def TickM.done (t : TickM) (s : StampM) : TickM := if s.right then { t with phase := 1, stamp := s } else { t with phase := 2 }
def cap (x : Int) : Int := min x Top
def TickM.read (t : TickM) (m : MemM) (th : Int) : Int := cap (m.peek (t.conf.number th))
def TickM.load (t : TickM) (m : MemM) (th : Int) : MemM := m.touch t.who 0 (t.conf.number th) 0 0
def TickM.stutter (t : TickM) (m : MemM) : TickM × MemM :=
  if t.steps < t.conf.th then ({ t with a := max t.a (t.read m t.steps) }, t.load m t.steps)
  else
    let t' := t.done (point (t.a + 1))
    (t', if t'.phase = 1 then m.touch t.who 1 (t.conf.number t.who) 0 (t.a + 1) else m)
def TickM.swap (t : TickM) (m : MemM) : TickM × MemM :=
  if t.steps = 0 then
    let a := t.read m 0
    ({ t with a := a, phase := if a ≥ Top then 2 else t.phase }, t.load m 0)
  else if t.steps = 1 then
    let b := t.read m 0
    (if b ≠ t.a then { t with b := b }.done ⟨t.a, b - 1⟩ else { t with b := b }, t.load m 0)
  else if t.steps = 2 then
    (if m.okOf 2 (t.conf.number 0) t.a then t.done (point t.a) else t, m.touch t.who 2 (t.conf.number 0) t.a (t.a + 1))
  else if t.steps = 3 then
    let b := t.read m 0
    ({ t with b := b }.done ⟨t.a, b - 1⟩, t.load m 0)
  else (t, m)
def TickM.step (t : TickM) (m : MemM) (now0 : Int) : TickM × MemM :=
  if t.phase ≠ 0 then (t, m) else
  let now := cap now0
  let r : TickM × MemM :=
    if t.conf.src = 0 then (t.done (point (cap (m.peek (t.conf.number 0)))), m.touch t.who 3 (t.conf.number 0) 0 1)
    else if t.conf.src = 1 then t.stutter m
    else if t.conf.src = 2 then t.swap m
    else if t.conf.src = 4 then
      let t1 := if t.steps = 0 then { t with a := now } else t
      if t.steps ≤ t.conf.dl then (t1, m) else (t1.done ⟨t1.a, now⟩, m)
    else (t.done (point now), m)
  ({ r.1 with steps := r.1.steps + 1 }, r.2)

/-! ### A place that may be used anew -/
structure ClaimM where
  conf : ConfM
  who : Int
  k : Int
  guard : Int
  word : WordM
  phase : Int
  deriving DecidableEq
def ClaimM.new (c : ConfM) (who : Int) : ClaimM := ⟨c, who, 0, -1, ⟨0, 0, 0, ⟨0, 0⟩⟩, 0⟩
def ClaimM.slot (c : ClaimM) : Int := c.conf.first c.who + c.k
def ClaimM.pass (c : ClaimM) : ClaimM := if c.k + 1 = c.conf.sl then { c with guard := -1, phase := 2 } else { c with guard := -1, k := c.k + 1 }
def ClaimM.look (c : ClaimM) (m : MemM) : ClaimM × MemM :=
  let w := unpack (m.peek c.slot)
  let c1 := { c with word := w }
  (if w.gen ≥ 8191 then c1.pass else if w.state = 0 then { c1 with phase := 1 } else if w.state = 2 then { c1 with guard := 0 } else c1.pass, m.touch c.who 0 c.slot 0 0)
def ClaimM.step (c : ClaimM) (m : MemM) : ClaimM × MemM :=
  if c.phase ≠ 0 then (c, m)
  else if c.guard < 0 then c.look m
  else
    (if m.peek (c.conf.hazard c.guard) = c.slot + 1 then c.pass
     else if c.guard + 1 = c.conf.th then { c with guard := c.guard + 1, phase := 1 } else { c with guard := c.guard + 1 },
     m.touch c.who 0 (c.conf.hazard c.guard) 0 0)

/-! ### All places at one time -/
structure SnapM where
  conf : ConfM
  who : Int
  start : Int
  k : Int
  pass : Int
  same : Bool
  words : List Int
  phase : Int
  deriving DecidableEq
def SnapM.new (c : ConfM) (who start : Int) : SnapM := ⟨c, who, start % 18446744073709551616 % c.all, 0, 0, false, List.replicate c.all.toNat 0, 0⟩
def SnapM.slot (s : SnapM) : Int := (s.start + s.k) % s.conf.all
def SnapM.step (s : SnapM) (m : MemM) : SnapM × MemM :=
  if s.phase ≠ 0 then (s, m) else
  let same0 := if s.k = 0 then decide (s.pass > 0) else s.same
  let x := m.peek s.slot
  let same := same0 && decide (x = getI s.words s.slot)
  let s1 := { s with same := same, words := setI s.words s.slot x, k := s.k + 1 }
  (if s.k + 1 < s.conf.all then s1 else { s1 with k := 0, pass := s.pass + 1, phase := if same then 1 else 0 }, m.touch s.who 0 s.slot 0 0)

/-! ### What is in a place is taken -/
structure TakeM where
  conf : ConfM
  who : Int
  slot : Int
  word : Int
  steps : Int
  lost : Bool
  value : Int
  phase : Int
  deriving DecidableEq
def TakeM.new (c : ConfM) (who slot word : Int) : TakeM := ⟨c, who, slot, word, 0, false, 0, 0⟩
def TakeM.fin (t : TakeM) (m : MemM) : TakeM × MemM := ({ t with phase := if t.lost then 2 else 1 }, m.touch t.who 1 (t.conf.hazard t.who) 0 0)
def TakeM.step (t : TakeM) (m : MemM) : TakeM × MemM :=
  if t.phase ≠ 0 then (t, m)
  else if t.lost then t.fin m
  else
    let r : TakeM × MemM :=
      if t.steps = 0 then (t, m.touch t.who 1 (t.conf.hazard t.who) 0 (t.slot + 1))
      else if t.steps = 1 then ({ t with lost := !decide (m.peek t.slot = t.word) }, m.touch t.who 0 t.slot 0 0)
      else if t.steps = 2 then ({ t with value := m.peek (t.conf.value t.slot) }, m.touch t.who 0 (t.conf.value t.slot) 0 0)
      else if t.steps = 3 then ({ t with lost := !m.okOf 2 t.slot t.word }, m.touch t.who 2 t.slot t.word (unpack t.word).taken.pack)
      else t.fin m
    ({ r.1 with steps := r.1.steps + 1 }, r.2)
def TakeM.get (t : TakeM) : Int := if t.phase = 1 then t.value else 0

/-! ### A value is put in -/
structure PutM where
  conf : ConfM
  who : Int
  fin : Int
  value : Int
  claim : ClaimM
  tick : TickM
  stored : Bool
  phase : Int
  deriving DecidableEq
def PutM.new (c : ConfM) (who fin value : Int) : PutM := ⟨c, who, fin, value, ClaimM.new c who, TickM.new c who, false, 0⟩
def PutM.step (p : PutM) (m : MemM) (now : Int) : PutM × MemM :=
  if p.phase ≠ 0 then (p, m)
  else if p.claim.phase = 0 then
    let r := p.claim.step m
    ({ p with claim := r.1, phase := if r.1.phase = 2 then 2 else p.phase }, r.2)
  else if p.tick.phase = 0 then
    let r := p.tick.step m now
    ({ p with tick := r.1, phase := if r.1.phase = 2 then 2 else p.phase }, r.2)
  else if p.stored = false then ({ p with stored := true }, m.touch p.who 1 (p.conf.value p.claim.slot) 0 p.value)
  else ({ p with phase := 1 }, m.touch p.who 1 p.claim.slot 0 (p.claim.word.next p.fin p.tick.stamp).pack)

/-! ### What stands at an end -/
/-- Is the thing in place a (word x) ahead of that in place b (word y), among things of the right end? -/
def laterB (x : WordM) (a : Int) (y : WordM) (b : Int) : Bool :=
  let c := x.stamp.cmp y.stamp
  decide (c > 0) || (decide (c = 0) && decide (a > b))
def aheadB (words : List Int) (a b : Int) : Bool :=
  let x := unpack (getI words a)
  let y := unpack (getI words b)
  if x.fin ≠ y.fin then decide (x.fin = 0)
  else if x.fin = 0 then laterB x a y b else laterB y b x a
def insB (words : List Int) (i : Int) : List Int → List Int
  | [] => [i]
  | a :: l => if aheadB words a i then a :: insB words i l else i :: a :: l
/-- The places in which something is, from left to right, out of the first n. -/
def rowM (words : List Int) : Nat → List Int
  | 0 => []
  | n + 1 => if (unpack (getI words n)).state = 1 then insB words n (rowM words n) else rowM words n
def orderM (words : List Int) : List Int := rowM words words.length
def atM (words : List Int) (e : Int) : Int :=
  match orderM words with
  | [] => -1
  | a :: l => if e = 0 then a else (a :: l).getLast (by simp)

/-! ### What stands at an end is taken -/
structure GetM where
  conf : ConfM
  who : Int
  fin : Int
  start : Int
  snap : SnapM
  take : Option TakeM
  tries : Int
  value : Int
  phase : Int
  deriving DecidableEq
def GetM.new (c : ConfM) (who fin start : Int) : GetM := ⟨c, who, fin, start, SnapM.new c who start, none, 0, 0, 0⟩
def GetM.chosen (g : GetM) : GetM :=
  let slot := atM g.snap.words g.fin
  if slot < 0 then { g with phase := 2 } else { g with take := some (TakeM.new g.conf g.who slot (getI g.snap.words slot)) }
def GetM.step (g : GetM) (m : MemM) : GetM × MemM :=
  if g.phase ≠ 0 then (g, m)
  else match g.take with
  | none =>
    let r := g.snap.step m
    let g1 := { g with snap := r.1 }
    (if r.1.phase = 1 then g1.chosen else g1, r.2)
  | some t =>
    let r := t.step m
    (if r.1.phase = 1 then { g with take := some r.1, value := r.1.get, phase := 1 }
     else if r.1.phase = 2 then { g with tries := g.tries + 1, take := none, snap := SnapM.new g.conf g.who g.start }
     else { g with take := some r.1 }, r.2)

/-! ### Calls, and threads that share cells -/
structure CallM where
  kind : Int
  fin : Int
  value : Int
  start : Int
  deriving DecidableEq
def CallM.right (c : CallM) : Bool := (decide (c.kind = 0) || decide (c.kind = 1)) && (decide (c.fin = 0) || decide (c.fin = 1))
structure ReplyM where
  ok : Bool
  value : Int
  stamp : StampM
  deriving DecidableEq
def ReplyM.zero : ReplyM := ⟨false, 0, ⟨0, 0⟩⟩
inductive WorkM where
  | put (p : PutM)
  | get (g : GetM)
  deriving DecidableEq
structure TaskM where
  call : CallM
  work : WorkM
  deriving DecidableEq
def TaskM.new (c : ConfM) (who : Int) (call : CallM) : TaskM :=
  ⟨call, if call.kind = 0 then .put (PutM.new c who call.fin call.value) else .get (GetM.new c who call.fin call.start)⟩
def WorkM.phase : WorkM → Int
  | .put p => p.phase
  | .get g => g.phase
def TaskM.step (t : TaskM) (m : MemM) (now : Int) : TaskM × MemM :=
  match t.work with
  | .put p => let r := p.step m now; (⟨t.call, .put r.1⟩, r.2)
  | .get g => let r := g.step m; (⟨t.call, .get r.1⟩, r.2)
def TaskM.over (t : TaskM) : Bool := !decide (t.work.phase = 0)
def TaskM.reply (t : TaskM) : ReplyM :=
  if t.work.phase ≠ 1 then .zero else
  match t.work with
  | .put p => ⟨true, 0, p.tick.stamp⟩
  | .get g => ⟨true, g.value, ⟨0, 0⟩⟩
structure DeedM where
  who : Int
  call : CallM
  start : Int
  stop : Int
  reply : ReplyM
  deriving DecidableEq
structure YardM where
  conf : ConfM
  mem : MemM
  tasks : List (Option TaskM)
  deeds : List DeedM
  mine : List Int
  moves : Int
  now : Int
abbrev MaxTime : Int := 1099511627776
def YardM.new (c : ConfM) : YardM := ⟨c, MemM.new c.cells.toNat, List.replicate c.th.toNat none, [], List.replicate c.th.toNat 0, 0, 0⟩
def YardM.there (y : YardM) (who : Int) : Bool := decide (0 ≤ who) && decide (who < y.conf.th)
def YardM.task (y : YardM) (who : Int) : Option TaskM := (y.tasks[who.toNat]?).join
def YardM.busy (y : YardM) (who : Int) : Bool := y.there who && (y.task who).isSome
def YardM.call (y : YardM) (who : Int) (c : CallM) : YardM × Int :=
  if !y.there who || !c.right then (y, 1)
  else if (y.task who).isSome then (y, 2)
  else ({ y with tasks := y.tasks.set who.toNat (some (TaskM.new y.conf who c)), mine := y.mine.set who.toNat y.deeds.length, deeds := y.deeds ++ [⟨who, c, y.moves, -1, .zero⟩], moves := y.moves + 1 }, 0)
def YardM.pass (y : YardM) (n : Int) : YardM := if n > 0 then { y with now := y.now + min n (MaxTime - y.now) } else y
def YardM.step (y : YardM) (who : Int) : YardM × Bool :=
  if !y.busy who then (y, false) else
  match y.task who with
  | none => (y, false)
  | some t =>
    let r := t.step y.mem y.now
    let y1 := { y with mem := r.2, tasks := y.tasks.set who.toNat (some r.1) }
    let y2 := if r.1.over then { y1 with deeds := y1.deeds.modify (getI y.mine who).toNat (fun d => { d with stop := y.moves, reply := r.1.reply }), tasks := y1.tasks.set who.toNat none } else y1
    ({ y2 with moves := y2.moves + 1 }.pass 1, true)
end Go.Proofs.Ytdhcomklmckhoaa
