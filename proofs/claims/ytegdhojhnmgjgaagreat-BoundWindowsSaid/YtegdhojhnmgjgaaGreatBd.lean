/- Several texts in one: AuditM Proto ProtoB ProtoC ProtoD YardV LogW. Each says ahead of it what it shows. -/
import Derived.Test.YtegdhojhnmgjgaaGreatB1
import Derived.Test.YtegdhojhnmgjgaaGreatBc
import Derived.Test.YtegdhojhnmgjgaaGreatB6
import Derived.Test.YtegdhojhnmgjgaaGreatB8
set_option linter.unusedVariables false
set_option linter.unusedSimpArgs false
/- What may be done to cells, by the page: plain Lean, no program. -/
namespace Go.Proofs.YtegdhojhnmgjgaaGreat
/-- Numbers as the program holds them. -/
def Ev.wf (e : Ev) : Prop := (-9223372036854775808 ≤ e.who ∧ e.who < 9223372036854775808) ∧ (-9223372036854775808 ≤ e.cell ∧ e.cell < 9223372036854775808) ∧ (0 ≤ e.old ∧ e.old < 18446744073709551616) ∧ (0 ≤ e.new ∧ e.new < 18446744073709551616)
def u64M (x : Int) : Int := x % 18446744073709551616
def kindM (c : ConfM) (cell : Int) : Int × Int :=
  if cell < 0 ∨ c.cells ≤ cell then (0, 0) else if cell < c.all then (1, cell) else if cell < 2 * c.all then (2, cell - c.all)
  else if cell < 2 * c.all + c.th then (3, cell - 2 * c.all) else (4, cell - 2 * c.all - c.th)
def ownerM (c : ConfM) (slot : Int) : Int := Int.tdiv slot c.sl
def wordB (c : ConfM) (e : Ev) (slot : Int) : Bool :=
  if e.op = 0 then true
  else if e.op = 1 then e.who == ownerM c slot && (unpack e.old).state != 1 && (unpack e.new).stamp.right && decide (unpack e.new = (unpack e.old).next (unpack e.new).fin (unpack e.new).stamp)
  else if e.op = 2 then !e.ok || ((unpack e.old).state == 1 && decide (unpack e.new = (unpack e.old).taken))
  else false
def valueB (c : ConfM) (last : Int → Int) (rd : Option Int) (e : Ev) (slot : Int) : Bool :=
  if e.op = 0 then (match rd with | none => false | some g => g == (unpack (last slot)).gen && last (c.hazard e.who) == u64M (slot + 1))
  else if e.op = 1 then e.who == ownerM c slot && (unpack (last slot)).state != 1
  else false
def numberB (c : ConfM) (e : Ev) (t : Int) : Bool :=
  if c.src = 0 then t == 0 && e.op == 3 && e.new == u64M (e.old + 1)
  else if c.src = 1 then e.op == 0 || (e.op == 1 && e.who == t && decide (e.new > e.old))
  else if c.src = 2 then t == 0 && (e.op == 0 || (e.op == 2 && (!e.ok || e.new == u64M (e.old + 1))))
  else false
/-- May a cell be touched so, where 'last' is what cells are and 'rd' the Gen that the thread loaded last of a place? -/
def mayM (c : ConfM) (last : Int → Int) (rd : Int → Option Int) (e : Ev) : Bool :=
  if e.who < 0 ∨ c.th ≤ e.who then false
  else match kindM c e.cell with
    | (1, n) => wordB c e n
    | (2, n) => valueB c last (rd n) e n
    | (3, n) => e.op == 0 || (e.op == 1 && e.who == n)
    | (4, n) => numberB c e n
    | _ => false
/-- What a cell is behind events. -/
def lastM (l : List Ev) (cell : Int) : Int := l.foldl (fun x e => if e.cell = cell then e.new else x) 0
/-- The last word that a thread loaded of a cell. -/
def loadedM : List Ev → Int → Int → Option Int
  | [], _, _ => none
  | e :: l, who, cell => match loadedM l who cell with
    | some x => some x
    | none => if e.who = who ∧ e.cell = cell ∧ e.op = 0 then some e.old else none
def rdM (l : List Ev) (who : Int) (slot : Int) : Option Int := (loadedM l who slot).map fun x => (unpack x).gen
def okM (c : ConfM) (l : List Ev) (e : Ev) : Bool := e.old == lastM l e.cell && mayM c (lastM l) (rdM l e.who) e
/-- The first of the events l, behind those of pre, that may not be; -1: none. -/
def firstM (c : ConfM) : List Ev → List Ev → Int
  | _, [] => -1
  | pre, e :: l => if okM c pre e then firstM c (pre ++ [e]) l else pre.length
theorem lastM_snoc (l : List Ev) (e : Ev) (cell : Int) : lastM (l ++ [e]) cell = if e.cell = cell then e.new else lastM l cell := by
  unfold lastM
  rw [List.foldl_append]
  rfl
theorem loadedM_snoc (e : Ev) (who cell : Int) : ∀ l : List Ev, loadedM (l ++ [e]) who cell = if e.who = who ∧ e.cell = cell ∧ e.op = 0 then some e.old else loadedM l who cell
  | [] => by
    simp only [List.nil_append, loadedM]
  | x :: l => by
    rw [List.cons_append, loadedM, loadedM_snoc e who cell l, loadedM]
    by_cases h : e.who = who ∧ e.cell = cell ∧ e.op = 0
    · rw [if_pos h, if_pos h]
    · rw [if_neg h, if_neg h]
theorem rdM_snoc (l : List Ev) (e : Ev) (who slot : Int) : rdM (l ++ [e]) who slot = if e.who = who ∧ e.cell = slot ∧ e.op = 0 then some (unpack e.old).gen else rdM l who slot := by
  unfold rdM
  rw [loadedM_snoc]
  by_cases h : e.who = who ∧ e.cell = slot ∧ e.op = 0
  · rw [if_pos h, if_pos h]; rfl
  · rw [if_neg h, if_neg h]
theorem firstM_bd (c : ConfM) : ∀ (l pre : List Ev), firstM c pre l = -1 ∨ ((pre.length : Int) ≤ firstM c pre l ∧ firstM c pre l < pre.length + l.length)
  | [], pre => .inl rfl
  | e :: l, pre => by
    unfold firstM
    by_cases h : okM c pre e = true
    · rw [if_pos h]
      have := firstM_bd c l (pre ++ [e])
      simp only [List.length_append, List.length_cons, List.length_nil] at this ⊢
      omega
    · rw [if_neg h]
      right
      simp only [List.length_cons]
      omega
/-- Of a beginning. -/
theorem firstM_append (c : ConfM) : ∀ (l m pre : List Ev), firstM c pre (l ++ m) = if firstM c pre l = -1 then firstM c (pre ++ l) m else firstM c pre l
  | [], m, pre => by simp [firstM]
  | e :: l, m, pre => by
    rw [List.cons_append, firstM, firstM]
    by_cases h : okM c pre e = true
    · rw [if_pos h, if_pos h, firstM_append c l m (pre ++ [e])]
      simp only [List.append_assoc, List.cons_append, List.nil_append]
    · rw [if_neg h, if_neg h, if_neg (by omega)]
theorem firstM_take (c : ConfM) (l : List Ev) (n : Nat) (h : firstM c [] l = (n : Int)) : firstM c [] (l.take n) = -1 := by
  have hb := firstM_bd c (l.take n) []
  have ha := firstM_append c (l.take n) (l.drop n) []
  rw [List.take_append_drop, h] at ha
  by_cases hf : firstM c [] (l.take n) = -1
  · exact hf
  · rw [if_neg hf] at ha
    rcases hb with hb | hb
    · exact hb
    · have : (l.take n).length ≤ n := by rw [List.length_take]; omega
      simp only [List.length_nil] at hb
      omega
end Go.Proofs.YtegdhojhnmgjgaaGreat
/- Whatever a yard does to its cells may be done (the plain law of AuditYards): what is kept from step to step. No condition but a Right layout. -/
namespace Go.Proofs.YtegdhojhnmgjgaaGreat
/-! ### What is noted is what may be -/
structure Logd (c : ConfM) (m : MemM) : Prop where
  cl : (m.cells.length : Int) = c.cells
  last : ∀ i, 0 ≤ i → i < c.cells → lastM m.log i = getI m.cells i
  first : firstM c [] m.log = -1
def evT (m : MemM) (w op cell old next : Int) : Ev := ⟨w, op, cell, getI m.cells cell, opNew op (getI m.cells cell) old next, opOk op (getI m.cells cell) old⟩
theorem touch_in' {m : MemM} {w op cell old next : Int} (h : m.has cell) : (m.touch w op cell old next).cells = setI m.cells cell (opNew op (getI m.cells cell) old next) ∧ (m.touch w op cell old next).log = m.log ++ [evT m w op cell old next] := by
  unfold MemM.touch; rw [if_pos h]; exact ⟨rfl, rfl⟩
theorem setI_len (l : List Int) (i x : Int) : (setI l i x).length = l.length := by simp [setI]
theorem Logd.has {c : ConfM} {m : MemM} (h : Logd c m) {cell : Int} (h0 : 0 ≤ cell) (h1 : cell < c.cells) : m.has cell := ⟨h0, by rw [h.cl]; exact h1⟩
theorem Logd.peek {c : ConfM} {m : MemM} (h : Logd c m) {cell : Int} (h0 : 0 ≤ cell) (h1 : cell < c.cells) : m.peek cell = getI m.cells cell := by
  unfold MemM.peek; rw [if_pos (h.has h0 h1)]
theorem Logd.touch {c : ConfM} {m : MemM} (h : Logd c m) {w op cell old next : Int} (h0 : 0 ≤ cell) (h1 : cell < c.cells) (hm : mayM c (lastM m.log) (rdM m.log w) (evT m w op cell old next) = true) : Logd c (m.touch w op cell old next) := by
  have hh := h.has h0 h1
  obtain ⟨e1, e2⟩ := touch_in' (w := w) (op := op) (old := old) (next := next) hh
  refine ⟨by rw [e1, setI_len]; exact h.cl, fun i i0 i1 => ?_, ?_⟩
  · rw [e1, e2, lastM_snoc]
    show (if cell = i then opNew op (getI m.cells cell) old next else lastM m.log i) = _
    by_cases q : cell = i
    · subst q
      rw [if_pos rfl, getI_setI_of _ _ _ h0 (by rw [h.cl]; exact h1)]
    · rw [if_neg q, getI_setI_ne _ _ _ _ h0 i0 (Ne.symm q)]
      exact h.last i i0 i1
  · rw [e2, firstM_append, h.first, if_pos rfl, List.nil_append]
    show (if okM c m.log (evT m w op cell old next) = true then -1 else _) = -1
    rw [if_pos]
    unfold okM
    rw [Bool.and_eq_true]
    refine ⟨?_, hm⟩
    show (getI m.cells cell == lastM m.log cell) = true
    rw [h.last cell h0 h1]; simp
section
variable {c : ConfM} (hc : c.ok) {f : Int → Int} {r : Int → Option Int} {e : Ev} (hw : 0 ≤ e.who ∧ e.who < c.th)
include hc hw
theorem may_word (h0 : 0 ≤ e.cell) (h1 : e.cell < c.all) : mayM c f r e = wordB c e e.cell := by
  have := hc.all_bd
  have := hc.th1
  unfold mayM kindM
  rw [if_neg (by omega), if_neg (by unfold ConfM.cells; omega), if_pos h1]
  rfl
theorem may_value {s : Int} (hs : e.cell = c.value s) (h0 : 0 ≤ s) (h1 : s < c.all) : mayM c f r e = valueB c f (r s) e s := by
  have := hc.all_bd
  have := hc.th1
  have hs' : e.cell = c.all + s := hs
  unfold mayM kindM
  rw [if_neg (by omega), if_neg (by unfold ConfM.cells; omega), if_neg (by omega), if_pos (by omega), show e.cell - c.all = s by omega]
  rfl
theorem may_hazard {t : Int} (hs : e.cell = c.hazard t) (h0 : 0 ≤ t) (h1 : t < c.th) : mayM c f r e = (e.op == 0 || (e.op == 1 && e.who == t)) := by
  have := hc.all_bd
  have hs' : e.cell = 2 * c.all + t := hs
  unfold mayM kindM
  rw [if_neg (by omega), if_neg (by unfold ConfM.cells; omega), if_neg (by omega), if_neg (by omega), if_pos (by omega), show e.cell - 2 * c.all = t by omega]
  rfl
theorem may_number {t : Int} (hs : e.cell = c.number t) (h0 : 0 ≤ t) (h1 : t < c.th) : mayM c f r e = numberB c e t := by
  have := hc.all_bd
  have hs' : e.cell = 2 * c.all + c.th + t := hs
  unfold mayM kindM
  rw [if_neg (by omega), if_neg (by unfold ConfM.cells; omega), if_neg (by omega), if_neg (by omega), if_neg (by omega), show e.cell - 2 * c.all - c.th = t by omega]
  rfl
end
/-! ### What is known of a thread's call -/
abbrev wdM (m : MemM) (s : Int) : WordM := unpack (getI m.cells s)
structure ClaimI (c : ConfM) (m : MemM) (cl : ClaimM) : Prop where
  k0 : 0 ≤ cl.k
  k1 : cl.k < c.sl
  g0 : -1 ≤ cl.guard
  g1 : cl.phase = 0 → cl.guard < c.th
  cw : (0 ≤ cl.guard ∨ cl.phase = 1) → wdM m cl.slot = cl.word ∧ cl.word.state ≠ 1 ∧ cl.word.gen < 8191
  cg : cl.phase = 1 → cl.word.state = 0 ∨ cl.guard = c.th
  ph : cl.phase = 0 ∨ cl.phase = 1
structure TickI (c : ConfM) (m : MemM) (w : Int) (t : TickM) : Prop where
  st : t.phase = 1 → t.stamp.right = true
  a0 : 0 ≤ t.a
  a1 : t.a ≤ 16777215
  s0 : 0 ≤ t.steps
  nu : c.src = 1 → t.phase = 0 → w < t.steps → getI m.cells (c.number w) ≤ t.a
  ph : t.phase = 0 ∨ t.phase = 1
structure PutI (c : ConfM) (m : MemM) (w : Int) (p : PutM) : Prop where
  own : p.own c w
  phase : p.phase = 0
  claim : ClaimI c m p.claim
  tick : TickI c m w p.tick
  fin : p.fin = 0 ∨ p.fin = 1
  val : 0 ≤ p.value ∧ p.value < 18446744073709551616
structure TakeI (c : ConfM) (m : MemM) (ts : List (Option TaskM)) (w : Int) (t : TakeM) : Prop where
  own : t.own c w
  s0 : 0 ≤ t.slot
  s1 : t.slot < c.all
  live : (unpack t.word).state = 1
  st : 0 ≤ t.steps
  hz : 1 ≤ t.steps → getI m.cells (c.hazard w) = t.slot + 1
  rd : t.steps = 2 → t.lost = false → rdM m.log w t.slot = some (unpack t.word).gen ∧ (wdM m t.slot).gen = (unpack t.word).gen ∧ (wdM m t.slot).state ≠ 0 ∧
    ∀ (o : Nat) k p, ts[o]? = some (some ⟨k, .put p⟩) → p.claim.slot = t.slot → p.claim.guard ≤ w
structure GetI (c : ConfM) (m : MemM) (ts : List (Option TaskM)) (w : Int) (g : GetM) : Prop where
  own : g.own c w
  phase : g.phase = 0
  len : (g.snap.words.length : Int) = c.all
  take : ∀ t, g.take = some t → TakeI c m ts w t ∧ t.phase = 0
structure Proto (c : ConfM) (m : MemM) (ts : List (Option TaskM)) : Prop where
  conf : c.ok
  wf : m.wf
  logd : Logd c m
  tl : (ts.length : Int) = c.th
  num : c.src = 1 → ∀ o, 0 ≤ o → o < c.th → getI m.cells (c.number o) < Top
  put : ∀ (o : Nat) k p, ts[o]? = some (some ⟨k, .put p⟩) → PutI c m o p
  get : ∀ (o : Nat) k g, ts[o]? = some (some ⟨k, .get g⟩) → GetI c m ts o g
/-! ### What others' steps turn -/
structure Chg (c : ConfM) (m m' : MemM) (ts : List (Option TaskM)) (w : Nat) : Prop where
  words : ∀ s, 0 ≤ s → s < c.all → getI m'.cells s = getI m.cells s ∨ ((wdM m s).state = 1 ∧ wdM m' s = (wdM m s).taken) ∨ (∃ k p, ts[w]? = some (some ⟨k, .put p⟩) ∧ p.claim.slot = s ∧ p.claim.phase = 1)
  haz : ∀ o, 0 ≤ o → o < c.th → o ≠ w → getI m'.cells (c.hazard o) = getI m.cells (c.hazard o)
  num : c.src = 1 → ∀ o, 0 ≤ o → o < c.th → o ≠ w → getI m'.cells (c.number o) = getI m.cells (c.number o)
  rd : ∀ o : Int, o ≠ w → ∀ s, rdM m'.log o s = rdM m.log o s
theorem slot_bdM {c : ConfM} (hc : c.ok) {o k : Int} (h0 : 0 ≤ o) (h1 : o < c.th) (k0 : 0 ≤ k) (k1 : k < c.sl) : 0 ≤ c.first o + k ∧ c.first o + k < c.all := by
  have := hc.first_bd h0 h1
  omega
theorem slot_owner {c : ConfM} {o k : Int} (h0 : 0 ≤ o) (k0 : 0 ≤ k) (k1 : k < c.sl) : ownerM c (c.first o + k) = o := by
  have hs : 0 < c.sl := by omega
  have hn : 0 ≤ o * c.sl := Int.mul_nonneg h0 (by omega)
  unfold ownerM ConfM.first
  rw [Int.tdiv_eq_ediv_of_nonneg (by omega), Int.add_comm, Int.add_mul_ediv_right _ _ (by omega), Int.ediv_eq_zero_of_lt k0 k1]
  omega
theorem slot_inj {c : ConfM} {o o' k k' : Int} (h0 : 0 ≤ o) (h0' : 0 ≤ o') (k0 : 0 ≤ k) (k1 : k < c.sl) (k0' : 0 ≤ k') (k1' : k' < c.sl) (e : c.first o + k = c.first o' + k') : o = o' := by
  rw [← slot_owner h0 k0 k1, e, slot_owner h0' k0' k1']
theorem at_th {c : ConfM} {ts : List (Option TaskM)} (tl : (ts.length : Int) = c.th) {o : Nat} {t : Option TaskM} (h : ts[o]? = some t) : (o : Int) < c.th := by
  have := lt_of_at h
  omega
section
variable {c : ConfM} {m m' : MemM} {ts : List (Option TaskM)} {w : Nat}
theorem PutI.slot_bd (hc : c.ok) {o : Int} {p : PutM} (h : PutI c m o p) (h0 : 0 ≤ o) (h1 : o < c.th) : p.claim.slot = c.first o + p.claim.k ∧ 0 ≤ p.claim.slot ∧ p.claim.slot < c.all := by
  have e : p.claim.slot = c.first o + p.claim.k := by unfold ClaimM.slot; rw [h.own.claim.conf, h.own.claim.who]
  rw [e]
  exact ⟨rfl, slot_bdM hc h0 h1 h.claim.k0 h.claim.k1⟩
theorem PutI.frame (h : Proto c m ts) (hg : Chg c m m' ts w) {o : Nat} {k : CallM} {p : PutM} (ho : ts[o]? = some (some ⟨k, .put p⟩)) (hne : o ≠ w) : PutI c m' o p := by
  have hp := h.put o k p ho
  have ht := at_th h.tl ho
  obtain ⟨e, b0, b1⟩ := hp.slot_bd h.conf (by omega) ht
  refine ⟨hp.own, hp.phase, ⟨hp.claim.k0, hp.claim.k1, hp.claim.g0, hp.claim.g1, fun q => ?_, hp.claim.cg, hp.claim.ph⟩, ⟨hp.tick.st, hp.tick.a0, hp.tick.a1, hp.tick.s0, fun q1 q2 q3 => ?_, hp.tick.ph⟩, hp.fin, hp.val⟩
  · obtain ⟨c1, c2, c3⟩ := hp.claim.cw q
    refine ⟨?_, c2, c3⟩
    rcases hg.words _ b0 b1 with q | ⟨q, _⟩ | ⟨k', p', q1, q2, _⟩
    · show unpack (getI m'.cells _) = _; rw [q]; exact c1
    · rw [c1] at q; exact (c2 q).elim
    · have hp' := h.put w k' p' q1
      have e' := (hp'.slot_bd h.conf (by omega) (at_th h.tl q1)).1
      have := slot_inj (c := c) (by omega) (by omega) hp.claim.k0 hp.claim.k1 hp'.claim.k0 hp'.claim.k1 (e.symm.trans (q2.symm.trans e'))
      omega
  · rw [hg.num q1 o (by omega) ht (by omega)]
    exact hp.tick.nu q1 q2 q3
theorem TakeI.frame (h : Proto c m ts) (hg : Chg c m m' ts w) {o : Nat} {t : TakeM} (hT : TakeI c m ts o t) (ho : (o : Int) < c.th) (hne : o ≠ w) {new : Option TaskM}
    (hgd : ∀ k p', new = some ⟨k, .put p'⟩ → t.steps = 2 → t.lost = false → p'.claim.slot = t.slot → p'.claim.guard ≤ o) : TakeI c m' (ts.set w new) o t := by
  refine ⟨hT.own, hT.s0, hT.s1, hT.live, hT.st, fun q => ?_, fun q1 q2 => ?_⟩
  · rw [hg.haz o (by omega) ho (by omega)]; exact hT.hz q
  · obtain ⟨r1, r2, r3, r4⟩ := hT.rd q1 q2
    refine ⟨by rw [hg.rd o (by omega)]; exact r1, ?_⟩
    have key : (wdM m' t.slot).gen = (unpack t.word).gen ∧ (wdM m' t.slot).state ≠ 0 := by
      rcases hg.words _ hT.s0 hT.s1 with q | ⟨q, q'⟩ | ⟨k', p', p1, p2, p3⟩
      · unfold wdM at *; rw [q]; exact ⟨r2, r3⟩
      · rw [q']; exact ⟨r2, by show (2 : Int) ≠ 0; decide⟩
      · have hp' := h.put w k' p' p1
        have hle := r4 w k' p' p1 p2
        rcases hp'.claim.cg p3 with z | z
        · have := (hp'.claim.cw (.inr p3)).1
          rw [p2] at this
          rw [this] at r3
          exact (r3 z).elim
        · omega
    refine ⟨key.1, key.2, fun i k p hi hs => ?_⟩
    rw [List.getElem?_set] at hi
    split at hi
    · rename_i e
      split at hi
      · simp only [Option.some.injEq] at hi
        exact hgd k p hi q1 q2 hs
      · cases hi
    · exact r4 i k p hi hs
/-- A step of thread w, from ts to ts with 'new' at w. -/
structure Did (c : ConfM) (m m' : MemM) (ts : List (Option TaskM)) (w : Nat) (new : Option TaskM) : Prop where
  wf : m'.wf
  logd : Logd c m'
  num : c.src = 1 → ∀ o, 0 ≤ o → o < c.th → getI m'.cells (c.number o) < Top
  chg : Chg c m m' ts w
  put : ∀ k p, new = some ⟨k, .put p⟩ → PutI c m' w p
  guard : ∀ k p, new = some ⟨k, .put p⟩ → ∀ (o : Nat) t, o ≠ w → (o : Int) < c.th → TakeI c m ts o t → t.steps = 2 → t.lost = false → p.claim.slot = t.slot → p.claim.guard ≤ o
  get : ∀ k g, new = some ⟨k, .get g⟩ → GetI c m' (ts.set w new) w g
theorem Did.proto (h : Proto c m ts) {new : Option TaskM} (d : Did c m m' ts w new) : Proto c m' (ts.set w new) := by
  refine ⟨h.conf, d.wf, d.logd, by simpa using h.tl, d.num, fun o k p ho => ?_, fun o k g ho => ?_⟩
  · rw [List.getElem?_set] at ho
    split at ho
    · rename_i e
      split at ho
      · simp only [Option.some.injEq] at ho
        subst e
        exact d.put k p ho
      · cases ho
    · rename_i e
      exact PutI.frame h d.chg ho (fun q => e q.symm)
  · have ho' := ho
    rw [List.getElem?_set] at ho
    split at ho
    · rename_i e
      split at ho
      · simp only [Option.some.injEq] at ho
        subst e
        exact d.get k g ho
      · cases ho
    · rename_i e
      have hgI := h.get o k g ho
      have ht := at_th h.tl ho
      exact ⟨hgI.own, hgI.phase, hgI.len, fun t ht' => ⟨TakeI.frame h d.chg (hgI.take t ht').1 ht (fun q => e q.symm) (fun k' p' q1 q2 q3 q4 => d.guard k' p' q1 o t (fun q => e q.symm) ht (hgI.take t ht').1 q2 q3 q4), (hgI.take t ht').2⟩⟩
/-- Nothing is done. -/
theorem Chg.refl (c : ConfM) (m : MemM) (ts : List (Option TaskM)) (w : Nat) : Chg c m m ts w :=
  ⟨fun _ _ _ => .inl rfl, fun _ _ _ _ => rfl, fun _ _ _ _ _ => rfl, fun _ _ _ => rfl⟩
theorem rd_touch {m : MemM} {w op cell old next : Int} (h : m.has cell) (o s : Int) : rdM (m.touch w op cell old next).log o s = if w = o ∧ cell = s ∧ op = 0 then some (unpack (getI m.cells cell)).gen else rdM m.log o s := by
  rw [(touch_in' h).2, rdM_snoc]; rfl
/-- A load turns no cell. -/
theorem load_same {m : MemM} {w cell : Int} (h : m.has cell) : (m.touch w 0 cell 0 0).cells = m.cells := by
  rw [(touch_in' h).1]
  show setI m.cells cell (getI m.cells cell) = _
  exact setI_self _ _
theorem Chg.load {cell : Int} (h : m.has cell) : Chg c m (m.touch w 0 cell 0 0) ts w := by
  have e := load_same (w := (w : Int)) h
  refine ⟨fun s _ _ => .inl (by rw [e]), fun o _ _ _ => by rw [e], fun _ o _ _ _ => by rw [e], fun o ho s => ?_⟩
  rw [rd_touch h, if_neg (fun q => ho q.1.symm)]
/-- A cell is turned. -/
theorem Chg.turn {op cell old next : Int} (h : m.has cell) (hop : op ≠ 0)
    (hw : ∀ s, 0 ≤ s → s < c.all → s = cell → getI (m.touch w op cell old next).cells s = getI m.cells s ∨ ((wdM m s).state = 1 ∧ wdM (m.touch w op cell old next) s = (wdM m s).taken) ∨ (∃ k p, ts[w]? = some (some ⟨k, .put p⟩) ∧ p.claim.slot = s ∧ p.claim.phase = 1))
    (hh : ∀ o, 0 ≤ o → o < c.th → o ≠ w → c.hazard o ≠ cell) (hn : c.src = 1 → ∀ o, 0 ≤ o → o < c.th → o ≠ w → c.number o ≠ cell) (hc : c.ok) : Chg c m (m.touch w op cell old next) ts w := by
  have e := (touch_in' (w := (w : Int)) (op := op) (old := old) (next := next) h).1
  have hb := hc.all_bd
  refine ⟨fun s s0 s1 => ?_, fun o o0 o1 ho => ?_, fun q o o0 o1 ho => ?_, fun o ho s => ?_⟩
  · by_cases q : s = cell
    · exact hw s s0 s1 q
    · left; rw [e, getI_setI_ne _ _ _ _ h.1 s0 q]
  · rw [e, getI_setI_ne _ _ _ _ h.1 (by unfold ConfM.hazard; omega) (hh o o0 o1 ho)]
  · have := hc.th1
    rw [e, getI_setI_ne _ _ _ _ h.1 (by unfold ConfM.number; omega) (hn q o o0 o1 ho)]
  · rw [rd_touch h, if_neg (fun q => ho q.1.symm)]
end
end Go.Proofs.YtegdhojhnmgjgaaGreat
/- Whatever a yard does to its cells may be done: each kind of step. Plain lemmas on the model. -/
namespace Go.Proofs.YtegdhojhnmgjgaaGreat
section
variable {c : ConfM} {m : MemM} {ts : List (Option TaskM)} {w : Nat}
theorem ClaimI.cells {m' : MemM} {cl : ClaimM} (e : m'.cells = m.cells) (h : ClaimI c m cl) : ClaimI c m' cl :=
  ⟨h.k0, h.k1, h.g0, h.g1, fun q => by unfold wdM; rw [e]; exact h.cw q, h.cg, h.ph⟩
theorem TickI.cells {m' : MemM} {o : Int} {t : TickM} (e : m'.cells = m.cells) (h : TickI c m o t) : TickI c m' o t :=
  ⟨h.st, h.a0, h.a1, h.s0, fun q1 q2 q3 => by rw [e]; exact h.nu q1 q2 q3, h.ph⟩
/-- A load that may be. -/
theorem did_load (h : Proto c m ts) {cell : Int} (h0 : 0 ≤ cell) (h1 : cell < c.cells) (hm : mayM c (lastM m.log) (rdM m.log w) (evT m w 0 cell 0 0) = true) {new : Option TaskM}
    (hp : ∀ k p, new = some ⟨k, .put p⟩ → PutI c m w p) (hgd : ∀ k p, new = some ⟨k, .put p⟩ → ∀ (o : Nat) t, o ≠ w → (o : Int) < c.th → TakeI c m ts o t → t.steps = 2 → t.lost = false → p.claim.slot = t.slot → p.claim.guard ≤ o)
    (hg : ∀ k g, new = some ⟨k, .get g⟩ → GetI c (m.touch w 0 cell 0 0) (ts.set w new) w g) : Did c m (m.touch w 0 cell 0 0) ts w new := by
  have hh := h.logd.has h0 h1
  have e := load_same (w := (w : Int)) hh
  refine ⟨MemM.touch_wf h.wf _ _ _ _ _ (by omega), h.logd.touch h0 h1 hm, fun q o a b => by rw [e]; exact h.num q o a b, Chg.load hh, fun k p q => ?_, hgd, hg⟩
  have hp' := hp k p q
  exact ⟨hp'.own, hp'.phase, hp'.claim.cells e, hp'.tick.cells e, hp'.fin, hp'.val⟩
/-! ### A place -/
theorem claim_pass {cl : ClaimM} (hI : ClaimI c m cl) (hc : cl.conf = c) (hth : 1 ≤ c.th) (hp : cl.phase = 0) : (cl.pass.phase = 2 ∨ ClaimI c m cl.pass) ∧ cl.pass.guard = -1 := by
  unfold ClaimM.pass
  split
  · exact ⟨.inl rfl, rfl⟩
  · rename_i q
    have := hI.k0
    have := hI.k1
    rw [hc] at q
    refine ⟨.inr ⟨by show 0 ≤ cl.k + 1; omega, by show cl.k + 1 < c.sl; omega, by show (-1 : Int) ≤ -1; omega, fun _ => by show (-1 : Int) < c.th; omega, fun z => ?_, fun z => ?_, .inl hp⟩, rfl⟩
    · rcases z with z | z
      · have z' : (0 : Int) ≤ -1 := z
        omega
      · have z' : cl.phase = 1 := z
        omega
    · have z' : cl.phase = 1 := z
      omega
structure ClaimS (c : ConfM) (m : MemM) (w : Nat) (cl : ClaimM) (r : ClaimM × MemM) : Prop where
  mem : ∃ cell, 0 ≤ cell ∧ cell < c.cells ∧ r.2 = m.touch w 0 cell 0 0 ∧ mayM c (lastM m.log) (rdM m.log w) (evT m w 0 cell 0 0) = true
  inv : r.1.phase = 2 ∨ ClaimI c m r.1
  guard : ∀ o : Int, 0 ≤ o → getI m.cells (c.hazard o) = r.1.slot + 1 → (cl.slot = r.1.slot → cl.guard ≤ o) → r.1.guard ≤ o
theorem claim_did (h : Logd c m) (hc : c.ok) (hw : (w : Int) < c.th) {cl : ClaimM} (hI : ClaimI c m cl) (ho : cl.own c w) (hp : cl.phase = 0) : ClaimS c m w cl (cl.step m) := by
  have hth := hc.th1
  have hal := hc.all_bd
  have hcf := ho.conf
  have hwh := ho.who
  have hslot : cl.slot = c.first w + cl.k := by unfold ClaimM.slot; rw [hcf, hwh]
  obtain ⟨b0, b1⟩ := slot_bdM hc (o := (w : Int)) (by omega) hw hI.k0 hI.k1
  rw [← hslot] at b0 b1
  have hpk : m.peek cl.slot = getI m.cells cl.slot := h.peek b0 (by unfold ConfM.cells; omega)
  unfold ClaimM.step
  rw [if_neg (by omega)]
  split
  · rename_i hg
    have hI2 : ClaimI c m { cl with word := unpack (m.peek cl.slot) } := by
      refine ⟨hI.k0, hI.k1, hI.g0, hI.g1, fun z => ?_, fun z => ?_, hI.ph⟩
      · rcases z with z | z
        · have z' : 0 ≤ cl.guard := z
          omega
        · have z' : cl.phase = 1 := z
          omega
      · have z' : cl.phase = 1 := z
        omega
    have hpass := claim_pass hI2 hcf hth hp
    unfold ClaimM.look
    dsimp only
    refine ⟨⟨cl.slot, b0, by unfold ConfM.cells; omega, by rw [hwh], ?_⟩, ?_, ?_⟩
    · rw [may_word hc ⟨by show 0 ≤ (w : Int); omega, hw⟩ b0 b1]
      rfl
    · split
      · exact hpass.1
      · rename_i q1
        split
        · rename_i q2
          refine .inr ⟨hI.k0, hI.k1, hI.g0, fun z => (by cases z), fun _ => ⟨?_, ?_, ?_⟩, fun _ => .inl q2, .inr rfl⟩
          · show unpack (getI m.cells cl.slot) = unpack (m.peek cl.slot); rw [hpk]
          · show (unpack (m.peek cl.slot)).state ≠ 1; omega
          · show (unpack (m.peek cl.slot)).gen < 8191; omega
        · split
          · rename_i q2
            refine .inr ⟨hI.k0, hI.k1, by show (-1 : Int) ≤ 0; omega, fun _ => by show (0 : Int) < c.th; omega, fun _ => ⟨?_, ?_, ?_⟩, fun z => ?_, .inl hp⟩
            · show unpack (getI m.cells cl.slot) = unpack (m.peek cl.slot); rw [hpk]
            · show (unpack (m.peek cl.slot)).state ≠ 1; omega
            · show (unpack (m.peek cl.slot)).gen < 8191; omega
            · have z' : cl.phase = 1 := z
              omega
          · exact hpass.1
    · intro o o0 _ _
      split
      · rw [hpass.2]; omega
      · split
        · show cl.guard ≤ o; omega
        · split
          · exact o0
          · rw [hpass.2]; omega
  · rename_i hg
    have hg1 := hI.g1 hp
    have hhz : 0 ≤ c.hazard cl.guard ∧ c.hazard cl.guard < c.cells := by unfold ConfM.hazard ConfM.cells; omega
    have hpz : m.peek (cl.conf.hazard cl.guard) = getI m.cells (c.hazard cl.guard) := by rw [hcf]; exact h.peek hhz.1 hhz.2
    obtain ⟨w1, w2, w3⟩ := hI.cw (.inl (by omega))
    refine ⟨⟨c.hazard cl.guard, hhz.1, hhz.2, by rw [hcf, hwh], ?_⟩, ?_, ?_⟩
    · rw [may_hazard hc ⟨by show 0 ≤ (w : Int); omega, hw⟩ (t := cl.guard) rfl (by omega) hg1]
      rfl
    · split
      · exact (claim_pass hI hcf hth hp).1
      · split
        · rename_i q
          rw [hcf] at q
          exact .inr ⟨hI.k0, hI.k1, by show -1 ≤ cl.guard + 1; omega, fun z => (by cases z), fun _ => ⟨w1, w2, w3⟩, fun _ => .inr q, .inr rfl⟩
        · rename_i q
          rw [hcf] at q
          refine .inr ⟨hI.k0, hI.k1, by show -1 ≤ cl.guard + 1; omega, fun _ => by show cl.guard + 1 < c.th; omega, fun _ => ⟨w1, w2, w3⟩, fun z => ?_, .inl hp⟩
          have z' : cl.phase = 1 := z
          omega
    · intro o o0
      split
      · intro _ _
        rw [(claim_pass hI hcf hth hp).2]; omega
      · rename_i qn
        rw [hpz] at qn
        split
        · intro hz hle
          have hle' : cl.guard ≤ o := hle rfl
          have : cl.guard ≠ o := fun e => by rw [e] at qn; exact qn hz
          show cl.guard + 1 ≤ o
          omega
        · intro hz hle
          have hle' : cl.guard ≤ o := hle rfl
          have : cl.guard ≠ o := fun e => by rw [e] at qn; exact qn hz
          show cl.guard + 1 ≤ o
          omega
/-! ### A stamp -/
structure TickS (c : ConfM) (m : MemM) (ts : List (Option TaskM)) (w : Nat) (r : TickM × MemM) : Prop where
  wf : r.2.wf
  logd : Logd c r.2
  num : c.src = 1 → ∀ o, 0 ≤ o → o < c.th → getI r.2.cells (c.number o) < Top
  chg : Chg c m r.2 ts w
  words : ∀ s, 0 ≤ s → s < c.all → getI r.2.cells s = getI m.cells s
  inv : r.1.phase = 2 ∨ TickI c r.2 w r.1
theorem tick_off (h : Proto c m ts) {t : TickM} (hI : t.phase = 2 ∨ TickI c m w t) : TickS c m ts w (t, m) :=
  ⟨h.wf, h.logd, h.num, Chg.refl c m ts w, fun _ _ _ => rfl, hI⟩
theorem tick_load (h : Proto c m ts) (hw : (w : Int) < c.th) {n : Int} (h0 : 0 ≤ n) (h1 : n < c.th) (hs : c.src = 1 ∨ (c.src = 2 ∧ n = 0)) {t : TickM} (hI : t.phase = 2 ∨ TickI c m w t) : TickS c m ts w (t, m.touch w 0 (c.number n) 0 0) := by
  have hal := h.conf.all_bd
  have hn : 0 ≤ c.number n ∧ c.number n < c.cells := by unfold ConfM.number ConfM.cells; omega
  have hh := h.logd.has hn.1 hn.2
  have e := load_same (w := (w : Int)) hh
  refine ⟨MemM.touch_wf h.wf _ _ _ _ _ (by omega), h.logd.touch hn.1 hn.2 ?_, fun q o a b => by show getI (m.touch _ _ _ _ _).cells _ < _; rw [e]; exact h.num q o a b, Chg.load hh, fun _ _ _ => by show getI (m.touch _ _ _ _ _).cells _ = _; rw [e], ?_⟩
  · rw [may_number h.conf ⟨by show 0 ≤ (w : Int); omega, hw⟩ (t := n) rfl h0 h1]
    unfold numberB
    rcases hs with hs | ⟨hs, rfl⟩
    · rw [if_neg (by omega), if_pos hs]; rfl
    · rw [if_neg (by omega), if_neg (by omega), if_pos hs]; rfl
  · rcases hI with q | q
    · exact .inl q
    · exact .inr (q.cells e)
theorem tick_turn (h : Proto c m ts) (hw : (w : Int) < c.th) {op n old next : Int} (hop : op ≠ 0) (h0 : 0 ≤ n) (h1 : n < c.th) (hb : 0 ≤ next ∧ next < 18446744073709551616)
    (hnB : numberB c (evT m w op (c.number n) old next) n = true) (hn1 : c.src = 1 → n = w ∧ opNew op (getI m.cells (c.number n)) old next < Top) {t : TickM} (hI : t.phase = 2 ∨ (t.phase = 1 ∧ t.stamp.right = true ∧ 0 ≤ t.a ∧ t.a ≤ 16777215 ∧ 0 ≤ t.steps) ∨ (c.src ≠ 1 ∧ TickI c m w t)) : TickS c m ts w (t, m.touch w op (c.number n) old next) := by
  have hal := h.conf.all_bd
  have hn : 0 ≤ c.number n ∧ c.number n < c.cells := by unfold ConfM.number ConfM.cells; omega
  have hh := h.logd.has hn.1 hn.2
  have e := (touch_in' (w := (w : Int)) (op := op) (old := old) (next := next) hh).1
  refine ⟨MemM.touch_wf h.wf _ _ _ _ _ hb, h.logd.touch hn.1 hn.2 ?_, fun q o a b => ?_, Chg.turn hh hop (fun s s0 s1 q => ?_) (fun o a b _ q => ?_) (fun q o a b hne z => ?_) h.conf, fun s s0 s1 => ?_, ?_⟩
  · rw [may_number h.conf ⟨by show 0 ≤ (w : Int); omega, hw⟩ (t := n) rfl h0 h1]
    exact hnB
  · show getI (m.touch _ _ _ _ _).cells _ < _
    rw [e]
    by_cases z : o = n
    · subst z
      rw [getI_setI_of _ _ _ hn.1 (by rw [h.logd.cl]; exact hn.2)]
      exact (hn1 q).2
    · rw [getI_setI_ne _ _ _ _ hn.1 (by unfold ConfM.number; omega) (by unfold ConfM.number; omega)]
      exact h.num q o a b
  · unfold ConfM.number at q; omega
  · unfold ConfM.hazard ConfM.number at q; omega
  · have := (hn1 q).1
    unfold ConfM.number at z; omega
  · show getI (m.touch _ _ _ _ _).cells _ = _
    rw [e, getI_setI_ne _ _ _ _ hn.1 s0 (by unfold ConfM.number; omega)]
  · rcases hI with q | ⟨q1, q2, q3, q4, q5⟩ | ⟨q, z⟩
    · exact .inl q
    · exact .inr ⟨fun _ => q2, q3, q4, q5, fun _ z _ => by (have z' : t.phase = 0 := z); omega, .inr q1⟩
    · exact .inr ⟨z.st, z.a0, z.a1, z.s0, fun z' _ _ => (q z').elim, z.ph⟩
theorem tick_done (t : TickM) (s : StampM) (o : Int) (ha : 0 ≤ t.a ∧ t.a ≤ 16777215) (hs : 0 ≤ t.steps) : (t.done s).phase = 2 ∨ ((t.done s).phase = 1 ∧ (t.done s).stamp.right = true ∧ 0 ≤ (t.done s).a ∧ (t.done s).a ≤ 16777215 ∧ 0 ≤ (t.done s).steps) := by
  unfold TickM.done
  split
  · rename_i q
    exact .inr ⟨rfl, q, ha.1, ha.2, hs⟩
  · exact .inl rfl
theorem tick_of_done {t : TickM} {o : Int} (h : t.phase = 2 ∨ (t.phase = 1 ∧ t.stamp.right = true ∧ 0 ≤ t.a ∧ t.a ≤ 16777215 ∧ 0 ≤ t.steps)) : t.phase = 2 ∨ TickI c m o t := by
  rcases h with h | ⟨h1, h2, h3, h4, h5⟩
  · exact .inl h
  · exact .inr ⟨fun _ => h2, h3, h4, h5, fun _ z _ => by omega, .inr h1⟩
theorem cap_bd' (x : Int) (h : 0 ≤ x) : 0 ≤ cap x ∧ cap x ≤ 16777215 := by show 0 ≤ min x 16777215 ∧ min x 16777215 ≤ 16777215; omega
theorem tick_did (h : Proto c m ts) (hw : (w : Int) < c.th) {t : TickM} (hI : TickI c m w t) (ho : t.own c w) (hp : t.phase = 0) {now : Int} (hnow : 0 ≤ now) : TickS c m ts w (t.step m now) := by
  have hcf := ho.conf
  have hwh := ho.who
  have hth := h.conf.th1
  have hal := h.conf.all_bd
  have ha := And.intro hI.a0 hI.a1
  have hs0 := hI.s0
  have hpk : ∀ n, 0 ≤ m.peek n ∧ m.peek n < 18446744073709551616 := fun n => MemM.peek_wf h.wf n
  have hcap : ∀ n, 0 ≤ cap (m.peek n) ∧ cap (m.peek n) ≤ 16777215 := fun n => cap_bd' _ (hpk n).1
  have hrd : ∀ n, t.read m n = cap (m.peek (c.number n)) := fun n => by unfold TickM.read; rw [hcf]
  have hdn : ∀ (u : TickM) (s : StampM), 0 ≤ u.a ∧ u.a ≤ 16777215 → u.steps = t.steps → ({ u.done s with steps := (u.done s).steps + 1 } : TickM).phase = 2 ∨ (({ u.done s with steps := (u.done s).steps + 1 } : TickM).phase = 1 ∧ ({ u.done s with steps := (u.done s).steps + 1 } : TickM).stamp.right = true ∧ 0 ≤ ({ u.done s with steps := (u.done s).steps + 1 } : TickM).a ∧ ({ u.done s with steps := (u.done s).steps + 1 } : TickM).a ≤ 16777215 ∧ 0 ≤ ({ u.done s with steps := (u.done s).steps + 1 } : TickM).steps) := fun u s h1 h2 => by
    rcases tick_done u s 0 h1 (by omega) with q | ⟨q1, q2, q3, q4, q5⟩
    · exact .inl q
    · exact .inr ⟨q1, q2, q3, q4, by show 0 ≤ (u.done s).steps + 1; omega⟩
  unfold TickM.step
  rw [if_neg (by omega), hcf]
  dsimp only
  by_cases e0 : c.src = 0
  · rw [if_pos e0]
    have h0 := hdn t (point (cap (m.peek (c.number 0)))) ha rfl
    rw [hwh]
    refine tick_turn h hw (by decide) (Int.le_refl _) (by omega) (by decide) ?_ (fun q => by omega) ?_
    · unfold numberB
      rw [if_pos e0]
      show ((0 : Int) == 0 && (3 : Int) == 3 && (opNew 3 (getI m.cells (c.number 0)) 0 1) == u64M (getI m.cells (c.number 0) + 1)) = true
      simp [opNew, u64M]
    · rcases h0 with q | q
      · exact .inl q
      · exact .inr (.inl q)
  · rw [if_neg e0]
    by_cases e1 : c.src = 1
    · rw [if_pos e1]
      unfold TickM.stutter TickM.load
      rw [hcf, hwh]
      by_cases q : t.steps < c.th
      · rw [if_pos q]
        refine tick_load h hw hs0 q (.inl e1) (.inr ⟨fun z => ?_, ?_, ?_, ?_, fun _ _ z => ?_, .inl hp⟩)
        · have z' : t.phase = 1 := z
          omega
        · have := hcap (c.number t.steps)
          show 0 ≤ max t.a (t.read m t.steps); rw [hrd]; omega
        · have := hcap (c.number t.steps)
          show max t.a (t.read m t.steps) ≤ 16777215; rw [hrd]; omega
        · show 0 ≤ t.steps + 1; omega
        · have z' : (w : Int) < t.steps + 1 := z
          show getI m.cells (c.number w) ≤ max t.a (t.read m t.steps)
          by_cases e : (w : Int) = t.steps
          · have hnm : getI m.cells (c.number w) < 16777215 := h.num e1 w (by omega) hw
            rw [hrd, ← e, h.logd.peek (by unfold ConfM.number; omega) (by unfold ConfM.number ConfM.cells; omega)]
            show _ ≤ max t.a (min (getI m.cells (c.number w)) 16777215)
            omega
          · have := hI.nu e1 hp (by omega)
            omega
      · rw [if_neg q]
        have hd := hdn t (point (t.a + 1)) ha rfl
        dsimp only
        by_cases q2 : (t.done (point (t.a + 1))).phase = 1
        · rw [if_pos q2]
          have hr : (point (t.a + 1)).right = true := by
            unfold TickM.done at q2
            split at q2
            · assumption
            · cases q2
          have hr' : t.a + 1 < 16777215 := by unfold StampM.right at hr; simp at hr; exact hr.2
          have hnu := hI.nu e1 hp (by omega)
          refine tick_turn h hw (by decide) (by omega) hw (by omega) ?_ (fun _ => ⟨rfl, by show t.a + 1 < 16777215; exact hr'⟩) ?_
          · unfold numberB
            rw [if_neg e0, if_pos e1]
            show ((1 : Int) == 0 || ((1 : Int) == 1 && (w : Int) == (w : Int) && decide (t.a + 1 > getI m.cells (c.number w)))) = true
            simp
            omega
          · rcases hd with z | z
            · exact .inl z
            · exact .inr (.inl z)
        · rw [if_neg q2]
          exact tick_off h (tick_of_done hd)
    · rw [if_neg e1]
      by_cases e2 : c.src = 2
      · rw [if_pos e2]
        have h2 : c.src = 1 ∨ (c.src = 2 ∧ (0 : Int) = 0) := .inr ⟨e2, rfl⟩
        have hc0 := hcap (c.number 0)
        unfold TickM.swap TickM.load
        rw [hcf, hwh]
        by_cases s0 : t.steps = 0
        · rw [if_pos s0]
          refine tick_load h hw (Int.le_refl _) (by omega) h2 ?_
          by_cases z : t.read m 0 ≥ Top
          · left
            show (if t.read m 0 ≥ Top then (2 : Int) else t.phase) = 2
            rw [if_pos z]
          · right
            refine ⟨fun z' => ?_, by show 0 ≤ t.read m 0; rw [hrd]; omega, by show t.read m 0 ≤ 16777215; rw [hrd]; omega, by show 0 ≤ t.steps + 1; omega, fun z' => (e1 z').elim, .inl ?_⟩
            · have z2 : (if t.read m 0 ≥ Top then (2 : Int) else t.phase) = 1 := z'
              rw [if_neg z] at z2; omega
            · show (if t.read m 0 ≥ Top then (2 : Int) else t.phase) = 0
              rw [if_neg z]; exact hp
        · rw [if_neg s0]
          by_cases s1 : t.steps = 1
          · rw [if_pos s1]
            dsimp only
            refine tick_load h hw (Int.le_refl _) (by omega) h2 ?_
            by_cases z : t.read m 0 ≠ t.a
            · rw [if_pos z]
              refine tick_of_done ?_
              exact (hdn ⟨c, w, t.steps, t.a, t.read m 0, t.stamp, t.phase⟩ ⟨t.a, t.read m 0 - 1⟩ ha rfl)
            · rw [if_neg z]
              exact .inr ⟨hI.st, ha.1, ha.2, by show 0 ≤ t.steps + 1; omega, fun z' => (e1 z').elim, hI.ph⟩
          · rw [if_neg s1]
            by_cases s2 : t.steps = 2
            · rw [if_pos s2]
              dsimp only
              refine tick_turn h hw (by decide) (Int.le_refl _) (by omega) (by omega) ?_ (fun z => (e1 z).elim) ?_
              · unfold numberB
                rw [if_neg e0, if_neg e1, if_pos e2]
                show ((0 : Int) == 0 && ((2 : Int) == 0 || ((2 : Int) == 2 && (!(opOk 2 (getI m.cells (c.number 0)) t.a) || (opNew 2 (getI m.cells (c.number 0)) t.a (t.a + 1)) == u64M (getI m.cells (c.number 0) + 1))))) = true
                by_cases z : getI m.cells (c.number 0) = t.a
                · rw [z]
                  simp [opOk, opNew, u64M]
                  omega
                · simp [opOk, z]
              · split
                · rcases hdn t (point t.a) ha rfl with z | z
                  · exact .inl z
                  · exact .inr (.inl z)
                · exact .inr (.inr ⟨e1, hI.st, ha.1, ha.2, by show 0 ≤ t.steps + 1; omega, fun z' => (e1 z').elim, hI.ph⟩)
            · rw [if_neg s2]
              by_cases s3 : t.steps = 3
              · rw [if_pos s3]
                dsimp only
                exact tick_load h hw (Int.le_refl _) (by omega) h2 (tick_of_done (hdn ⟨c, w, t.steps, t.a, t.read m 0, t.stamp, t.phase⟩ ⟨t.a, t.read m 0 - 1⟩ ha rfl))
              · rw [if_neg s3]
                exact tick_off h (.inr ⟨hI.st, ha.1, ha.2, by show 0 ≤ t.steps + 1; omega, fun z' => (e1 z').elim, hI.ph⟩)
      · rw [if_neg e2]
        have hcn := cap_bd' now hnow
        by_cases e4 : c.src = 4
        · rw [if_pos e4]
          have ht1 : ∀ u : TickM, u = (if t.steps = 0 then (⟨c, t.who, t.steps, cap now, t.b, t.stamp, t.phase⟩ : TickM) else t) → (0 ≤ u.a ∧ u.a ≤ 16777215) ∧ u.steps = t.steps ∧ u.phase = t.phase ∧ u.stamp = t.stamp := by
            rintro u rfl
            split
            · exact ⟨hcn, rfl, rfl, rfl⟩
            · exact ⟨ha, rfl, rfl, rfl⟩
          obtain ⟨u1, u2, u3, u4⟩ := ht1 _ rfl
          generalize (if t.steps = 0 then (⟨c, t.who, t.steps, cap now, t.b, t.stamp, t.phase⟩ : TickM) else t) = u at *
          by_cases q : t.steps ≤ c.dl
          · rw [if_pos q]
            refine tick_off h (.inr ⟨fun z => ?_, u1.1, u1.2, by show 0 ≤ u.steps + 1; omega, fun z' => (e1 z').elim, .inl (u3.trans hp)⟩)
            have z' : u.phase = 1 := z
            omega
          · rw [if_neg q]
            exact tick_off h (tick_of_done (hdn u _ u1 u2))
        · rw [if_neg e4]
          exact tick_off h (tick_of_done (hdn t _ ha rfl))
end
end Go.Proofs.YtegdhojhnmgjgaaGreat
/- Whatever a yard does to its cells may be done: a Put's steps, a Get's, a yard's. Plain lemmas on the model. -/
namespace Go.Proofs.YtegdhojhnmgjgaaGreat
section
variable {c : ConfM} {m : MemM} {ts : List (Option TaskM)} {w : Nat}
theorem PutI.with_claim {p : PutM} (h : PutI c m w p) {cl : ClaimM} (ho : cl.own c w) (hI : ClaimI c m cl) : PutI c m w { p with claim := cl } :=
  ⟨⟨h.own.conf, h.own.who, ho, h.own.tick⟩, h.phase, hI, h.tick, h.fin, h.val⟩
/-- What is left of a thread's task behind a step. -/
def leftK (t : TaskM) : Option TaskM := if t.over = true then none else some t
theorem leftK_put {k : CallM} {p : PutM} {k' : CallM} {p' : PutM} (h : leftK ⟨k, .put p⟩ = some ⟨k', .put p'⟩) : p' = p ∧ p.phase = 0 ∧ k' = k := by
  unfold leftK at h
  by_cases q : (⟨k, .put p⟩ : TaskM).over = true
  · rw [if_pos q] at h; cases h
  · rw [if_neg q] at h
    simp only [Option.some.injEq, TaskM.mk.injEq, WorkM.put.injEq] at h
    have q' : ¬ (!decide (p.phase = 0)) = true := q
    exact ⟨h.2.symm, by simpa using q', h.1.symm⟩
theorem leftK_get {k : CallM} {p : GetM} {k' : CallM} {p' : GetM} (h : leftK ⟨k, .get p⟩ = some ⟨k', .get p'⟩) : p' = p ∧ p.phase = 0 ∧ k' = k := by
  unfold leftK at h
  by_cases q : (⟨k, .get p⟩ : TaskM).over = true
  · rw [if_pos q] at h; cases h
  · rw [if_neg q] at h
    simp only [Option.some.injEq, TaskM.mk.injEq, WorkM.get.injEq] at h
    have q' : ¬ (!decide (p.phase = 0)) = true := q
    exact ⟨h.2.symm, by simpa using q', h.1.symm⟩
theorem leftK_pg {k : CallM} {p : PutM} {k' : CallM} {g : GetM} (h : leftK ⟨k, .put p⟩ = some ⟨k', .get g⟩) : False := by
  unfold leftK at h; split at h <;> cases h
theorem leftK_gp {k : CallM} {g : GetM} {k' : CallM} {p : PutM} (h : leftK ⟨k, .get g⟩ = some ⟨k', .put p⟩) : False := by
  unfold leftK at h; split at h <;> cases h
/-- The put's own place is left alone by its steps but the last. -/
theorem guard_keep (h : Proto c m ts) {k : CallM} {p : PutM} (hat : ts[w]? = some (some ⟨k, .put p⟩)) {cl : ClaimM} (e : cl = p.claim) :
    ∀ (o : Nat) t, o ≠ w → (o : Int) < c.th → TakeI c m ts o t → t.steps = 2 → t.lost = false → cl.slot = t.slot → cl.guard ≤ o := by
  subst e
  intro o t _ _ hT q1 q2 q3
  exact (hT.rd q1 q2).2.2.2 w k p hat q3
theorem unpack_gen0 (x : Int) : 0 ≤ (unpack x).gen := by
  show 0 ≤ x / 8 % 8192
  omega
theorem put_did (h : Proto c m ts) {k : CallM} {p : PutM} (hat : ts[w]? = some (some ⟨k, .put p⟩)) {now : Int} (hnow : 0 ≤ now) : Did c m (p.step m now).2 ts w (leftK ⟨k, .put (p.step m now).1⟩) := by
  have hI := h.put w k p hat
  have hw := at_th h.tl hat
  have hal := h.conf.all_bd
  have hth := h.conf.th1
  obtain ⟨es, b0, b1⟩ := hI.slot_bd h.conf (by omega) hw
  have hown := (PutM.step_own hI.own m now).1
  unfold PutM.step at hown ⊢
  rw [if_neg (by have := hI.phase; omega)] at hown ⊢
  by_cases q1 : p.claim.phase = 0
  · rw [if_pos q1] at hown ⊢
    have S := claim_did (w := w) h.logd h.conf hw hI.claim hI.own.claim q1
    obtain ⟨cell, c0, c1, e2, hm⟩ := S.mem
    dsimp only at hown ⊢
    generalize hr : p.claim.step m = r at *
    rw [e2]
    refine did_load h c0 c1 hm (fun k' p' q => ?_) (fun k' p' q o t ho hoth hT z1 z2 z3 => ?_) (fun k' g' q => (leftK_pg q).elim)
    · obtain ⟨rfl, ph, _⟩ := leftK_put q
      have n2 : r.1.phase ≠ 2 := fun z => by
        have ph' : (if r.1.phase = 2 then (2 : Int) else p.phase) = 0 := ph
        rw [if_pos z] at ph'; cases ph'
      have hcI := S.inv.resolve_left n2
      exact ⟨hown, ph, hcI, hI.tick, hI.fin, hI.val⟩
    · obtain ⟨rfl, ph, _⟩ := leftK_put q
      refine S.guard o (by omega) ?_ (fun z => ?_)
      · rw [hT.hz (by omega)]
        have z3' : r.1.slot = t.slot := z3
        omega
      · have z3' : r.1.slot = t.slot := z3
        exact (hT.rd z1 z2).2.2.2 w k p hat (by omega)
  · rw [if_neg q1] at hown ⊢
    have hcl1 : p.claim.phase = 1 := hI.claim.ph.resolve_left q1
    obtain ⟨cw1, cw2, cw3⟩ := hI.claim.cw (.inr hcl1)
    by_cases q2 : p.tick.phase = 0
    · rw [if_pos q2] at hown ⊢
      have S := tick_did (ts := ts) (w := w) h hw hI.tick hI.own.tick q2 hnow
      dsimp only at hown ⊢
      generalize hr : p.tick.step m now = r at *
      refine ⟨S.wf, S.logd, S.num, S.chg, fun k' p' q => ?_, fun k' p' q => ?_, fun k' g' q => (leftK_pg q).elim⟩
      · obtain ⟨rfl, ph, _⟩ := leftK_put q
        have n2 : r.1.phase ≠ 2 := fun z => by
          have ph' : (if r.1.phase = 2 then (2 : Int) else p.phase) = 0 := ph
          rw [if_pos z] at ph'; cases ph'
        refine ⟨hown, ph, ?_, S.inv.resolve_left n2, hI.fin, hI.val⟩
        exact ⟨hI.claim.k0, hI.claim.k1, hI.claim.g0, hI.claim.g1, fun z => by unfold wdM; rw [S.words _ b0 b1]; exact hI.claim.cw z, hI.claim.cg, hI.claim.ph⟩
      · obtain ⟨rfl, ph, _⟩ := leftK_put q
        exact guard_keep h hat rfl
    · rw [if_neg q2] at hown ⊢
      have htk1 : p.tick.phase = 1 := hI.tick.ph.resolve_left q2
      have hst := hI.tick.st htk1
      have hown_slot : ((w : Int) == ownerM c p.claim.slot) = true := by rw [es, slot_owner (by omega) hI.claim.k0 hI.claim.k1]; simp
      by_cases q3 : p.stored = false
      · rw [if_pos q3] at hown ⊢
        rw [hI.own.conf, hI.own.who] at hown ⊢
        have hv : 0 ≤ c.value p.claim.slot ∧ c.value p.claim.slot < c.cells := by unfold ConfM.value ConfM.cells; omega
        have hh := h.logd.has hv.1 hv.2
        have e := (touch_in' (w := (w : Int)) (op := 1) (old := 0) (next := p.value) hh).1
        have hws : ∀ s, 0 ≤ s → s < c.all → getI (m.touch w 1 (c.value p.claim.slot) 0 p.value).cells s = getI m.cells s := fun s s0 s1 => by
          rw [e, getI_setI_ne _ _ _ _ hv.1 s0 (by unfold ConfM.value; omega)]
        have hns : ∀ o, 0 ≤ o → o < c.th → getI (m.touch w 1 (c.value p.claim.slot) 0 p.value).cells (c.number o) = getI m.cells (c.number o) := fun o o0 o1 => by
          rw [e, getI_setI_ne _ _ _ _ hv.1 (by unfold ConfM.number; omega) (by unfold ConfM.value ConfM.number; omega)]
        refine ⟨MemM.touch_wf h.wf _ _ _ _ _ hI.val, h.logd.touch hv.1 hv.2 ?_, fun z o o0 o1 => ?_, Chg.turn hh (by decide) (fun s s0 s1 z => ?_) (fun o o0 o1 _ z => ?_) (fun _ o o0 o1 _ z => ?_) h.conf, fun k' p' q => ?_, fun k' p' q => ?_, fun k' g' q => (leftK_pg q).elim⟩
        · rw [may_value h.conf ⟨by show 0 ≤ (w : Int); omega, hw⟩ (s := p.claim.slot) rfl b0 b1]
          show ((w : Int) == ownerM c p.claim.slot && (unpack (lastM m.log p.claim.slot)).state != 1) = true
          rw [hown_slot, h.logd.last _ b0 (by unfold ConfM.cells; omega), Bool.true_and]
          have : (wdM m p.claim.slot).state ≠ 1 := by rw [cw1]; exact cw2
          simpa using this
        · rw [hns o o0 o1]; exact h.num z o o0 o1
        · unfold ConfM.value at z; omega
        · unfold ConfM.value ConfM.hazard at z; omega
        · unfold ConfM.value ConfM.number at z; omega
        · obtain ⟨rfl, ph, _⟩ := leftK_put q
          refine ⟨hown, ph, ?_, ?_, hI.fin, hI.val⟩
          · exact ⟨hI.claim.k0, hI.claim.k1, hI.claim.g0, hI.claim.g1, fun z => by unfold wdM; rw [hws _ b0 b1]; exact hI.claim.cw z, hI.claim.cg, hI.claim.ph⟩
          · exact ⟨hI.tick.st, hI.tick.a0, hI.tick.a1, hI.tick.s0, fun z1 z2 z3 => by rw [hns w (by omega) hw]; exact hI.tick.nu z1 z2 z3, hI.tick.ph⟩
        · obtain ⟨rfl, ph, _⟩ := leftK_put q
          exact guard_keep h hat rfl
      · rw [if_neg q3] at hown ⊢
        rw [hI.own.who]
        have hs1 : p.claim.slot < c.cells := by unfold ConfM.cells; omega
        have hh := h.logd.has b0 hs1
        have hg0 : 0 ≤ p.claim.word.gen := by rw [← cw1]; exact unpack_gen0 _
        have hst' : 0 ≤ p.tick.stamp.lo ∧ p.tick.stamp.lo ≤ p.tick.stamp.hi ∧ p.tick.stamp.hi < 16777215 := by
          unfold StampM.right at hst
          simp only [Bool.and_eq_true, decide_eq_true_eq] at hst
          exact ⟨hst.1.1, hst.1.2, hst.2⟩
        have hnr : (p.claim.word.next p.fin p.tick.stamp).right = true := by
          unfold WordM.right WordM.next
          simp only [Bool.and_eq_true, Bool.or_eq_true, decide_eq_true_eq]
          have := hI.fin
          show (((((((((0 : Int) ≤ 1 ∧ (1 : Int) ≤ 2) ∧ (p.fin = 0 ∨ p.fin = 1)) ∧ 0 ≤ p.claim.word.gen + 1) ∧ p.claim.word.gen + 1 ≤ 8191) ∧ 0 ≤ p.tick.stamp.lo) ∧ p.tick.stamp.lo ≤ 16777215) ∧ 0 ≤ p.tick.stamp.hi) ∧ p.tick.stamp.hi ≤ 16777215)
          omega
        have hup := unpack_pack _ hnr
        have e := (touch_in' (w := (w : Int)) (op := 1) (old := 0) (next := (p.claim.word.next p.fin p.tick.stamp).pack) hh).1
        refine ⟨MemM.touch_wf h.wf _ _ _ _ _ (pack_bdP _), h.logd.touch b0 hs1 ?_, fun z o o0 o1 => ?_, Chg.turn hh (by decide) (fun s s0 s1 z => ?_) (fun o o0 o1 _ z => ?_) (fun _ o o0 o1 _ z => ?_) h.conf, fun k' p' q => ?_, fun k' p' q => ?_, fun k' g' q => (leftK_pg q).elim⟩
        · rw [may_word h.conf ⟨by show 0 ≤ (w : Int); omega, hw⟩ b0 b1]
          show ((w : Int) == ownerM c p.claim.slot && (unpack (getI m.cells p.claim.slot)).state != 1 && (unpack (p.claim.word.next p.fin p.tick.stamp).pack).stamp.right && decide (unpack (p.claim.word.next p.fin p.tick.stamp).pack = (unpack (getI m.cells p.claim.slot)).next (unpack (p.claim.word.next p.fin p.tick.stamp).pack).fin (unpack (p.claim.word.next p.fin p.tick.stamp).pack).stamp)) = true
          rw [hup, show unpack (getI m.cells p.claim.slot) = p.claim.word from cw1, hown_slot]
          have : (p.claim.word.state != 1) = true := by simpa using cw2
          rw [this]
          show (true && true && p.tick.stamp.right && decide (p.claim.word.next p.fin p.tick.stamp = p.claim.word.next p.fin p.tick.stamp)) = true
          rw [hst]; simp
        · rw [e, getI_setI_ne _ _ _ _ b0 (by unfold ConfM.number; omega) (by unfold ConfM.number; omega)]
          exact h.num z o o0 o1
        · exact .inr (.inr ⟨k, p, hat, z.symm, hcl1⟩)
        · unfold ConfM.hazard at z; omega
        · unfold ConfM.number at z; omega
        · obtain ⟨_, ph, _⟩ := leftK_put q
          have ph' : (1 : Int) = 0 := ph
          cases ph'
        · obtain ⟨_, ph, _⟩ := leftK_put q
          have ph' : (1 : Int) = 0 := ph
          cases ph'
/-! ### A Get -/
theorem put_guard (h : Proto c m ts) {s : Int} (hlive : (wdM m s).state = 1) {o : Nat} {k : CallM} {p : PutM} (ho : ts[o]? = some (some ⟨k, .put p⟩)) (hs : p.claim.slot = s) : p.claim.guard < 0 := by
  have hI := h.put o k p ho
  rcases Int.lt_or_le p.claim.guard 0 with q | q
  · exact q
  · obtain ⟨a, b, _⟩ := hI.claim.cw (.inl q)
    rw [hs] at a
    rw [a] at hlive
    exact (b hlive).elim
theorem TakeI.weaken {m' : MemM} {t : TakeM} (h : TakeI c m ts w t) (hne : t.steps = 0) : TakeI c m' (ts.set w (some ⟨⟨0, 0, 0, 0⟩, .get ⟨c, 0, 0, 0, SnapM.new c 0 0, none, 0, 0, 0⟩⟩)) w t :=
  ⟨h.own, h.s0, h.s1, h.live, h.st, fun q => by omega, fun q => by omega⟩
theorem take_new {m' : MemM} {ts' : List (Option TaskM)} {slot word : Int} (s0 : 0 ≤ slot) (s1 : slot < c.all) (hl : (unpack word).state = 1) : TakeI c m' ts' w (TakeM.new c w slot word) :=
  ⟨⟨rfl, rfl⟩, s0, s1, hl, Int.le_refl _, fun q => by (have q' : (1 : Int) ≤ 0 := q); omega, fun q => by (have q' : (0 : Int) = 2 := q); omega⟩
theorem chosen_I {m' : MemM} {ts' : List (Option TaskM)} {g : GetM} (ho : g.own c w) (hp : g.phase = 0) (hl : (g.snap.words.length : Int) = c.all) (hn : g.take = none) (hq : g.chosen.phase = 0) : GetI c m' ts' w g.chosen := by
  have hown := GetM.chosen_own ho
  unfold GetM.chosen at hq hown ⊢
  dsimp only at hq hown ⊢
  split at hq
  · cases hq
  · rename_i q
    rw [if_neg q] at hown ⊢
    rcases atM_range g.snap.words g.fin with ⟨_, e⟩ | ⟨_, r1, r2, r3⟩
    · omega
    · refine ⟨hown, hp, hl, fun t ht => ?_⟩
      simp only [Option.some.injEq] at ht
      subst ht
      refine ⟨?_, rfl⟩
      rw [ho.conf, ho.who]
      exact take_new r1 (by omega) r3
theorem get_did (h : Proto c m ts) {k : CallM} {g : GetM} (hat : ts[w]? = some (some ⟨k, .get g⟩)) : Did c m (g.step m).2 ts w (leftK ⟨k, .get (g.step m).1⟩) := by
  have hI := h.get w k g hat
  have hw := at_th h.tl hat
  have hal := h.conf.all_bd
  have hth := h.conf.th1
  have hph := hI.phase
  have hown := (GetM.step_own hI.own m).1
  have hwi : (0 : Int) ≤ w ∧ (w : Int) < c.th := ⟨by omega, hw⟩
  unfold GetM.step at hown ⊢
  rw [if_neg (by omega)] at hown ⊢
  cases ht : g.take with
  | none =>
    rw [ht] at hown
    dsimp only at hown ⊢
    have hsc := hI.own.snap.conf
    have hsw := hI.own.snap.who
    have hslot : 0 ≤ g.snap.slot ∧ g.snap.slot < c.all := by
      unfold SnapM.slot; rw [hsc]
      exact ⟨Int.emod_nonneg _ (by omega), Int.emod_lt_of_pos _ (by omega)⟩
    have hlen : ((g.snap.step m).1.words.length : Int) = c.all := by
      have := hI.len
      unfold SnapM.step
      split
      · exact this
      · dsimp only
        split <;> (simp only [setI_len]; exact this)
    have hmem : (g.snap.step m).2 = m ∨ (g.snap.step m).2 = m.touch w 0 g.snap.slot 0 0 := by
      unfold SnapM.step
      split
      · exact .inl rfl
      · right; rw [hsw]
    have hget : ∀ m' k' g', leftK ⟨k, .get (if (g.snap.step m).1.phase = 1 then GetM.chosen ⟨g.conf, g.who, g.fin, g.start, (g.snap.step m).1, none, g.tries, g.value, g.phase⟩ else ⟨g.conf, g.who, g.fin, g.start, (g.snap.step m).1, none, g.tries, g.value, g.phase⟩)⟩ = some ⟨k', .get g'⟩ →
        GetI c m' (ts.set w (leftK ⟨k, .get (if (g.snap.step m).1.phase = 1 then GetM.chosen ⟨g.conf, g.who, g.fin, g.start, (g.snap.step m).1, none, g.tries, g.value, g.phase⟩ else ⟨g.conf, g.who, g.fin, g.start, (g.snap.step m).1, none, g.tries, g.value, g.phase⟩)⟩)) w g' := by
      intro m' k' g' q
      obtain ⟨rfl, ph, _⟩ := leftK_get q
      have ho2 : (⟨g.conf, g.who, g.fin, g.start, (g.snap.step m).1, none, g.tries, g.value, g.phase⟩ : GetM).own c w := ⟨hI.own.conf, hI.own.who, (SnapM.step_own hI.own.snap m).1, fun t q => by cases q⟩
      by_cases z : (g.snap.step m).1.phase = 1
      · rw [if_pos z] at ph ⊢
        exact chosen_I ho2 hph hlen rfl ph
      · rw [if_neg z] at ph ⊢
        exact ⟨ho2, hph, hlen, fun t q => by cases q⟩
    rcases hmem with e | e
    · rw [e]
      exact ⟨h.wf, h.logd, h.num, Chg.refl c m ts w, fun k' p' q => (leftK_gp q).elim, fun k' p' q => (leftK_gp q).elim, fun k' g' q => hget _ k' g' q⟩
    · rw [e]
      refine did_load h hslot.1 (by unfold ConfM.cells; omega) ?_ (fun k' p' q => (leftK_gp q).elim) (fun k' p' q => (leftK_gp q).elim) (fun k' g' q => hget _ k' g' q)
      rw [may_word h.conf hwi hslot.1 hslot.2]
      rfl
  | some t =>
    rw [ht] at hown
    dsimp only at hown ⊢
    obtain ⟨hT, htp⟩ := hI.take t ht
    have htc := hT.own.conf
    have htw := hT.own.who
    have s0 := hT.s0
    have s1 := hT.s1
    have hst := hT.st
    have hsl : t.slot < c.cells := by unfold ConfM.cells; omega
    have hhs := h.logd.has s0 hsl
    have hhz : 0 ≤ c.hazard w ∧ c.hazard w < c.cells := by unfold ConfM.hazard ConfM.cells; omega
    have hhh := h.logd.has hhz.1 hhz.2
    have hpk : m.peek t.slot = getI m.cells t.slot := h.logd.peek s0 hsl
    -- a step in which the hazard is written
    have hazS : ∀ (x : Int) (new : Option TaskM), 0 ≤ x ∧ x < 18446744073709551616 → (∀ k p, new = some ⟨k, .put p⟩ → False) → (∀ k' g', new = some ⟨k', .get g'⟩ → getI (m.touch w 1 (c.hazard w) 0 x).cells (c.hazard w) = x → GetI c (m.touch w 1 (c.hazard w) 0 x) (ts.set w new) w g') → Did c m (m.touch w 1 (c.hazard w) 0 x) ts w new := by
      intro x new hx hnp hng
      have e := (touch_in' (w := (w : Int)) (op := 1) (old := 0) (next := x) hhh).1
      refine ⟨MemM.touch_wf h.wf _ _ _ _ _ hx, h.logd.touch hhz.1 hhz.2 ?_, fun z o o0 o1 => ?_, Chg.turn hhh (by decide) (fun s s0 s1 z => ?_) (fun o o0 o1 hne z => ?_) (fun _ o o0 o1 _ z => ?_) h.conf, fun k' p' q => (hnp k' p' q).elim, fun k' p' q => (hnp k' p' q).elim, fun k' g' q => hng k' g' q ?_⟩
      · rw [may_hazard h.conf hwi (t := (w : Int)) rfl (by omega) hw]
        show ((1 : Int) == 0 || ((1 : Int) == 1 && (w : Int) == (w : Int))) = true
        simp
      · rw [e, getI_setI_ne _ _ _ _ hhz.1 (by unfold ConfM.number; omega) (by unfold ConfM.number ConfM.hazard; omega)]
        exact h.num z o o0 o1
      · unfold ConfM.hazard at z; omega
      · unfold ConfM.hazard at z; omega
      · unfold ConfM.hazard ConfM.number at z; omega
      · rw [e, getI_setI_of _ _ _ hhz.1 (by rw [h.logd.cl]; exact hhz.2)]
        rfl
    -- what a Get is behind a step of its take that goes on
    have goes : ∀ (m' : MemM) (t' : TakeM) (k' : CallM) (g' : GetM), t'.phase = 0 → (∀ new : Option TaskM, (∀ k p, new = some ⟨k, .put p⟩ → False) → TakeI c m' (ts.set w new) w t') → leftK ⟨k, .get { g with take := some t' }⟩ = some ⟨k', .get g'⟩ → GetI c m' (ts.set w (leftK ⟨k, .get { g with take := some t' }⟩)) w g' := by
      intro m' t' k' g' h1 h2 q
      obtain ⟨rfl, ph, _⟩ := leftK_get q
      have h3 := h2 (leftK ⟨k, .get { g with take := some t' }⟩) (fun k' p' q => leftK_gp q)
      exact ⟨⟨hI.own.conf, hI.own.who, hI.own.snap, fun u hu => by simp only [Option.some.injEq] at hu; subst hu; exact h3.own⟩, hph, hI.len, fun u hu => by simp only [Option.some.injEq] at hu; subst hu; exact ⟨h3, h1⟩⟩
    -- .. and behind its end
    have ends : ∀ (x : Int) (t' : TakeM), t'.phase = 1 ∨ t'.phase = 2 → ∀ (new : Option TaskM), new = leftK ⟨k, .get (if t'.phase = 1 then { g with take := some t', value := t'.get, phase := 1 } else if t'.phase = 2 then { g with tries := g.tries + 1, take := none, snap := SnapM.new g.conf g.who g.start } else { g with take := some t' })⟩ →
        (∀ k p, new = some ⟨k, .put p⟩ → False) ∧ ∀ m' k' g', new = some ⟨k', .get g'⟩ → GetI c m' (ts.set w new) w g' := by
      intro x t' hp' new hnew
      subst hnew
      refine ⟨fun k' p' q => leftK_gp q, fun m' k' g' q => ?_⟩
      rcases hp' with z | z
      · rw [if_pos z] at q
        obtain ⟨_, ph, _⟩ := leftK_get q
        cases ph
      · rw [if_neg (by omega), if_pos z] at q
        obtain ⟨rfl, ph, _⟩ := leftK_get q
        refine ⟨⟨hI.own.conf, hI.own.who, ⟨hI.own.conf, hI.own.who⟩, fun u hu => by cases hu⟩, hph, ?_, fun u hu => by cases hu⟩
        show ((List.replicate g.conf.all.toNat (0 : Int)).length : Int) = c.all
        rw [List.length_replicate, hI.own.conf]; omega
    have hfin : ∀ (t' : TakeM), t'.phase = 1 ∨ t'.phase = 2 → Did c m (m.touch w 1 (c.hazard w) 0 0) ts w (leftK ⟨k, .get (if t'.phase = 1 then { g with take := some t', value := t'.get, phase := 1 } else if t'.phase = 2 then { g with tries := g.tries + 1, take := none, snap := SnapM.new g.conf g.who g.start } else { g with take := some t' })⟩) := by
      intro t' hp'
      obtain ⟨a, b⟩ := ends 0 t' hp' _ rfl
      exact hazS 0 _ (by omega) a (fun k' g' q _ => b _ k' g' q)
    unfold TakeM.step
    rw [if_neg (by omega)]
    by_cases hl : t.lost = true
    · rw [if_pos hl]
      unfold TakeM.fin
      rw [htc, htw]
      dsimp only
      exact hfin ⟨c, w, t.slot, t.word, t.steps, t.lost, t.value, if t.lost = true then 2 else 1⟩ (by rw [if_pos hl]; exact .inr rfl)
    · rw [if_neg hl]
      have hl' : t.lost = false := by simpa using hl
      dsimp only
      by_cases q0 : t.steps = 0
      · rw [if_pos q0, htc, htw]
        dsimp only
        rw [if_neg (show ¬ t.phase = 1 by omega), if_neg (show ¬ t.phase = 2 by omega)]
        refine hazS _ _ (by omega) (fun k' p' q => leftK_gp q) (fun k' g' q hx => goes _ _ k' g' (by exact htp) (fun new hn => ?_) q)
        refine ⟨⟨rfl, rfl⟩, s0, s1, hT.live, by show 0 ≤ t.steps + 1; omega, fun _ => hx, fun z => ?_⟩
        have z' : t.steps + 1 = 2 := z
        omega
      · rw [if_neg q0]
        by_cases q1 : t.steps = 1
        · rw [if_pos q1, htw]
          dsimp only
          rw [if_neg (show ¬ t.phase = 1 by omega), if_neg (show ¬ t.phase = 2 by omega)]
          have hcs := load_same (w := (w : Int)) hhs
          refine did_load h s0 hsl ?_ (fun k' p' q => (leftK_gp q).elim) (fun k' p' q => (leftK_gp q).elim) (fun k' g' q => goes _ _ k' g' (by exact htp) (fun new hn => ?_) q)
          · rw [may_word h.conf hwi s0 s1]; rfl
          · refine ⟨⟨htc, rfl⟩, s0, s1, hT.live, by show 0 ≤ t.steps + 1; omega, fun _ => by show getI (m.touch _ _ _ _ _).cells _ = _; rw [hcs]; exact hT.hz (by omega), fun _ z2 => ?_⟩
            have z2' : (!decide (m.peek t.slot = t.word)) = false := z2
            have hwd : m.peek t.slot = t.word := by simpa using z2'
            rw [hpk] at hwd
            have hlv : (wdM m t.slot).state = 1 := by unfold wdM; rw [hwd]; exact hT.live
            refine ⟨?_, ?_, ?_, fun o k' p' ho hs => ?_⟩
            · show rdM (m.touch w 0 t.slot 0 0).log w t.slot = some (unpack t.word).gen
              rw [rd_touch hhs, if_pos ⟨rfl, rfl, rfl⟩, hwd]
            · show (unpack (getI (m.touch _ _ _ _ _).cells t.slot)).gen = (unpack t.word).gen
              rw [hcs, hwd]
            · show (unpack (getI (m.touch _ _ _ _ _).cells t.slot)).state ≠ 0
              rw [hcs]
              have : (unpack (getI m.cells t.slot)).state = 1 := hlv
              omega
            · rw [List.getElem?_set] at ho
              split at ho
              · split at ho
                · simp only [Option.some.injEq] at ho
                  exact (hn k' p' ho).elim
                · cases ho
              · have := put_guard h hlv ho hs
                omega
        · rw [if_neg q1]
          by_cases q2 : t.steps = 2
          · rw [if_pos q2, htc, htw]
            dsimp only
            rw [if_neg (show ¬ t.phase = 1 by omega), if_neg (show ¬ t.phase = 2 by omega)]
            obtain ⟨r1, r2, r3, r4⟩ := hT.rd q2 hl'
            have hv : 0 ≤ c.value t.slot ∧ c.value t.slot < c.cells := by unfold ConfM.value ConfM.cells; omega
            have hcs := load_same (w := (w : Int)) (h.logd.has hv.1 hv.2)
            refine did_load h hv.1 hv.2 ?_ (fun k' p' q => (leftK_gp q).elim) (fun k' p' q => (leftK_gp q).elim) (fun k' g' q => goes _ _ k' g' (by exact htp) (fun new hn => ?_) q)
            · rw [may_value h.conf hwi (s := t.slot) rfl s0 s1]
              show (match rdM m.log w t.slot with | none => false | some x => x == (unpack (lastM m.log t.slot)).gen && lastM m.log (c.hazard w) == u64M (t.slot + 1)) = true
              rw [r1, h.logd.last _ s0 hsl, h.logd.last _ hhz.1 hhz.2, hT.hz (by omega)]
              show ((unpack t.word).gen == (wdM m t.slot).gen && t.slot + 1 == u64M (t.slot + 1)) = true
              rw [r2]
              simp [u64M]
              omega
            · refine ⟨⟨rfl, rfl⟩, s0, s1, hT.live, by show 0 ≤ t.steps + 1; omega, fun _ => by show getI (m.touch _ _ _ _ _).cells _ = _; rw [hcs]; exact hT.hz (by omega), fun z => ?_⟩
              have z' : t.steps + 1 = 2 := z
              omega
          · rw [if_neg q2]
            by_cases q3 : t.steps = 3
            · rw [if_pos q3, htw]
              dsimp only
              rw [if_neg (show ¬ t.phase = 1 by omega), if_neg (show ¬ t.phase = 2 by omega)]
              have htr : (unpack t.word).taken.right = true := by
                have := unpack_right t.word (by have := hT.live; omega)
                unfold WordM.right at this ⊢
                simp only [WordM.taken]
                simp only [Bool.and_eq_true] at this ⊢
                obtain ⟨⟨⟨⟨⟨⟨⟨⟨h1, h2⟩, h3⟩, h4⟩, h5⟩, h6⟩, h7⟩, h8⟩, h9⟩ := this
                exact ⟨⟨⟨⟨⟨⟨⟨⟨rfl, rfl⟩, h3⟩, h4⟩, h5⟩, h6⟩, h7⟩, h8⟩, h9⟩
              have hup := unpack_pack _ htr
              have e := (touch_in' (w := (w : Int)) (op := 2) (old := t.word) (next := (unpack t.word).taken.pack) hhs).1
              refine ⟨MemM.touch_wf h.wf _ _ _ _ _ (pack_bdP _), h.logd.touch s0 hsl ?_, fun z o o0 o1 => ?_, Chg.turn hhs (by decide) (fun s _ _ z => ?_) (fun o o0 o1 _ z => ?_) (fun _ o o0 o1 _ z => ?_) h.conf, fun k' p' q => (leftK_gp q).elim, fun k' p' q => (leftK_gp q).elim, fun k' g' q => goes _ _ k' g' (by exact htp) (fun new hn => ?_) q⟩
              · rw [may_word h.conf hwi s0 s1]
                show (!(opOk 2 (getI m.cells t.slot) t.word) || ((unpack (getI m.cells t.slot)).state == 1 && decide (unpack (opNew 2 (getI m.cells t.slot) t.word (unpack t.word).taken.pack) = (unpack (getI m.cells t.slot)).taken))) = true
                by_cases z : getI m.cells t.slot = t.word
                · rw [z]
                  simp only [opOk, opNew]
                  simp [hT.live, hup]
                · simp [opOk, z]
              · rw [e, getI_setI_ne _ _ _ _ s0 (by unfold ConfM.number; omega) (by unfold ConfM.number; omega)]
                exact h.num z o o0 o1
              · subst z
                unfold wdM
                rw [e, getI_setI_of _ _ _ s0 (by rw [h.logd.cl]; exact hsl)]
                by_cases z : getI m.cells t.slot = t.word
                · right; left
                  rw [z]
                  refine ⟨hT.live, ?_⟩
                  simp only [opNew]
                  simp [hup]
                · left
                  simp [opNew, z]
              · unfold ConfM.hazard at z; omega
              · unfold ConfM.number at z; omega
              · refine ⟨⟨htc, rfl⟩, s0, s1, hT.live, by show 0 ≤ t.steps + 1; omega, fun _ => ?_, fun z => ?_⟩
                · show getI (m.touch _ _ _ _ _).cells _ = _
                  rw [e, getI_setI_ne _ _ _ _ s0 hhz.1 (by unfold ConfM.hazard; omega)]
                  exact hT.hz (by omega)
                · have z' : t.steps + 1 = 2 := z
                  omega
            · rw [if_neg q3]
              unfold TakeM.fin
              rw [htc, htw]
              dsimp only
              exact hfin ⟨c, w, t.slot, t.word, t.steps + 1, t.lost, t.value, if t.lost = true then 2 else 1⟩ (by rw [if_neg hl]; exact .inl rfl)
end
end Go.Proofs.YtegdhojhnmgjgaaGreat
/- Whatever a yard does to its cells may be done, behind whatever moves. Plain lemmas on the model. -/
namespace Go.Proofs.YtegdhojhnmgjgaaGreat
structure YardM.pinv (y : YardM) : Prop where
  proto : Proto y.conf y.mem y.tasks
  now0 : 0 ≤ y.now
  now1 : y.now ≤ MaxTime
theorem getI_rep (n : Nat) (i : Int) : getI (List.replicate n 0) i = 0 := by
  unfold getI
  rw [List.getD_eq_getElem?_getD, List.getElem?_replicate]
  split <;> rfl
theorem YardM.new_pinv {c : ConfM} (hc : c.ok) : (YardM.new c).pinv := by
  have h1 := hc.th1
  have h2 := hc.all_bd
  have hcl : 0 ≤ c.cells := by unfold ConfM.cells; omega
  refine ⟨⟨hc, ?_, ⟨?_, fun i _ _ => ?_, rfl⟩, ?_, fun _ o _ _ => ?_, fun o k p h => ?_, fun o k g h => ?_⟩, Int.le_refl _, by show (0 : Int) ≤ 1099511627776; omega⟩
  · intro x hx
    obtain ⟨_, rfl⟩ := List.mem_replicate.1 hx
    omega
  · show ((List.replicate c.cells.toNat (0 : Int)).length : Int) = c.cells
    rw [List.length_replicate]; omega
  · show (0 : Int) = getI (List.replicate c.cells.toNat 0) i
    rw [getI_rep]
  · show ((List.replicate c.th.toNat (none : Option TaskM)).length : Int) = c.th
    rw [List.length_replicate]; omega
  · show getI (List.replicate c.cells.toNat 0) _ < (16777215 : Int)
    rw [getI_rep]; omega
  · simp [YardM.new, List.getElem?_replicate] at h
  · simp [YardM.new, List.getElem?_replicate] at h
theorem YardM.pass_pinv {y : YardM} (h : y.pinv) (n : Int) : (y.pass n).pinv := by
  unfold YardM.pass
  split
  · have h0 := h.now0
    have h1 : y.now ≤ 1099511627776 := h.now1
    exact ⟨h.proto, by show 0 ≤ y.now + min n (1099511627776 - y.now); omega, by show y.now + min n (1099511627776 - y.now) ≤ 1099511627776; omega⟩
  · exact h
theorem call_did {c : ConfM} {m : MemM} {ts : List (Option TaskM)} {w : Nat} (h : Proto c m ts) {k : CallM} (hr : k.right = true) (hv : 0 ≤ k.value ∧ k.value < 18446744073709551616) : Did c m m ts w (some (TaskM.new c w k)) := by
  have h1 := h.conf.th1
  have h2 := h.conf.sl1
  have h3 := h.conf.all_bd
  refine ⟨h.wf, h.logd, h.num, Chg.refl c m ts w, fun k' p q => ?_, fun k' p q => ?_, fun k' g q => ?_⟩
  · unfold TaskM.new at q
    split at q
    · simp only [Option.some.injEq, TaskM.mk.injEq, WorkM.put.injEq] at q
      obtain ⟨_, rfl⟩ := q
      refine ⟨⟨rfl, rfl, ⟨rfl, rfl⟩, ⟨rfl, rfl⟩⟩, rfl, ⟨Int.le_refl _, by show 0 < c.sl; omega, Int.le_refl _, fun _ => by show (-1 : Int) < c.th; omega, fun z => ?_, (fun z => by cases z), .inl rfl⟩, ⟨(fun z => by cases z), Int.le_refl _, by show (0 : Int) ≤ _; omega, Int.le_refl _, fun _ _ z => ?_, .inl rfl⟩, ?_, hv⟩
      · rcases z with z | z
        · have z' : (0 : Int) ≤ -1 := z
          omega
        · cases z
      · have z' : (w : Int) < 0 := z
        omega
      · unfold CallM.right at hr
        simp only [Bool.and_eq_true, Bool.or_eq_true, decide_eq_true_eq] at hr
        exact hr.2
    · simp only [Option.some.injEq, TaskM.mk.injEq] at q
      cases q.2
  · unfold TaskM.new at q
    split at q
    · simp only [Option.some.injEq, TaskM.mk.injEq, WorkM.put.injEq] at q
      obtain ⟨_, rfl⟩ := q
      intro o t _ _ _ _ _ _
      show (-1 : Int) ≤ o
      omega
    · simp only [Option.some.injEq, TaskM.mk.injEq] at q
      cases q.2
  · unfold TaskM.new at q
    split at q
    · simp only [Option.some.injEq, TaskM.mk.injEq] at q
      cases q.2
    · simp only [Option.some.injEq, TaskM.mk.injEq, WorkM.get.injEq] at q
      obtain ⟨_, rfl⟩ := q
      refine ⟨⟨rfl, rfl, ⟨rfl, rfl⟩, (fun t z => by cases z)⟩, rfl, ?_, (fun t z => by cases z)⟩
      show ((List.replicate c.all.toNat (0 : Int)).length : Int) = c.all
      rw [List.length_replicate]; omega
theorem YardM.call_pinv {y : YardM} (h : y.pinv) (who : Int) {k : CallM} (hv : 0 ≤ k.value ∧ k.value < 18446744073709551616) : (y.call who k).1.pinv := by
  unfold YardM.call
  split
  · exact h
  · split
    · exact h
    · rename_i hbad hb
      have ht : y.there who = true := by cases q : y.there who <;> simp_all
      have hr : k.right = true := by cases q : k.right <;> simp_all
      have hbd := YardM.there_bd ht
      have hd := Did.proto h.proto (call_did (w := who.toNat) h.proto hr hv)
      rw [show ((who.toNat : Nat) : Int) = who by omega] at hd
      exact ⟨hd, h.now0, h.now1⟩
/-- What a step of a yard is. -/
theorem YardM.step_eq {y : YardM} (who : Int) : (y.busy who = false ∧ (y.step who).1 = y) ∨
    ∃ t, y.busy who = true ∧ y.there who = true ∧ y.task who = some t ∧ (y.step who).1.conf = y.conf ∧ (y.step who).1.mem = (t.step y.mem y.now).2 ∧ (y.step who).1.tasks = y.tasks.set who.toNat (leftK (t.step y.mem y.now).1) ∧ (y.step who).1.now = y.now + min 1 (MaxTime - y.now) ∧ (y.step who).1.moves = y.moves + 1 ∧ (y.step who).1.mine = y.mine ∧
      (y.step who).1.deeds = (if (t.step y.mem y.now).1.over = true then y.deeds.modify (getI y.mine who).toNat (fun d => { d with stop := y.moves, reply := (t.step y.mem y.now).1.reply }) else y.deeds) := by
  cases hb : y.busy who with
  | false =>
    left
    refine ⟨rfl, ?_⟩
    unfold YardM.step
    rw [hb]; rfl
  | true =>
    right
    have hb' := hb
    unfold YardM.busy at hb'
    rw [Bool.and_eq_true] at hb'
    obtain ⟨t, hk⟩ := Option.isSome_iff_exists.1 hb'.2
    refine ⟨t, rfl, hb'.1, hk, ?_⟩
    unfold YardM.step
    rw [hb, hk]
    simp only [Bool.not_true, Bool.false_eq_true, if_false]
    generalize t.step y.mem y.now = r
    unfold leftK
    by_cases q : r.1.over = true
    · simp only [q, if_true]
      refine ⟨rfl, rfl, ?_, ?_, rfl, rfl, rfl⟩
      · unfold YardM.pass
        show ((y.tasks.set who.toNat (some r.1)).set who.toNat none) = _
        rw [List.set_set]
      · unfold YardM.pass
        rw [if_pos (by decide)]
    · have q' : r.1.over = false := by simpa using q
      simp only [q', Bool.false_eq_true, if_false]
      refine ⟨rfl, rfl, rfl, ?_, rfl, rfl, rfl⟩
      unfold YardM.pass
      rw [if_pos (by decide)]
theorem YardM.step_pinv {y : YardM} (h : y.pinv) (who : Int) : (y.step who).1.pinv := by
  rcases YardM.step_eq (y := y) who with ⟨_, e⟩ | ⟨t, hb, ht, hk, e1, e2, e3, e4, _⟩
  · rw [e]; exact h
  · have hbd := YardM.there_bd ht
    have hat := YardM.task_at' h.proto.tl ht hk
    have h0 := h.now0
    have h1 : y.now ≤ 1099511627776 := h.now1
    refine ⟨?_, by rw [e4]; show 0 ≤ y.now + min 1 (1099511627776 - y.now); omega, by rw [e4]; show y.now + min 1 (1099511627776 - y.now) ≤ 1099511627776; omega⟩
    rw [e1, e2, e3]
    obtain ⟨k, x⟩ := t
    cases x with
    | put p => exact Did.proto h.proto (put_did h.proto hat h.now0)
    | get g => exact Did.proto h.proto (get_did h.proto hat)
theorem MoveM.run_pinv {y : YardM} (h : y.pinv) (th : Int) {v : MoveM} (hv : v.wf) : (v.run th y).pinv := by
  unfold MoveM.run
  split
  · exact YardM.call_pinv h _ hv
  · split
    · exact YardM.pass_pinv h _
    · split
      · exact YardM.step_pinv h _
      · exact YardM.step_pinv h _
theorem runsM_pinv (th : Int) : ∀ (l : List MoveM) {y : YardM} (h : y.pinv), (∀ v ∈ l, v.wf) → (runsM th y l).pinv
  | [], y, h, _ => h
  | v :: l, y, h, hv => runsM_pinv th l (MoveM.run_pinv h th (hv v (by simp))) (fun u hu => hv u (by simp [hu]))
end Go.Proofs.YtegdhojhnmgjgaaGreat
/- What a yard tells are numbers as the program holds them. Plain lemmas on the model. -/
namespace Go.Proofs.YtegdhojhnmgjgaaGreat
def u64R (i : Int) : Prop := 0 ≤ i ∧ i < 18446744073709551616
def GetM.vok (g : GetM) : Prop := u64R g.value ∧ ∀ t, g.take = some t → u64R t.value
def WorkM.vok : WorkM → Prop
  | .put _ => True
  | .get g => g.vok
theorem TakeM.step_vok {t : TakeM} {m : MemM} (h : u64R t.value) (hm : m.wf) : u64R (t.step m).1.value := by
  unfold TakeM.step TakeM.fin
  split
  · exact h
  · split
    · exact h
    · dsimp only
      (repeat' split) <;> first | exact h | exact MemM.peek_wf hm _
theorem GetM.step_vok {g : GetM} {m : MemM} (h : g.vok) (hm : m.wf) : (g.step m).1.vok := by
  unfold GetM.step
  split
  · exact h
  · cases ht : g.take with
    | none =>
      dsimp only
      split
      · unfold GetM.chosen
        dsimp only
        split
        · exact ⟨h.1, (fun t q => by cases q)⟩
        · exact ⟨h.1, fun t q => by simp only [Option.some.injEq] at q; subst q; exact ⟨Int.le_refl _, by show (0 : Int) < _; omega⟩⟩
      · exact ⟨h.1, (fun t q => by cases q)⟩
    | some t =>
      have hv := TakeM.step_vok (h.2 t ht) hm
      dsimp only
      split
      · refine ⟨?_, fun u q => by simp only [Option.some.injEq] at q; subst q; exact hv⟩
        show u64R (t.step m).1.get
        unfold TakeM.get
        by_cases q : (t.step m).1.phase = 1
        · rw [if_pos q]; exact hv
        · rw [if_neg q]; exact ⟨Int.le_refl _, by omega⟩
      · split
        · exact ⟨h.1, (fun u q => by cases q)⟩
        · exact ⟨h.1, fun u q => by simp only [Option.some.injEq] at q; subst q; exact hv⟩
theorem TaskM.new_vok (c : ConfM) (w : Int) (k : CallM) : (TaskM.new c w k).work.vok := by
  unfold TaskM.new
  dsimp only
  split
  · exact True.intro
  · exact (⟨⟨Int.le_refl _, by show (0 : Int) < _; omega⟩, (fun t q => by cases q)⟩ : (GetM.new c w k.fin k.start).vok)
theorem TaskM.step_vok {t : TaskM} {m : MemM} (now : Int) (h : t.work.vok) (hm : m.wf) : (t.step m now).1.work.vok := by
  obtain ⟨k, x⟩ := t
  cases x with
  | put p => exact True.intro
  | get g => exact GetM.step_vok (g := g) h hm
theorem TaskM.reply_vok {t : TaskM} (h : t.work.vok) : u64R t.reply.value := by
  have h0 : u64R 0 := ⟨Int.le_refl _, by omega⟩
  unfold TaskM.reply
  split
  · exact h0
  · obtain ⟨k, x⟩ := t
    cases x with
    | put p => exact h0
    | get g => exact (show g.vok from h).1
structure YardM.vinv (y : YardM) : Prop where
  task : ∀ (i : Nat) t, y.tasks[i]? = some (some t) → t.work.vok
  deeds : ∀ d ∈ y.deeds, u64R d.call.value ∧ u64R d.reply.value
theorem YardM.new_vinv (c : ConfM) : (YardM.new c).vinv :=
  ⟨fun i t h => by simp [YardM.new, List.getElem?_replicate] at h, fun d h => by simp [YardM.new] at h⟩
theorem YardM.pass_vinv {y : YardM} (h : y.vinv) (n : Int) : (y.pass n).vinv := by
  unfold YardM.pass; split
  · exact ⟨h.task, h.deeds⟩
  · exact h
theorem YardM.call_vinv {y : YardM} (h : y.vinv) (who : Int) {k : CallM} (hv : u64R k.value) : (y.call who k).1.vinv := by
  unfold YardM.call
  split
  · exact h
  · split
    · exact h
    · refine ⟨fun i t hi => ?_, fun d hd => ?_⟩
      · have hi' : (y.tasks.set who.toNat (some (TaskM.new y.conf who k)))[i]? = some (some t) := hi
        rw [List.getElem?_set] at hi'
        split at hi'
        · split at hi'
          · simp only [Option.some.injEq] at hi'; subst hi'; exact TaskM.new_vok _ _ _
          · cases hi'
        · exact h.task i t hi'
      · have hd' : d ∈ y.deeds ++ [⟨who, k, y.moves, -1, .zero⟩] := hd
        rcases List.mem_append.1 hd' with q | q
        · exact h.deeds d q
        · simp at q; subst q; exact ⟨hv, Int.le_refl _, by show (0 : Int) < _; omega⟩
theorem YardM.step_vinv {y : YardM} (h : y.vinv) (hm : y.mem.wf) (tl : (y.tasks.length : Int) = y.conf.th) (who : Int) : (y.step who).1.vinv := by
  rcases YardM.step_eq (y := y) who with ⟨_, e⟩ | ⟨t, hb, ht, hk, e1, e2, e3, e4, e5, e6, e7⟩
  · rw [e]; exact h
  · have hat := YardM.task_at' tl ht hk
    have hvk := TaskM.step_vok y.now (h.task _ t hat) hm
    refine ⟨fun i u hi => ?_, fun d hd => ?_⟩
    · rw [e3, List.getElem?_set] at hi
      split at hi
      · split at hi
        · simp only [Option.some.injEq] at hi
          unfold leftK at hi
          split at hi
          · cases hi
          · simp only [Option.some.injEq] at hi; subst hi; exact hvk
        · cases hi
      · exact h.task i u hi
    · rw [e7] at hd
      split at hd
      · obtain ⟨j, hj⟩ := List.mem_iff_getElem?.1 hd
        rcases modify_at hj with ⟨_, d0, d1, rfl⟩ | ⟨_, d1⟩
        · exact ⟨(h.deeds d0 (List.mem_of_getElem? d1)).1, TaskM.reply_vok hvk⟩
        · exact h.deeds d (List.mem_of_getElem? d1)
      · exact h.deeds d hd
theorem MoveM.run_vinv {y : YardM} (h : y.vinv) (hp : y.pinv) (th : Int) {v : MoveM} (hv : v.wf) : (v.run th y).vinv := by
  unfold MoveM.run
  split
  · exact YardM.call_vinv h _ hv
  · split
    · exact YardM.pass_vinv h _
    · split
      · exact YardM.step_vinv h hp.proto.wf hp.proto.tl _
      · exact YardM.step_vinv h hp.proto.wf hp.proto.tl _
theorem runsM_vinv (th : Int) : ∀ (l : List MoveM) {y : YardM} (h : y.vinv) (hp : y.pinv), (∀ v ∈ l, v.wf) → (runsM th y l).vinv
  | [], y, h, _, _ => h
  | v :: l, y, h, hp, hv => runsM_vinv th l (MoveM.run_vinv h hp th (hv v (by simp))) (MoveM.run_pinv hp th (hv v (by simp))) (fun u hu => hv u (by simp [hu]))
end Go.Proofs.YtegdhojhnmgjgaaGreat
/- What a yard notes are numbers as the program holds them. Plain lemmas on the model. -/
namespace Go.Proofs.YtegdhojhnmgjgaaGreat
def evOk (c : ConfM) (e : Ev) : Prop := (0 ≤ e.who ∧ e.who < c.th) ∧ (0 ≤ e.cell ∧ e.cell < c.cells) ∧ u64R e.old ∧ u64R e.new
def logOk (c : ConfM) (m : MemM) : Prop := ∀ e ∈ m.log, evOk c e
theorem by_logOk {c : ConfM} {m m' : MemM} {w : Int} (hb : MemM.by w m m') (hw : m.wf) (hw' : m'.wf) (h : logOk c m) (hwho : 0 ≤ w ∧ w < c.th) (hcl : (m.cells.length : Int) = c.cells) : logOk c m' := by
  rcases hb with rfl | ⟨op, cell, old, next, _, _, _, rfl⟩
  · exact h
  · by_cases hc : m.has cell
    · obtain ⟨e1, e2⟩ := touch_in' (w := w) (op := op) (old := old) (next := next) hc
      intro e he
      rw [e2] at he
      rcases List.mem_append.1 he with q | q
      · exact h e q
      · simp at q
        subst q
        have hc1 := hc.2
        rw [hcl] at hc1
        refine ⟨hwho, ⟨hc.1, hc1⟩, getI_wf hw cell, ?_⟩
        have := getI_wf hw' cell
        rw [e1, getI_setI_of _ _ _ hc.1 hc.2] at this
        exact this
    · have e : m.touch w op cell old next = m := by unfold MemM.touch; rw [if_neg hc]
      rw [e]; exact h
structure YardM.linv (y : YardM) : Prop where
  pinv : y.pinv
  oinv : y.oinv
  hinv : y.hinv
  vinv : y.vinv
  log : logOk y.conf y.mem
theorem YardM.new_linv {c : ConfM} (hc : c.ok) : (YardM.new c).linv :=
  ⟨YardM.new_pinv hc, YardM.new_oinv hc, YardM.new_hinv hc, YardM.new_vinv c, fun e he => by simp [YardM.new, MemM.new] at he⟩
theorem YardM.step_logOk {y : YardM} (h : y.linv) (who : Int) : logOk (y.step who).1.conf (y.step who).1.mem := by
  have hS := YardM.step_oinv h.oinv who
  rcases YardM.step_eq (y := y) who with ⟨_, e⟩ | ⟨t, hb, ht, _⟩
  · rw [e]; exact h.log
  · rw [hS.conf]
    exact by_logOk hS.mem h.pinv.proto.wf (YardM.step_pinv h.pinv who).proto.wf h.log (YardM.there_bd ht) h.pinv.proto.logd.cl
theorem MoveM.run_linv {y : YardM} (h : y.linv) (th : Int) {v : MoveM} (hv : v.wf) : (v.run th y).linv := by
  have hk := MoveM.run_kept h.oinv h.hinv th v
  refine ⟨MoveM.run_pinv h.pinv th hv, hk.oinv, hk.hinv, MoveM.run_vinv h.vinv h.pinv th hv, ?_⟩
  unfold MoveM.run
  split
  · have e : (y.call (v.at_ th) v.call).1.mem = y.mem ∧ (y.call (v.at_ th) v.call).1.conf = y.conf := by
      unfold YardM.call; (repeat' split) <;> exact ⟨rfl, rfl⟩
    rw [e.1, e.2]; exact h.log
  · split
    · have e : (y.pass (v.time % 65536)).mem = y.mem ∧ (y.pass (v.time % 65536)).conf = y.conf := by
        unfold YardM.pass; split <;> exact ⟨rfl, rfl⟩
      rw [e.1, e.2]; exact h.log
    · split
      · exact YardM.step_logOk h _
      · exact YardM.step_logOk h _
theorem runsM_linv (th : Int) : ∀ (l : List MoveM) {y : YardM} (h : y.linv), (∀ v ∈ l, v.wf) → (runsM th y l).linv
  | [], y, h, _ => h
  | v :: l, y, h, hv => runsM_linv th l (MoveM.run_linv h th (hv v (by simp))) (fun u hu => hv u (by simp [hu]))
theorem evOk_wf {c : ConfM} (hc : c.ok) {e : Ev} (h : evOk c e) : Ev.wf e := by
  obtain ⟨h1, h2, h3, h4⟩ := h
  have := hc.th2
  have := hc.all_bd
  have hcl : c.cells ≤ 10000 := by unfold ConfM.cells; omega
  exact ⟨by omega, by omega, h3, h4⟩
theorem linv_first {y : YardM} (h : y.linv) : firstM y.conf [] y.mem.log = -1 := h.pinv.proto.logd.first
end Go.Proofs.YtegdhojhnmgjgaaGreat
