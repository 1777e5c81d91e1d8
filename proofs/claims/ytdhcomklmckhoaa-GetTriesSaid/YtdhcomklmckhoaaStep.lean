/- The machine's steps on one's own memory: stores, new blocks, appends, each leaving a fresh world of which the parts are known. Plain lemmas over any program; no condition. -/
import Derived.Test.YtdhcomklmckhoaaSep
import Derived.Laws.Tables
import Derived.Laws.Rows
import Derived.WalkKit
import Derived.OwnWalk
namespace Go.SepYtdhcomklmckhoaa
open Go.RowKit

/-! 'min' and 'max' of two whole numbers. -/
theorem min2_w (k k' : IntKind) (x y : Int) : Builtin.min2 (.int k x) (.int k' y) = pure (.int k (min x y)) := by
  simp only [Builtin.min2]
  rw [show (min x y : Int) = (if y < x then y else x) by omega]
theorem max2_w (k k' : IntKind) (x y : Int) : Builtin.max2 (.int k x) (.int k' y) = pure (.int k (max x y)) := by
  simp only [Builtin.max2, gt_iff_lt]
  rw [show (max x y : Int) = (if x < y then y else x) by omega]
theorem max_w (ats : Array TypeId) (ty : TypeId) (a b : Value) : Builtin.max_ ats ty #[a, b] = (Builtin.max2 a b >>= fun s => pure s) := by simp only [Builtin.max_, List.foldlM_cons, List.foldlM_nil]
theorem min_w (ats : Array TypeId) (ty : TypeId) (a b : Value) : Builtin.min_ ats ty #[a, b] = (Builtin.min2 a b >>= fun s => pure s) := by simp only [Builtin.min_, List.foldlM_cons, List.foldlM_nil]
/-- Cells with some of them turned, from a place on. -/
def putL : List Value → Nat → List Value → List Value
  | [], _, _ => []
  | c :: cs, 0, [] => c :: cs
  | _ :: cs, 0, v :: vs => v :: putL cs 0 vs
  | c :: cs, i + 1, vs => c :: putL cs i vs
theorem putL_nil : ∀ (l : List Value), putL l 0 [] = l
  | [] => rfl
  | _ :: _ => rfl
theorem putL_one : ∀ (l : List Value) (i : Nat) (v : Value), putL l i [v] = l.set i v
  | [], _, _ => rfl
  | c :: cs, 0, v => by simp [putL, putL_nil]
  | c :: cs, i + 1, v => by simp [putL, putL_one cs i v]
theorem putL_eq : ∀ (l : List Value) (i : Nat) (vs : List Value), i + vs.length ≤ l.length → putL l i vs = l.take i ++ vs ++ l.drop (i + vs.length)
  | [], i, vs, h => by simp at h; obtain ⟨rfl, rfl⟩ := h; rfl
  | c :: cs, 0, [], _ => rfl
  | c :: cs, 0, v :: vs, h => by
    have := putL_eq cs 0 vs (by simpa using h)
    simp [putL, this, Nat.add_comm]
  | c :: cs, i + 1, vs, h => by
    have := putL_eq cs i vs (by simp at h; omega)
    simp [putL, this, Nat.add_right_comm i 1]
theorem putL_length (l : List Value) (i : Nat) (vs : List Value) (h : i + vs.length ≤ l.length) : (putL l i vs).length = l.length := by
  rw [putL_eq l i vs h]; simp; omega

/-- What an operand is, laid open. -/
def look (a : Act) : Operand → Option Value
  | .tmp t => a.tmps.toList[t]?
  | .const v => some v
  | .global g => some (.pointer (some ⟨g, 0, none⟩))
  | .func f => some (.func (.func f) #[] #[])
theorem look_eval {a : Act} {x : Operand} {v : Value} (h : look a x = some v) : a.eval x = v := by
  cases x with
  | tmp t =>
    have h : a.tmps.toList[t]? = some v := h
    have h2 : a.tmps[t]? = some v := by rw [← h]; simp
    simp [Act.eval, h2]
  | const u => exact Option.some.inj h
  | global g => exact Option.some.inj h
  | func f => exact Option.some.inj h
def valCells : Value → Option (List Value)
  | .agg ⟨l⟩ => some l
  | v => some [v]
theorem valCells_cells {v : Value} {vs : List Value} (h : valCells v = some vs) : v.cells.toList = vs := by
  cases v <;> first | exact Option.some.inj h | (have := Option.some.inj h; subst this; rfl)
section
variable {E w : World} {L : List SA} {P : Program}
theorem set_perm {α : Type _} : ∀ (i : Nat) (L : List α) {A B : α}, L[i]? = some A → (L.set i B).Perm (B :: L.eraseIdx i)
  | 0, [], _, _, e => by simp at e
  | 0, _ :: L, _, B, _ => by simp
  | i + 1, [], _, _, e => by simp at e
  | i + 1, C :: L, A, B, e => by
    simp at e
    exact (List.Perm.cons C (set_perm i L e)).trans (List.Perm.swap B C _)
/-- What holds of the part in front holds of the part number i. -/
theorem sat.at_part {w' : World} {A B : SA} (i : Nat) (h : sat E w L) (e : L[i]? = some A) (f : ∀ M, sat E w (A :: M) → sat E w' (B :: M)) : sat E w' (L.set i B) :=
  (f _ (h.pick i e)).perm (set_perm i L e).symm
/-- The part number i laid open, or shut, where it is. -/
theorem sat.imp_part {A B : SA} (i : Nat) (h : sat E w L) (e : L[i]? = some A) (f : ∀ g, A g → B g) : sat E w (L.set i B) := h.at_part i e (fun _ s => s.imp f)
theorem sat.row_slice {v : Value} {e size n : Nat} {xs : List Value} (h : sat E w (rowA v e size n xs :: L)) : ∃ p m c, v = .slice p m c := by
  obtain ⟨_, ⟨rfl, _⟩ | ⟨g, cap, _, rfl, _⟩⟩ := h.row_open
  · exact ⟨_, _, _, rfl⟩
  · exact ⟨_, _, _, rfl⟩
/-- Cells of one's own, read. -/
theorem sat.rd (i : Nat) (h : sat E w L) {b t : Nat} {l : List Value} {f : Nat × Nat} (e : L[i]? = some (pt b (.cells l.toArray t f))) : ∀ j, w.cell? ⟨b, j, none⟩ = l[j]? := fun j => by
  rw [(h.pick i e).cell]; simp
theorem sat.s0 {M : List SA} {b t : Nat} {l : List Value} {f : Nat × Nat} (h : sat E w (pt b (.cells l.toArray t f) :: M)) : (∀ j, w.cell? ⟨b, j, none⟩ = l[j]?) ∧ b < w.heap.size := ⟨h.rd 0 rfl, h.lt⟩
theorem sat.gen (h : sat E w L) : ∃ w2, w2 = w ∧ sat E w2 L := ⟨w, rfl, h⟩
theorem sat.swap {A B : SA} (h : sat E w (A :: B :: L)) : sat E w (B :: A :: L) := h.perm (List.Perm.swap B A L)
theorem sat.set0 {b t i : Nat} {l : List Value} {v : Value} (h : sat E w (pt b (.cells l.toArray t (0, 0)) :: L)) : sat E (w.setCell ⟨b, i, none⟩ v) (pt b (.cells (l.set i v).toArray t (0, 0)) :: L) := by
  have := h.set (i := i) (v := v)
  simpa using this
theorem sat.alloc2 {o o' : Obj} (h : sat E w L) : sat E ((w.alloc o).alloc o') (pt (w.heap.size + 1) o' :: L) := by
  have := (h.alloc_any o).alloc o'
  simpa using this
theorem sat.alloc3 {o o' o'' : Obj} (h : sat E w L) : sat E (((w.alloc o).alloc o').alloc o'') (pt (w.heap.size + 2) o'' :: pt (w.heap.size + 1) o' :: L) := by
  have := (h.alloc2 (o := o) (o' := o')).alloc o''
  simpa using this
theorem sat.ltp (i : Nat) (h : sat E w L) {b : Nat} {o : Obj} (e : L[i]? = some (pt b o)) : b < w.heap.size := (h.pick i e).lt
theorem sat.fr (i : Nat) (h : sat E w L) {b t : Nat} {l : List Value} (e : L[i]? = some (pt b (.cells l.toArray t (0, 0)))) : ∀ j, w.frozen? ⟨b, j, none⟩ = false := fun _ => (h.pick i e).free
theorem sat.row_rd (i : Nat) (h : sat E w L) {g e' size n cap : Nat} {xs : List Value} (e : L[i]? = some (rowA (.slice (some ⟨g, 0, none⟩) n cap) e' size n xs)) (j : Nat) (u : Value) (hj : xs[j]? = some u) : w.cell? ⟨g, j, none⟩ = some u :=
  ((h.pick i e).row_cell j hj).2.1
theorem sat.add_end {w' : World} {A : SA} (h : sat E w' (A :: L)) : sat E w' (L ++ [A]) := h.perm (List.perm_append_singleton A L).symm

/-- A store of one cell or several into a block of one's own. -/
theorem run_store_at (i : Nat) (h : sat E w L) {b t off ty : Nat} {l : List Value} {v : Value} (e : L[i]? = some (pt b (.cells l.toArray t (0, 0)))) {vs : List Value} (hv : v.cells.toList = vs)
    (hs : (P.info? ty).map (·.size) = some vs.length) (hfit : off + vs.length ≤ l.length) (h1 : ∀ u ∈ vs, u.oneCell' = true) :
    ∃ w', (storeVar ty ⟨b, off, none⟩ v).run P w = .ok () w' ∧ sat E w' (L.set i (pt b (.cells (putL l off vs).toArray t (0, 0)))) ∧ w'.heap.size = w.heap.size := by
  have hb := (h.pick i e).at
  have hst := run_storeCells_at P b off t vs 0 l.toArray w hb (by simpa using hfit) h1
  simp only [Nat.add_zero] at hst
  refine ⟨w.setRow b (putL l off vs).toArray, ?_, ?_, by simp⟩
  · cases hq : P.info? ty with
    | none => simp [hq] at hs
    | some q =>
      have hz : q.size = vs.length := by simpa [hq] using hs
      have hvs : v.cells.size = vs.length := by rw [← hv]; simp
      rw [putL_eq l off vs hfit]
      simp [storeVar, sizeOf, typeInfo, hq, hz, hvs, hv, hst]
  · refine h.at_part i e (fun M s => ?_)
    exact s.turn ⟨rfl, rfl, rfl, by simp, fun k _ hk => setRow_other w b k _ (fun q => hk (by simp [q]))⟩ (setRow_heap w b _ _ t _ hb)
theorem st_store (i : Nat) {ops : Array Oper} {rest : List Oper} {a : Act} {Q : Exit → Act → World → Prop} {ty : Nat} {p x : Operand} {oty : TypeId} {pos : String} {af : Array Edge}
    (h : sat E w L) {b t off : Nat} {l : List Value} {vs : List Value} {v : Value} (hp : look a p = some (.pointer (some ⟨b, off, none⟩))) (hx : look a x = some v) (e : L[i]? = some (pt b (.cells l.toArray t (0, 0)))) (hv : valCells v = some vs)
    (hs : (P.info? ty).map (·.size) = some vs.length) (hfit : off + vs.length ≤ l.length) (h1 : ∀ u ∈ vs, u.oneCell' = true)
    (k : ∀ w', sat E w' (L.set i (pt b (.cells (putL l off vs).toArray t (0, 0)))) → wpList P ops Q rest a w') : wpList P ops Q (⟨none, .store ty p x, oty, pos, af, none⟩ :: rest) a w := by
  refine wpList_plain rfl fun K hK => ?_
  replace hp := look_eval hp
  replace hx := look_eval hx
  replace hv := valCells_cells hv
  obtain ⟨w', hr, hsat, _⟩ := run_store_at (P := P) (ty := ty) i h e hv hs hfit h1
  unfold Oper.wp execOp
  simp only [hp, hx, Instr.storeAt, Instr.sureAddr, Sem.run_bind, Sem.run_pure, Result.andThen_ok, hr]
  exact hK _ _ (k w' hsat)
/-! Gates: each fits one kind of operation alone. -/
theorem at_store {ops : Array Oper} {rest : List Oper} {a : Act} {Q : Exit → Act → World → Prop} {ty : Nat} {p x : Operand} {oty : TypeId} {pos : String} {af : Array Edge}
    (h : wpList P ops Q (⟨none, .store ty p x, oty, pos, af, none⟩ :: rest) a w) : wpList P ops Q (⟨none, .store ty p x, oty, pos, af, none⟩ :: rest) a w := h
theorem at_box {ops : Array Oper} {rest : List Oper} {a : Act} {Q : Exit → Act → World → Prop} {dst : Option Tmp} {el : TypeId} {x : Operand} {oty : TypeId} {pos : String} {af : Array Edge}
    (h : wpList P ops Q (⟨dst, .box el x, oty, pos, af, none⟩ :: rest) a w) : wpList P ops Q (⟨dst, .box el x, oty, pos, af, none⟩ :: rest) a w := h
theorem at_alloc {ops : Array Oper} {rest : List Oper} {a : Act} {Q : Exit → Act → World → Prop} {dst : Option Tmp} {el : TypeId} {oty : TypeId} {pos : String} {af : Array Edge}
    (h : wpList P ops Q (⟨dst, .alloc el, oty, pos, af, none⟩ :: rest) a w) : wpList P ops Q (⟨dst, .alloc el, oty, pos, af, none⟩ :: rest) a w := h
theorem at_row {ops : Array Oper} {rest : List Oper} {a : Act} {Q : Exit → Act → World → Prop} {dst : Option Tmp} {t : TypeId} {n : Nat} {ps : Array (Nat × Operand)} {oty : TypeId} {pos : String} {af : Array Edge}
    (h : wpList P ops Q (⟨dst, .buildSlice t n ps, oty, pos, af, none⟩ :: rest) a w) : wpList P ops Q (⟨dst, .buildSlice t n ps, oty, pos, af, none⟩ :: rest) a w := h
theorem at_append {ops : Array Oper} {rest : List Oper} {a : Act} {Q : Exit → Act → World → Prop} {dst : Option Tmp} {s x : Operand} {t : TypeId} {oty : TypeId} {pos : String} {af : Array Edge}
    (h : wpList P ops Q (⟨dst, .call { callee := .builtin .append, args := #[s, x], argTypes := #[t, t] }, oty, pos, af, none⟩ :: rest) a w) :
    wpList P ops Q (⟨dst, .call { callee := .builtin .append, args := #[s, x], argTypes := #[t, t] }, oty, pos, af, none⟩ :: rest) a w := h
theorem at_make {ops : Array Oper} {rest : List Oper} {a : Act} {Q : Exit → Act → World → Prop} {dst : Option Tmp} {s x : Operand} {t : TypeId} {oty : TypeId} {pos : String} {af : Array Edge}
    (h : wpList P ops Q (⟨dst, .makeSlice t s x, oty, pos, af, none⟩ :: rest) a w) : wpList P ops Q (⟨dst, .makeSlice t s x, oty, pos, af, none⟩ :: rest) a w := h
/-- A store of one cell into a row of one's own. -/
theorem st_store_row (i : Nat) {ops : Array Oper} {rest : List Oper} {a : Act} {Q : Exit → Act → World → Prop} {ty : Nat} {p x : Operand} {oty : TypeId} {pos : String} {af : Array Edge}
    (h : sat E w L) {g e' size n cap off : Nat} {xs vs : List Value} {v : Value} (hp : look a p = some (.pointer (some ⟨g, off, none⟩))) (hx : look a x = some v) (e : L[i]? = some (rowA (.slice (some ⟨g, 0, none⟩) n cap) e' size n xs)) (hv : valCells v = some vs)
    (hs : (P.info? ty).map (·.size) = some vs.length) (hfit : off + vs.length ≤ xs.length) (h1 : ∀ u ∈ vs, u.oneCell' = true)
    (k : ∀ w', sat E w' (L.set i (rowA (.slice (some ⟨g, 0, none⟩) n cap) e' size n (putL xs off vs))) → wpList P ops Q rest a w') : wpList P ops Q (⟨none, .store ty p x, oty, pos, af, none⟩ :: rest) a w := by
  replace hp := look_eval hp
  replace hx := look_eval hx
  replace hv := valCells_cells hv
  refine wpList_plain rfl fun K hK => ?_
  obtain ⟨hl, ⟨h0, _⟩ | ⟨g', cap', cur, h0, q1, q2, q3, q4, q5⟩⟩ := (h.pick i e).row_open
  · simp at h0
  · simp at h0
    obtain ⟨rfl, rfl⟩ := h0
    have hcur : (cur.toList.toArray) = cur := by simp
    rw [← hcur] at q5
    have hle : xs.length ≤ cur.toList.length := by rw [← q4]; simp; omega
    obtain ⟨w', hr, hsat, _⟩ := run_store_at (P := P) (ty := ty) (off := off) 0 q5 rfl hv hs (by omega) h1
    unfold Oper.wp execOp
    simp only [hp, hx, Instr.storeAt, Instr.sureAddr, Sem.run_bind, Sem.run_pure, Result.andThen_ok, hr]
    refine hK _ _ (k w' ?_)
    simp only [List.set_cons_zero] at hsat
    refine (sat.row_shut ?_ q1 q2 ?_ ?_ hsat).perm (set_perm i L e).symm
    · rw [putL_length xs off vs hfit]; exact hl
    · rw [List.size_toArray, putL_length _ _ _ (by omega)]; simpa using q3
    · rw [putL_eq xs off vs hfit, putL_eq _ _ _ (by omega : off + vs.length ≤ cur.toList.length), ← q4]
      simp only [List.take_append, List.take_take, List.length_take, List.length_append]
      have hl2 : n * size = xs.length := hl.symm
      have hx2 : xs.length = min (n * size) cur.toList.length := by rw [← q4]; simp
      rw [← q4] at hfit hle
      simp only [List.length_take] at hfit hle
      rw [List.drop_take]
      simp only [Nat.min_eq_left (show off ≤ cur.toList.length by omega)]
      rw [Nat.min_eq_right (show off ≤ n * size by omega), Nat.min_eq_left (show off ≤ n * size by omega), List.take_of_length_le (l := vs) (by omega)]
/-- A new block for a value. -/
theorem st_box {ops : Array Oper} {rest : List Oper} {a : Act} {Q : Exit → Act → World → Prop} {dst : Option Tmp} {el : TypeId} {x : Operand} {oty : TypeId} {pos : String} {af : Array Edge}
    (h : sat E w L) {v : Value} {vs : List Value} (hx : look a x = some v) (_hv : valCells v = some vs)
    (hr : ∀ w : World, (Instr.box el v).run P w = .ok (.pointer (some ⟨w.heap.size, 0, none⟩)) (w.alloc (.cells vs.toArray el)))
    (k : ∀ g w', sat E w' (L ++ [pt g (.cells vs.toArray el (0, 0))]) → wpList P ops Q rest (a.put dst (.pointer (some ⟨g, 0, none⟩))) w') : wpList P ops Q (⟨dst, .box el x, oty, pos, af, none⟩ :: rest) a w := by
  refine wpList_plain rfl fun K hK => ?_
  unfold Oper.wp execOp
  simp only [look_eval hx, Sem.run_bind, hr, Result.andThen_ok, Sem.run_pure]
  exact hK _ _ (k w.heap.size (w.alloc (.cells vs.toArray el)) (h.alloc _).add_end)
/-- .. laid in front. -/
theorem st_boxf {ops : Array Oper} {rest : List Oper} {a : Act} {Q : Exit → Act → World → Prop} {dst : Option Tmp} {el : TypeId} {x : Operand} {oty : TypeId} {pos : String} {af : Array Edge}
    (h : sat E w L) {v : Value} {vs : List Value} (hx : look a x = some v) (_hv : valCells v = some vs)
    (hr : ∀ w : World, (Instr.box el v).run P w = .ok (.pointer (some ⟨w.heap.size, 0, none⟩)) (w.alloc (.cells vs.toArray el)))
    (k : ∀ g w', sat E w' (pt g (.cells vs.toArray el (0, 0)) :: L) → wpList P ops Q rest (a.put dst (.pointer (some ⟨g, 0, none⟩))) w') : wpList P ops Q (⟨dst, .box el x, oty, pos, af, none⟩ :: rest) a w := by
  refine wpList_plain rfl fun K hK => ?_
  unfold Oper.wp execOp
  simp only [look_eval hx, Sem.run_bind, hr, Result.andThen_ok, Sem.run_pure]
  exact hK _ _ (k w.heap.size (w.alloc (.cells vs.toArray el)) (h.alloc _))
theorem st_alloc {ops : Array Oper} {rest : List Oper} {a : Act} {Q : Exit → Act → World → Prop} {dst : Option Tmp} {el : TypeId} {oty : TypeId} {pos : String} {af : Array Edge}
    (h : sat E w L) {vs : List Value}
    (hr : ∀ w : World, (Instr.alloc el true (.tuple #[])).run P w = .ok (.pointer (some ⟨w.heap.size, 0, none⟩)) (w.alloc (.cells vs.toArray el)))
    (k : ∀ g w', sat E w' (L ++ [pt g (.cells vs.toArray el (0, 0))]) → wpList P ops Q rest (a.put dst (.pointer (some ⟨g, 0, none⟩))) w') : wpList P ops Q (⟨dst, .alloc el, oty, pos, af, none⟩ :: rest) a w := by
  refine wpList_plain rfl fun K hK => ?_
  unfold Oper.wp execOp
  simp only [Sem.run_bind, hr, Result.andThen_ok, Sem.run_pure]
  exact hK _ _ (k w.heap.size (w.alloc (.cells vs.toArray el)) (h.alloc _).add_end)
/-- A row of elements that are written out. -/
theorem st_row {ops : Array Oper} {rest : List Oper} {a : Act} {Q : Exit → Act → World → Prop} {dst : Option Tmp} {t : TypeId} {n : Nat} {ps : Array (Nat × Operand)} {oty : TypeId} {pos : String} {af : Array Edge}
    (h : sat E w L) (vs : List Value) (el : Nat)
    (hr : ∀ w : World, (Instr.buildSlice t n (ps.map fun (i, x) => (i, a.eval x))).run P w = .ok (.slice (some ⟨w.heap.size, 0, none⟩) n n) (w.alloc (.cells vs.toArray el)))
    (k : ∀ g w', sat E w' (L ++ [pt g (.cells vs.toArray el (0, 0))]) → wpList P ops Q rest (a.put dst (.slice (some ⟨g, 0, none⟩) n n)) w') : wpList P ops Q (⟨dst, .buildSlice t n ps, oty, pos, af, none⟩ :: rest) a w := by
  refine wpList_plain rfl fun K hK => ?_
  unfold Oper.wp execOp
  simp only [Sem.run_bind, hr, Result.andThen_ok, Sem.run_pure]
  exact hK _ _ (k w.heap.size (w.alloc (.cells vs.toArray el)) (h.alloc _).add_end)
/-- An append of one element (or more) to a row of one's own, the new elements in a block of one's own. -/
theorem st_append (i : Nat) {ops : Array Oper} {rest : List Oper} {a : Act} {Q : Exit → Act → World → Prop} {dst : Option Tmp} {s x : Operand} {t : TypeId} {oty : TypeId} {pos : String} {af : Array Edge}
    (e size bytes : Nat) (ht : P.underlying t = some (.slice e)) (hi : ∃ q z, P.info? e = some q ∧ q.zero = some z ∧ q.size = size ∧ q.bytes = bytes ∧ z.cells.size = size)
    (h : sat E w L) {v : Value} {n : Nat} {xs : List Value} (hs : look a s = some v) (hL : L[i]? = some (rowA v e size n xs))
    {b o m c : Nat} {news : List Value} (hx : look a x = some (.slice (some ⟨b, o, none⟩) m c)) (hl : news.length = m * size) (hnews : ∀ j u, news[j]? = some u → w.cell? ⟨b, o + j, none⟩ = some u) (h1 : ∀ u ∈ news, u.oneCell' = true) (hm : 0 < m)
    (h63 : n + m ≤ maxLen) (hbytes : (n + m) * bytes ≤ 140737488355328)
    (k : ∀ p1 n1 c1 w', sat E w' (L.set i (rowA (.slice p1 n1 c1) e size (n + m) (xs ++ news))) → wpList P ops Q rest (a.put dst (.slice p1 n1 c1)) w') :
    wpList P ops Q (⟨dst, .call { callee := .builtin .append, args := #[s, x], argTypes := #[t, t] }, oty, pos, af, none⟩ :: rest) a w := by
  obtain ⟨q, z, g1, g2, g3, g4, g5⟩ := hi
  refine wpList_append_sat rfl s x t rfl e size bytes q z ht g1 g2 g3 g4 g5 v n xs (look_eval hs) (h.pick i hL) ⟨b, o, none⟩ m c news (look_eval hx) hl ?_ h1 hm h63 hbytes (fun v' w' hs' _ => ?_)
  rotate_left
  · obtain ⟨p1, n1, c1, rfl⟩ := hs'.row_slice
    exact k p1 n1 c1 w' (hs'.perm (set_perm i L hL).symm)
  intro j u hj
  rw [Addr.add_lit]
  exact hnews j u hj
/-- .. the new elements in the block that was just made for them. -/
theorem st_append_new (i : Nat) {ops : Array Oper} {rest : List Oper} {a : Act} {Q : Exit → Act → World → Prop} {dst : Option Tmp} {s x : Operand} {t : TypeId} {oty : TypeId} {pos : String} {af : Array Edge}
    (e size bytes : Nat) (ht : P.underlying t = some (.slice e)) (hi : ∃ q z, P.info? e = some q ∧ q.zero = some z ∧ q.size = size ∧ q.bytes = bytes ∧ z.cells.size = size)
    (h : sat E w L) {v : Value} {n : Nat} {xs : List Value} (hs : look a s = some v) (hL : L[i]? = some (rowA v e size n xs))
    {m c e2 : Nat} {news : List Value} (hx : look a x = some (.slice (some ⟨w.heap.size, 0, none⟩) m c)) (hl : news.length = m * size) (h1 : ∀ u ∈ news, u.oneCell' = true) (hm : 0 < m)
    (h63 : n + m ≤ maxLen) (hbytes : (n + m) * bytes ≤ 140737488355328)
    (k : ∀ p1 n1 c1 w', sat E w' (L.set i (rowA (.slice p1 n1 c1) e size (n + m) (xs ++ news))) → wpList P ops Q rest (a.put dst (.slice p1 n1 c1)) w') :
    wpList P ops Q (⟨dst, .call { callee := .builtin .append, args := #[s, x], argTypes := #[t, t] }, oty, pos, af, none⟩ :: rest) a (w.alloc (.cells news.toArray e2)) := by
  refine st_append i e size bytes ht hi (h.alloc_any _) hs hL hx hl (fun j u hj => ?_) h1 hm h63 hbytes k
  rw [Nat.zero_add, World.cell?_alloc_at _ _ _ _ rfl]
  simpa using hj
end
#print axioms st_store
#print axioms st_store_row
#print axioms st_append
end Go.SepYtdhcomklmckhoaa
