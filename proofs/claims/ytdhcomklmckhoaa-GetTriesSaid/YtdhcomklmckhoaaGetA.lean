/- A Get where nobody else does anything: plain lemmas on the model. -/
import Derived.Test.YtdhcomklmckhoaaGetR
import Derived.Test.YtdhcomklmckhoaaWords
namespace Go.Proofs.Ytdhcomklmckhoaa
set_option linter.unusedSimpArgs false
set_option linter.unusedVariables false
theorem peek_of_cells {m m' : MemM} (h : m'.cells = m.cells) (c : Int) : m'.peek c = m.peek c := peek_cells h c
theorem wordsM_cells {m m' : MemM} (c : ConfM) (h : m'.cells = m.cells) : wordsM c m' = wordsM c m := by
  unfold wordsM
  apply List.map_congr_left
  intro i _
  exact peek_of_cells h _
theorem getI_ext {l l' : List Int} (h : l.length = l'.length) (e : ∀ i : Int, 0 ≤ i → i < l.length → getI l i = getI l' i) : l = l' := by
  apply List.ext_getElem h
  intro n h1 h2
  have := e n (by omega) (by omega)
  unfold getI at this
  simpa [List.getD_eq_getElem?_getD, h1, h2] using this
/-! ### A snap by itself -/
def SnapM.run (s : SnapM) (m : MemM) : Nat → SnapM × MemM
  | 0 => (s, m)
  | n + 1 => (SnapM.run s m n).1.step (SnapM.run s m n).2
/-- Behind j steps of the first round. -/
structure Snap1 (c : ConfM) (wh st : Int) (m : MemM) (j : Nat) (s : SnapM) (m' : MemM) : Prop where
  cells : m'.cells = m.cells
  conf : s.conf = c
  who : s.who = wh
  start : s.start = st
  k : s.k = j
  pass : s.pass = 0
  phase : s.phase = 0
  len : s.words.length = c.all.toNat
  same : j = 0 ∨ s.same = false
  seen : ∀ i : Nat, i < j → getI s.words ((st + i) % c.all) = m.peek ((st + i) % c.all)
structure Snap2 (c : ConfM) (wh st : Int) (m : MemM) (j : Nat) (s : SnapM) (m' : MemM) : Prop where
  cells : m'.cells = m.cells
  conf : s.conf = c
  who : s.who = wh
  start : s.start = st
  k : s.k = j
  pass : s.pass = 1
  phase : s.phase = 0
  words : s.words = wordsM c m
  same : j = 0 ∨ s.same = true
structure Snap3 (c : ConfM) (wh st : Int) (m : MemM) (s : SnapM) (m' : MemM) : Prop where
  cells : m'.cells = m.cells
  conf : s.conf = c
  who : s.who = wh
  phase : s.phase = 1
  words : s.words = wordsM c m
theorem snap_slot {c : ConfM} (hc : c.ok) {st : Int} {s : SnapM} {j : Nat} (h1 : s.conf = c) (h2 : s.start = st) (h3 : s.k = j) : s.slot = (st + j) % c.all ∧ 0 ≤ s.slot ∧ s.slot < c.all := by
  have hal := hc.all_bd
  have hs : s.slot = (st + j) % c.all := by unfold SnapM.slot; rw [h2, h3, h1]
  exact ⟨hs, by rw [hs]; exact Int.emod_nonneg _ (by omega), by rw [hs]; exact Int.emod_lt_of_pos _ (by omega)⟩
theorem snap_seen {c : ConfM} (hc : c.ok) {wh st : Int} {m m' : MemM} {s : SnapM} {j : Nat} (h : Snap1 c wh st m j s m') (i : Nat) (hi : i < j + 1) : getI (setI s.words s.slot (m'.peek s.slot)) ((st + i) % c.all) = m.peek ((st + i) % c.all) := by
  have hal := hc.all_bd
  obtain ⟨hs, hs0, hs1⟩ := snap_slot hc h.conf h.start h.k
  by_cases e : (st + i) % c.all = s.slot
  · rw [e, getI_setI_of _ _ _ hs0 (by rw [h.len]; omega), peek_of_cells h.cells]
  · rw [getI_setI_ne _ _ _ _ hs0 (Int.emod_nonneg _ (by omega)) e]
    refine h.seen i ?_
    rcases Nat.lt_or_ge i j with q | q
    · exact q
    · exact (e (by rw [hs, show i = j by omega])).elim
theorem snap_same {c : ConfM} {wh st : Int} {m m' : MemM} {s : SnapM} {j : Nat} (h : Snap1 c wh st m j s m') : s.same0 = false := by
  unfold SnapM.same0
  split
  · rw [h.pass]; rfl
  · rcases h.same with e | e
    · rename_i hk; rw [h.k, e] at hk; exact (hk rfl).elim
    · exact e
theorem snap_step1 {c : ConfM} (hc : c.ok) {wh st : Int} {m m' : MemM} {s : SnapM} {j : Nat} (h : Snap1 c wh st m j s m') (hj : j + 1 < c.all.toNat) : Snap1 c wh st m (j + 1) (s.step m').1 (s.step m').2 := by
  have hse := fun i hi => snap_seen hc h i hi
  rw [s.step_eq m' h.phase, snap_same h, Bool.false_and]
  unfold SnapM.rest
  rw [if_pos (by rw [h.k, h.conf]; omega)]
  exact ⟨(load_cells _ _ _ _ _).trans h.cells, h.conf, h.who, h.start, by show s.k + 1 = _; rw [h.k]; simp, h.pass, h.phase, by show (setI _ _ _).length = _; rw [setI_length]; exact h.len, .inr rfl, hse⟩
theorem snap_turn1 {c : ConfM} (hc : c.ok) {wh st : Int} (h0 : 0 ≤ st) (h1 : st < c.all) {m m' : MemM} {s : SnapM} {j : Nat} (h : Snap1 c wh st m j s m') (hj : j + 1 = c.all.toNat) : Snap2 c wh st m 0 (s.step m').1 (s.step m').2 := by
  have hal := hc.all_bd
  have hse := fun i hi => snap_seen hc h i hi
  rw [s.step_eq m' h.phase, snap_same h, Bool.false_and]
  unfold SnapM.rest
  rw [if_neg (by rw [h.k, h.conf]; omega)]
  refine ⟨(load_cells _ _ _ _ _).trans h.cells, h.conf, h.who, h.start, rfl, by show s.pass + 1 = 1; rw [h.pass]; rfl, rfl, ?_, .inl rfl⟩
  show setI s.words s.slot (m'.peek s.slot) = _
  have hlen : (setI s.words s.slot (m'.peek s.slot)).length = c.all.toNat := by rw [setI_length]; exact h.len
  refine getI_ext (by rw [hlen, wordsM_len]) (fun a a0 a1 => ?_)
  rw [hlen] at a1
  rw [getI_words c m a a0 (by omega)]
  have hb0 : 0 ≤ (a - st) % c.all := Int.emod_nonneg _ (by omega)
  have hb1 : (a - st) % c.all < c.all := Int.emod_lt_of_pos _ (by omega)
  have q := hse ((a - st) % c.all).toNat (by omega)
  have e : (st + (((a - st) % c.all).toNat : Int)) % c.all = a := by
    rw [Int.toNat_of_nonneg hb0, Int.add_emod_emod, show st + (a - st) = a by omega]
    exact Int.emod_eq_of_lt a0 (by omega)
  rw [e] at q
  exact q
theorem snap_eq2 {c : ConfM} (hc : c.ok) {wh st : Int} {m m' : MemM} {s : SnapM} {j : Nat} (h : Snap2 c wh st m j s m') : m'.peek s.slot = getI s.words s.slot ∧ s.same0 = true := by
  obtain ⟨hs, hs0, hs1⟩ := snap_slot hc h.conf h.start h.k
  refine ⟨by rw [h.words, getI_words c m _ hs0 hs1, peek_of_cells h.cells], ?_⟩
  unfold SnapM.same0
  split
  · rw [h.pass]; rfl
  · rcases h.same with e | e
    · rename_i hk; rw [h.k, e] at hk; exact (hk rfl).elim
    · exact e
theorem snap_step2 {c : ConfM} (hc : c.ok) {wh st : Int} {m m' : MemM} {s : SnapM} {j : Nat} (h : Snap2 c wh st m j s m') (hj : j + 1 < c.all.toNat) : Snap2 c wh st m (j + 1) (s.step m').1 (s.step m').2 := by
  obtain ⟨e1, e2⟩ := snap_eq2 hc h
  rw [s.step_eq m' h.phase, e2, e1]
  unfold SnapM.rest
  rw [if_pos (by rw [h.k, h.conf]; omega)]
  exact ⟨(load_cells _ _ _ _ _).trans h.cells, h.conf, h.who, h.start, by show s.k + 1 = _; rw [h.k]; simp, h.pass, h.phase, by show setI s.words s.slot (getI s.words s.slot) = _; rw [setI_self]; exact h.words, .inr (by simp)⟩
theorem snap_turn2 {c : ConfM} (hc : c.ok) {wh st : Int} {m m' : MemM} {s : SnapM} {j : Nat} (h : Snap2 c wh st m j s m') (hj : j + 1 = c.all.toNat) : Snap3 c wh st m (s.step m').1 (s.step m').2 := by
  obtain ⟨e1, e2⟩ := snap_eq2 hc h
  rw [s.step_eq m' h.phase, e2, e1]
  unfold SnapM.rest
  rw [if_neg (by rw [h.k, h.conf]; omega)]
  exact ⟨(load_cells _ _ _ _ _).trans h.cells, h.conf, h.who, by simp, by show setI s.words s.slot (getI s.words s.slot) = _; rw [setI_self]; exact h.words⟩
theorem snap_new1 {c : ConfM} (wh st0 : Int) (m : MemM) : Snap1 c wh (st0 % 18446744073709551616 % c.all) m 0 (SnapM.new c wh st0) m :=
  ⟨rfl, rfl, rfl, rfl, rfl, rfl, rfl, by simp [SnapM.new], .inl rfl, fun i hi => by omega⟩
theorem snap_run1 {c : ConfM} (hc : c.ok) {wh st : Int} {m : MemM} {s : SnapM} (h : Snap1 c wh st m 0 s m) : ∀ j : Nat, j < c.all.toNat → Snap1 c wh st m j (SnapM.run s m j).1 (SnapM.run s m j).2
  | 0, _ => h
  | j + 1, hj => snap_step1 hc (snap_run1 hc h j (by omega)) hj
theorem snap_run2 {c : ConfM} (hc : c.ok) {wh st : Int} (h0 : 0 ≤ st) (h1 : st < c.all) {m : MemM} {s : SnapM} (h : Snap1 c wh st m 0 s m) : ∀ j : Nat, j < c.all.toNat → Snap2 c wh st m j (SnapM.run s m (c.all.toNat + j)).1 (SnapM.run s m (c.all.toNat + j)).2
  | 0, hj => by
    obtain ⟨k, hk⟩ : ∃ k, c.all.toNat = k + 1 := ⟨c.all.toNat - 1, by omega⟩
    have := snap_turn1 hc h0 h1 (snap_run1 hc h k (by omega)) (by omega)
    rw [Nat.add_zero, hk]
    exact this
  | j + 1, hj => snap_step2 hc (snap_run2 hc h0 h1 h j (by omega)) hj
theorem snap_run3 {c : ConfM} (hc : c.ok) {wh st : Int} (h0 : 0 ≤ st) (h1 : st < c.all) {m : MemM} {s : SnapM} (h : Snap1 c wh st m 0 s m) : Snap3 c wh st m (SnapM.run s m (2 * c.all.toNat)).1 (SnapM.run s m (2 * c.all.toNat)).2 := by
  have hal := hc.all_bd
  obtain ⟨k, hk⟩ : ∃ k, c.all.toNat = k + 1 := ⟨c.all.toNat - 1, by omega⟩
  have := snap_turn2 hc (snap_run2 hc h0 h1 h k (by omega)) (by omega)
  rw [show 2 * c.all.toNat = (c.all.toNat + k) + 1 by omega]
  exact this
theorem snap_phase {c : ConfM} (hc : c.ok) {wh st : Int} (h0 : 0 ≤ st) (h1 : st < c.all) {m : MemM} {s : SnapM} (h : Snap1 c wh st m 0 s m) (j : Nat) (hj : j < 2 * c.all.toNat) : (SnapM.run s m j).1.phase = 0 ∧ (SnapM.run s m j).2.cells = m.cells := by
  rcases Nat.lt_or_ge j c.all.toNat with q | q
  · have := snap_run1 hc h j q
    exact ⟨this.phase, this.cells⟩
  · have := snap_run2 hc h0 h1 h (j - c.all.toNat) (by omega)
    rw [show c.all.toNat + (j - c.all.toNat) = j by omega] at this
    exact ⟨this.phase, this.cells⟩
/-! ### A take by itself -/
def TakeM.run (s : TakeM) (m : MemM) : Nat → TakeM × MemM
  | 0 => (s, m)
  | n + 1 => (TakeM.run s m n).1.step (TakeM.run s m n).2
/-- The cells behind a take by itself. -/
def tookM (c : ConfM) (wh slot : Int) (cs : List Int) : List Int :=
  setI (setI (setI cs (c.hazard wh) (slot + 1)) slot (unpack (getI cs slot)).taken.pack) (c.hazard wh) 0
theorem take_alone {c : ConfM} (hc : c.ok) {wh slot : Int} (w0 : 0 ≤ wh) (w1 : wh < c.th) (s0 : 0 ≤ slot) (s1 : slot < c.all) {m : MemM} (hl : (m.cells.length : Int) = c.cells) :
    (∀ j : Nat, j < 5 → (TakeM.run (TakeM.new c wh slot (m.peek slot)) m j).1.phase = 0) ∧ (TakeM.run (TakeM.new c wh slot (m.peek slot)) m 5).1.phase = 1 ∧
    (TakeM.run (TakeM.new c wh slot (m.peek slot)) m 5).1.get = m.peek (c.value slot) ∧ (TakeM.run (TakeM.new c wh slot (m.peek slot)) m 5).2.cells = tookM c wh slot m.cells := by
  have hb := cellBd hc
  have bs := hb.slot slot s0 s1
  have bv := hb.value slot s0 s1
  have bh := hb.hazard wh w0 w1
  have hne : slot ≠ c.hazard wh := by unfold ConfM.hazard; have := hc.all_bd; omega
  have hne2 : c.value slot ≠ c.hazard wh := by unfold ConfM.hazard ConfM.value; omega
  have pk : m.peek slot = getI m.cells slot := peek_in (has_of hl bs.1 bs.2)
  generalize hx : m.peek slot = x at *
  -- the five steps
  have e1 : (TakeM.new c wh slot x).step m = (⟨c, wh, slot, x, 1, false, 0, 0⟩, m.touch wh 1 (c.hazard wh) 0 (slot + 1)) := by
    simp [TakeM.step, TakeM.new]
  have c1 : (m.touch wh 1 (c.hazard wh) 0 (slot + 1)).cells = setI m.cells (c.hazard wh) (slot + 1) := touch_in_cells (has_of hl bh.1 bh.2) _ _ _ _
  generalize m.touch wh 1 (c.hazard wh) 0 (slot + 1) = m1 at *
  have l1 : (m1.cells.length : Int) = c.cells := by rw [c1, setI_length]; exact hl
  have p1 : m1.peek slot = x := by rw [peek_in (has_of l1 bs.1 bs.2), c1, getI_setI_ne _ _ _ _ bh.1 bs.1 hne, ← pk]
  have e2 : (⟨c, wh, slot, x, 1, false, 0, 0⟩ : TakeM).step m1 = (⟨c, wh, slot, x, 2, false, 0, 0⟩, m1.touch wh 0 slot 0 0) := by
    simp [TakeM.step, p1]
  have c2 : (m1.touch wh 0 slot 0 0).cells = m1.cells := load_cells _ _ _ _ _
  generalize m1.touch wh 0 slot 0 0 = m2 at *
  have l2 : (m2.cells.length : Int) = c.cells := by rw [c2]; exact l1
  have p2 : m2.peek (c.value slot) = m.peek (c.value slot) := by rw [peek_in (has_of l2 bv.1 bv.2), peek_in (has_of hl bv.1 bv.2), c2, c1, getI_setI_ne _ _ _ _ bh.1 bv.1 hne2]
  have e3 : (⟨c, wh, slot, x, 2, false, 0, 0⟩ : TakeM).step m2 = (⟨c, wh, slot, x, 3, false, m.peek (c.value slot), 0⟩, m2.touch wh 0 (c.value slot) 0 0) := by
    simp [TakeM.step, p2]
  have c3 : (m2.touch wh 0 (c.value slot) 0 0).cells = m2.cells := load_cells _ _ _ _ _
  generalize m2.touch wh 0 (c.value slot) 0 0 = m3 at *
  have l3 : (m3.cells.length : Int) = c.cells := by rw [c3]; exact l2
  have p3 : getI m3.cells slot = x := by rw [c3, c2, ← p1, peek_in (has_of l1 bs.1 bs.2)]
  have o3 : m3.okOf 2 slot x = true := by
    unfold MemM.okOf
    rw [if_pos (has_of l3 bs.1 bs.2), p3]
    simp [opOk]
  have e4 : (⟨c, wh, slot, x, 3, false, m.peek (c.value slot), 0⟩ : TakeM).step m3 = (⟨c, wh, slot, x, 4, false, m.peek (c.value slot), 0⟩, m3.touch wh 2 slot x (unpack x).taken.pack) := by
    simp [TakeM.step, o3]
  have c4 : (m3.touch wh 2 slot x (unpack x).taken.pack).cells = setI m3.cells slot (unpack x).taken.pack := by
    rw [touch_in_cells (has_of l3 bs.1 bs.2), p3]
    simp [opNew]
  generalize m3.touch wh 2 slot x (unpack x).taken.pack = m4 at *
  have l4 : (m4.cells.length : Int) = c.cells := by rw [c4, setI_length]; exact l3
  have e5 : (⟨c, wh, slot, x, 4, false, m.peek (c.value slot), 0⟩ : TakeM).step m4 = (⟨c, wh, slot, x, 5, false, m.peek (c.value slot), 1⟩, m4.touch wh 1 (c.hazard wh) 0 0) := by
    simp [TakeM.step, TakeM.fin]
  have c5 : (m4.touch wh 1 (c.hazard wh) 0 0).cells = setI m4.cells (c.hazard wh) 0 := touch_in_cells (has_of l4 bh.1 bh.2) _ _ _ _
  have r1 : TakeM.run (TakeM.new c wh slot x) m 1 = (⟨c, wh, slot, x, 1, false, 0, 0⟩, m1) := e1
  have r2 : TakeM.run (TakeM.new c wh slot x) m 2 = (⟨c, wh, slot, x, 2, false, 0, 0⟩, m2) := by rw [TakeM.run, r1]; exact e2
  have r3 : TakeM.run (TakeM.new c wh slot x) m 3 = (⟨c, wh, slot, x, 3, false, m.peek (c.value slot), 0⟩, m3) := by rw [TakeM.run, r2]; exact e3
  have r4 : TakeM.run (TakeM.new c wh slot x) m 4 = (⟨c, wh, slot, x, 4, false, m.peek (c.value slot), 0⟩, m4) := by rw [TakeM.run, r3]; exact e4
  have r5 : TakeM.run (TakeM.new c wh slot x) m 5 = (⟨c, wh, slot, x, 5, false, m.peek (c.value slot), 1⟩, m4.touch wh 1 (c.hazard wh) 0 0) := by rw [TakeM.run, r4]; exact e5
  refine ⟨fun j hj => ?_, by rw [r5], by rw [r5]; rfl, by rw [r5]; show (m4.touch wh 1 (c.hazard wh) 0 0).cells = _; rw [c5, c4, c3, c2, c1]; unfold tookM; rw [← pk]⟩
  rcases j with _ | _ | _ | _ | _ | j
  · rfl
  · rw [r1]
  · rw [r2]
  · rw [r3]
  · rw [r4]
  · omega
/-! ### A get by itself -/
/-- Where a get begins, or begins anew. -/
structure GetM.fresh (g : GetM) : Prop where
  phase : g.phase = 0
  take : g.take = none
  snap : g.snap = SnapM.new g.conf g.who g.start
theorem get_snap {g : GetM} {m : MemM} (hp : g.phase = 0) (ht : g.take = none) : ∀ j : Nat, (∀ i : Nat, i ≤ j → (SnapM.run g.snap m i).1.phase = 0) → GetM.run g m j = ({ g with snap := (SnapM.run g.snap m j).1 }, (SnapM.run g.snap m j).2)
  | 0, _ => rfl
  | j + 1, h => by
    have ih := get_snap (m := m) hp ht j (fun i hi => h i (by omega))
    show (GetM.run g m j).1.step (GetM.run g m j).2 = _
    rw [ih]
    have hs := h (j + 1) (Nat.le_refl _)
    rw [GetM.step_none (by exact hp) (by exact ht)]
    have e : (SnapM.run g.snap m (j + 1)) = (SnapM.run g.snap m j).1.step (SnapM.run g.snap m j).2 := rfl
    rw [e] at hs ⊢
    dsimp only
    rw [if_neg (by rw [hs]; decide)]
theorem get_take {g : GetM} {t : TakeM} {m : MemM} (hp : g.phase = 0) (ht : g.take = some t) : ∀ j : Nat, (∀ i : Nat, i ≤ j → (TakeM.run t m i).1.phase = 0) → GetM.run g m j = ({ g with take := some (TakeM.run t m j).1 }, (TakeM.run t m j).2)
  | 0, _ => by rw [GetM.run, TakeM.run, ← ht]
  | j + 1, h => by
    have ih := get_take (m := m) hp ht j (fun i hi => h i (by omega))
    show (GetM.run g m j).1.step (GetM.run g m j).2 = _
    rw [ih]
    have hs := h (j + 1) (Nat.le_refl _)
    rw [GetM.step_some (t := (TakeM.run t m j).1) (by exact hp) rfl]
    have e : (TakeM.run t m (j + 1)) = (TakeM.run t m j).1.step (TakeM.run t m j).2 := rfl
    rw [e] at hs ⊢
    dsimp only
    rw [if_neg (by rw [hs]; decide), if_neg (by rw [hs]; decide)]
theorem GetM.run_add (g : GetM) (m : MemM) (i : Nat) : ∀ j : Nat, GetM.run g m (i + j) = GetM.run (GetM.run g m i).1 (GetM.run g m i).2 j
  | 0 => rfl
  | j + 1 => by
    show (GetM.run g m (i + j)).1.step (GetM.run g m (i + j)).2 = _
    rw [GetM.run_add g m i j]
    rfl
structure GetM.Alone (c : ConfM) (g : GetM) (m : MemM) : Prop where
  none : atM (wordsM c m) g.fin < 0 → (∀ j : Nat, j < 2 * c.all.toNat → (GetM.run g m j).1.phase = 0) ∧ (GetM.run g m (2 * c.all.toNat)).1.phase = 2 ∧ (GetM.run g m (2 * c.all.toNat)).1.value = g.value ∧
    (GetM.run g m (2 * c.all.toNat)).1.tries = g.tries ∧ (GetM.run g m (2 * c.all.toNat)).2.cells = m.cells
  some : 0 ≤ atM (wordsM c m) g.fin → (∀ j : Nat, j < 2 * c.all.toNat + 5 → (GetM.run g m j).1.phase = 0) ∧ (GetM.run g m (2 * c.all.toNat + 5)).1.phase = 1 ∧ (GetM.run g m (2 * c.all.toNat + 5)).1.value = m.peek (c.value (atM (wordsM c m) g.fin)) ∧
    (GetM.run g m (2 * c.all.toNat + 5)).1.tries = g.tries ∧ (GetM.run g m (2 * c.all.toNat + 5)).2.cells = tookM c g.who (atM (wordsM c m) g.fin) m.cells
theorem get_alone {c : ConfM} (hc : c.ok) {g : GetM} (hg : g.conf = c) (w0 : 0 ≤ g.who) (w1 : g.who < c.th) (hf : g.fresh) {m : MemM} (hl : (m.cells.length : Int) = c.cells) : GetM.Alone c g m := by
  subst hg
  have hal := hc.all_bd
  have b0 : 0 ≤ g.start % 18446744073709551616 % g.conf.all := Int.emod_nonneg _ (by omega)
  have b1 : g.start % 18446744073709551616 % g.conf.all < g.conf.all := Int.emod_lt_of_pos _ (by omega)
  have hs1 := snap_new1 (c := g.conf) g.who g.start m
  have hs : g.snap = SnapM.new g.conf g.who g.start := hf.snap
  rw [← hs] at hs1
  have hph := snap_phase hc b0 b1 hs1
  have h3 := snap_run3 hc b0 b1 hs1
  obtain ⟨N, hN⟩ : ∃ N, 2 * g.conf.all.toNat = N + 1 := ⟨2 * g.conf.all.toNat - 1, by omega⟩
  have hrun : ∀ j : Nat, j < 2 * g.conf.all.toNat → GetM.run g m j = ({ g with snap := (SnapM.run g.snap m j).1 }, (SnapM.run g.snap m j).2) := fun j hj => get_snap hf.phase hf.take j (fun i hi => (hph i (by omega)).1)
  have hp0 : ∀ j : Nat, j < 2 * g.conf.all.toNat → (GetM.run g m j).1.phase = 0 := fun j hj => by rw [hrun j hj]; exact hf.phase
  have hlast : GetM.run g m (2 * g.conf.all.toNat) = (({ g with snap := (SnapM.run g.snap m (2 * g.conf.all.toNat)).1 } : GetM).chosen, (SnapM.run g.snap m (2 * g.conf.all.toNat)).2) := by
    rw [hN] at h3 ⊢
    show (GetM.run g m N).1.step (GetM.run g m N).2 = _
    rw [hrun N (by omega), GetM.step_none (by exact hf.phase) (by exact hf.take)]
    have e : (SnapM.run g.snap m (N + 1)) = (SnapM.run g.snap m N).1.step (SnapM.run g.snap m N).2 := rfl
    rw [e] at h3 ⊢
    dsimp only
    rw [if_pos h3.phase]
  have hr := atM_range (wordsM g.conf m) g.fin
  have hch : ({ g with snap := (SnapM.run g.snap m (2 * g.conf.all.toNat)).1 } : GetM).chosen = if atM (wordsM g.conf m) g.fin < 0 then { g with snap := (SnapM.run g.snap m (2 * g.conf.all.toNat)).1, phase := 2 } else { g with snap := (SnapM.run g.snap m (2 * g.conf.all.toNat)).1, take := some (TakeM.new g.conf g.who (atM (wordsM g.conf m) g.fin) (getI (wordsM g.conf m) (atM (wordsM g.conf m) g.fin))) } := by
    unfold GetM.chosen
    dsimp only
    rw [h3.words]
  rw [hch] at hlast
  constructor
  · intro hn
    rw [if_pos hn] at hlast
    refine ⟨hp0, ?_, ?_, ?_, ?_⟩
    · rw [hlast]
    · rw [hlast]
    · rw [hlast]
    · rw [hlast]; exact h3.cells
  · intro hn
    rw [if_neg (by omega)] at hlast
    have hsl : atM (wordsM g.conf m) g.fin < g.conf.all := by
      rcases hr with ⟨_, e⟩ | ⟨_, _, e, _⟩
      · omega
      · rw [wordsM_len] at e; omega
    generalize hslot : atM (wordsM g.conf m) g.fin = slot at *
    rw [getI_words g.conf m slot hn hsl] at hlast
    have hcs := h3.cells
    generalize (SnapM.run g.snap m (2 * g.conf.all.toNat)).2 = m2 at *
    generalize (SnapM.run g.snap m (2 * g.conf.all.toNat)).1 = sn at *
    have hl2 : (m2.cells.length : Int) = g.conf.cells := by rw [hcs]; exact hl
    have hpk : ∀ i, m2.peek i = m.peek i := fun i => peek_of_cells hcs i
    obtain ⟨t1, t2, t3, t4⟩ := take_alone hc w0 w1 hn hsl hl2
    rw [hpk] at t1 t2 t3 t4
    rw [hpk] at t3
    have hadd := GetM.run_add g m (2 * g.conf.all.toNat)
    rw [hlast] at hadd
    dsimp only at hadd
    have hrt : ∀ j : Nat, j < 5 → GetM.run g m (2 * g.conf.all.toNat + j) = ({ g with snap := sn, take := some (TakeM.run (TakeM.new g.conf g.who slot (m.peek slot)) m2 j).1 }, (TakeM.run (TakeM.new g.conf g.who slot (m.peek slot)) m2 j).2) := fun j hj => by
      rw [hadd]
      rw [get_take (g := { g with snap := sn, take := some (TakeM.new g.conf g.who slot (m.peek slot)) }) (by exact hf.phase) rfl j (fun i hi => t1 i (by omega))]
    have hend : GetM.run g m (2 * g.conf.all.toNat + 5) = ({ g with snap := sn, take := some (TakeM.run (TakeM.new g.conf g.who slot (m.peek slot)) m2 5).1, value := (TakeM.run (TakeM.new g.conf g.who slot (m.peek slot)) m2 5).1.get, phase := 1 }, (TakeM.run (TakeM.new g.conf g.who slot (m.peek slot)) m2 5).2) := by
      show (GetM.run g m (2 * g.conf.all.toNat + 4)).1.step (GetM.run g m (2 * g.conf.all.toNat + 4)).2 = _
      rw [hrt 4 (by omega), GetM.step_some (t := (TakeM.run (TakeM.new g.conf g.who slot (m.peek slot)) m2 4).1) (by exact hf.phase) rfl]
      have e : (TakeM.run (TakeM.new g.conf g.who slot (m.peek slot)) m2 5) = (TakeM.run (TakeM.new g.conf g.who slot (m.peek slot)) m2 4).1.step (TakeM.run (TakeM.new g.conf g.who slot (m.peek slot)) m2 4).2 := rfl
      rw [e] at t2 ⊢
      dsimp only
      rw [if_pos t2]
    refine ⟨fun j hj => ?_, ?_, ?_, ?_, ?_⟩
    · rcases Nat.lt_or_ge j (2 * g.conf.all.toNat) with q | q
      · exact hp0 j q
      · have := hrt (j - 2 * g.conf.all.toNat) (by omega)
        rw [show 2 * g.conf.all.toNat + (j - 2 * g.conf.all.toNat) = j by omega] at this
        rw [this]
        exact hf.phase
    · rw [hend]
    · rw [hend]; exact t3
    · rw [hend]
    · rw [hend]
      show (TakeM.run (TakeM.new g.conf g.who slot (m.peek slot)) m2 5).2.cells = _
      rw [t4, hcs]
theorem GetM.new_fresh (c : ConfM) (who fin start : Int) : (GetM.new c who fin start).fresh := ⟨rfl, rfl, rfl⟩
/-- Behind its end it does nothing more. -/
theorem GetM.run_stop {g : GetM} {m : MemM} {n : Nat} (h : (GetM.run g m n).1.phase ≠ 0) : ∀ j : Nat, GetM.run g m (n + j) = GetM.run g m n
  | 0 => rfl
  | j + 1 => by
    show (GetM.run g m (n + j)).1.step (GetM.run g m (n + j)).2 = _
    rw [GetM.run_stop h j, GetM.step_off h]
/-- What is taken is gone; all else is as it was. -/
theorem took_peek {c : ConfM} (hc : c.ok) {wh slot : Int} (w0 : 0 ≤ wh) (w1 : wh < c.th) (s0 : 0 ≤ slot) (s1 : slot < c.all) {m m' : MemM} (hl : (m.cells.length : Int) = c.cells) (h : m'.cells = tookM c wh slot m.cells) (i : Int) (i0 : 0 ≤ i) (i1 : i < c.cells) :
    m'.peek i = if i = c.hazard wh then 0 else if i = slot then (unpack (m.peek slot)).taken.pack else m.peek i := by
  have hb := cellBd hc
  have bs := hb.slot slot s0 s1
  have bh := hb.hazard wh w0 w1
  have hne : slot ≠ c.hazard wh := by unfold ConfM.hazard; have := hc.all_bd; omega
  have hl' : (m'.cells.length : Int) = c.cells := by rw [h]; unfold tookM; rw [setI_length, setI_length, setI_length]; exact hl
  rw [peek_in (has_of hl' i0 i1), h]
  unfold tookM
  split
  · rename_i e
    rw [e, getI_setI_of _ _ _ bh.1 (by rw [setI_length, setI_length]; omega)]
  · rename_i e
    rw [getI_setI_ne _ _ _ _ bh.1 i0 e]
    split
    · rename_i e2
      rw [e2, getI_setI_of _ _ _ bs.1 (by rw [setI_length]; omega), peek_in (has_of hl bs.1 bs.2)]
    · rename_i e2
      rw [getI_setI_ne _ _ _ _ bs.1 i0 e2, getI_setI_ne _ _ _ _ bh.1 i0 e, peek_in (has_of hl i0 i1)]
theorem took_words {c : ConfM} (hc : c.ok) {wh slot : Int} (w0 : 0 ≤ wh) (w1 : wh < c.th) (s0 : 0 ≤ slot) (s1 : slot < c.all) {m m' : MemM} (hl : (m.cells.length : Int) = c.cells) (h : m'.cells = tookM c wh slot m.cells) :
    wordsM c m' = setI (wordsM c m) slot (unpack (m.peek slot)).taken.pack := by
  have hal := hc.all_bd
  have hcl : c.all ≤ c.cells := by unfold ConfM.cells; have := hc.th1; omega
  refine getI_ext (by rw [setI_length, wordsM_len, wordsM_len]) (fun i i0 i1 => ?_)
  rw [wordsM_len] at i1
  rw [getI_words c m' i i0 (by omega), took_peek hc w0 w1 s0 s1 hl h i i0 (by omega), if_neg (by unfold ConfM.hazard; omega)]
  split
  · rename_i e
    rw [e, getI_setI_of _ _ _ s0 (by rw [wordsM_len]; omega)]
  · rename_i e
    rw [getI_setI_ne _ _ _ _ s0 i0 e, getI_words c m i i0 (by omega)]
end Go.Proofs.Ytdhcomklmckhoaa
