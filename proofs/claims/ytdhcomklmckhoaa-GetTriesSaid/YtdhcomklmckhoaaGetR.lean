/- A Get that runs by itself: plain lemmas on the model. -/
import Derived.Test.YtdhcomklmckhoaaGetS
namespace Go.Proofs.Ytdhcomklmckhoaa
set_option linter.unusedSimpArgs false
set_option linter.unusedVariables false
/-! ### Cells -/
theorem getI_setI_of (l : List Int) (k x : Int) (hk : 0 ≤ k) (hl : k < l.length) : getI (setI l k x) k = x := by
  have h : k.toNat < l.length := by omega
  simp [getI, setI, List.getD_eq_getElem?_getD, h]
theorem getI_setI_ne (l : List Int) (k a x : Int) (hk : 0 ≤ k) (ha : 0 ≤ a) (h : a ≠ k) : getI (setI l k x) a = getI l a := by
  have : k.toNat ≠ a.toNat := by omega
  simp [getI, setI, List.getD_eq_getElem?_getD, List.getElem?_set_ne this]
theorem setI_self (l : List Int) (k : Int) : setI l k (getI l k) = l := by
  unfold setI getI
  rcases Nat.lt_or_ge k.toNat l.length with h | h
  · rw [List.getD_eq_getElem?_getD, List.getElem?_eq_getElem h]
    simp
  · rw [List.set_eq_of_length_le h]
theorem setI_length (l : List Int) (k x : Int) : (setI l k x).length = l.length := by simp [setI]
theorem touch_in_cells {m : MemM} {cell : Int} (h : m.has cell) (who op old next : Int) : (m.touch who op cell old next).cells = setI m.cells cell (opNew op (getI m.cells cell) old next) := by
  unfold MemM.touch; rw [if_pos h]
theorem touch_in_log {m : MemM} {cell : Int} (h : m.has cell) (who op old next : Int) : (m.touch who op cell old next).log.length = m.log.length + 1 := by
  unfold MemM.touch; rw [if_pos h]; simp
theorem load_cells (m : MemM) (who cell old next : Int) : (m.touch who 0 cell old next).cells = m.cells := by
  unfold MemM.touch
  split
  · show setI m.cells cell (getI m.cells cell) = _
    exact setI_self _ _
  · rfl
theorem peek_cells {m m' : MemM} (h : m.cells = m'.cells) (c : Int) : m.peek c = m'.peek c := by
  obtain ⟨cs, lg⟩ := m
  obtain ⟨cs', lg'⟩ := m'
  obtain rfl : cs = cs' := h
  rfl
theorem peek_in {m : MemM} {c : Int} (h : m.has c) : m.peek c = getI m.cells c := if_pos h
theorem has_of {m : MemM} {c : ConfM} (hl : (m.cells.length : Int) = c.cells) {i : Int} (h0 : 0 ≤ i) (h1 : i < c.cells) : m.has i := ⟨h0, by omega⟩
theorem okOf_cells {m m' : MemM} (h : m.cells = m'.cells) (op c old : Int) : m.okOf op c old = m'.okOf op c old := by
  obtain ⟨cs, lg⟩ := m
  obtain ⟨cs', lg'⟩ := m'
  obtain rfl : cs = cs' := h
  rfl
/-! ### What a step touches -/
structure CellBd (c : ConfM) : Prop where
  slot : ∀ s, 0 ≤ s → s < c.all → 0 ≤ s ∧ s < c.cells
  value : ∀ s, 0 ≤ s → s < c.all → 0 ≤ c.value s ∧ c.value s < c.cells
  hazard : ∀ t, 0 ≤ t → t < c.th → 0 ≤ c.hazard t ∧ c.hazard t < c.cells
  number : ∀ t, 0 ≤ t → t < c.th → 0 ≤ c.number t ∧ c.number t < c.cells
theorem cellBd {c : ConfM} (h : c.ok) : CellBd c := by
  have h1 := h.all_bd
  have h2 := h.th1
  constructor <;> intro s a b <;> (first | unfold ConfM.value | unfold ConfM.hazard | unfold ConfM.number | skip) <;> unfold ConfM.cells <;> omega
/-- What holds of the cells behind a step. -/
structure MemM.next (c : ConfM) (m m' : MemM) (k : Nat) : Prop where
  len : m'.cells.length = m.cells.length
  wf : m.wf → m'.wf
  log : m'.log.length = m.log.length + k
theorem next_refl (c : ConfM) (m : MemM) : MemM.next c m m 0 := ⟨rfl, id, rfl⟩
theorem next_touch {c : ConfM} {m : MemM} {cell : Int} (h : m.has cell) (who op old x : Int) (hx : 0 ≤ x ∧ x < 18446744073709551616) : MemM.next c m (m.touch who op cell old x) 1 :=
  ⟨MemM.touch_length _ _ _ _ _ _, fun hw => MemM.touch_wf hw _ _ _ _ _ hx, touch_in_log h _ _ _ _⟩
theorem SnapM.step_next {s : SnapM} {m : MemM} (ho : s.ok) (hl : (m.cells.length : Int) = s.conf.cells) : MemM.next s.conf m (s.step m).2 (if s.phase = 0 then 1 else 0) := by
  by_cases hp : s.phase = 0
  · rw [s.step_eq m hp, if_pos hp]
    have hb := ho.slot_bd
    have hc := (cellBd ho.conf).slot _ hb.1 hb.2
    exact next_touch (has_of hl hc.1 hc.2) _ _ _ _ (by omega)
  · have e : s.step m = (s, m) := by unfold SnapM.step; rw [if_pos hp]
    rw [e, if_neg hp]
    exact next_refl _ _
theorem TakeM.step_next {t : TakeM} {m : MemM} (ho : t.ok) (hl : (m.cells.length : Int) = t.conf.cells) : MemM.next t.conf m (t.step m).2 (if t.phase = 0 then 1 else 0) := by
  have hc := cellBd ho.conf
  have hs := hc.slot _ ho.slot0 ho.slot1
  have hv := hc.value _ ho.slot0 ho.slot1
  have hz := hc.hazard _ ho.who0 ho.who1
  have hal := ho.conf.all_bd
  have h1 := ho.slot0
  have h2 := ho.slot1
  unfold TakeM.step
  by_cases hp : t.phase = 0
  · rw [if_neg (by simpa using hp), if_pos hp]
    split
    · exact next_touch (has_of hl hz.1 hz.2) _ _ _ _ (by omega)
    · dsimp only
      (repeat' split)
      · exact next_touch (has_of hl hz.1 hz.2) _ _ _ _ (by omega)
      · exact next_touch (has_of hl hs.1 hs.2) _ _ _ _ (by omega)
      · exact next_touch (has_of hl hv.1 hv.2) _ _ _ _ (by omega)
      · exact next_touch (has_of hl hs.1 hs.2) _ _ _ _ (pack_bd _)
      · exact next_touch (has_of hl hz.1 hz.2) _ _ _ _ (by omega)
  · rw [if_pos hp, if_neg hp]
    exact next_refl _ _
theorem GetM.step_none {g : GetM} {m : MemM} (hp : g.phase = 0) (ht : g.take = none) : g.step m = (if (g.snap.step m).1.phase = 1 then ({ g with snap := (g.snap.step m).1 } : GetM).chosen else { g with snap := (g.snap.step m).1 }, (g.snap.step m).2) := by
  unfold GetM.step
  rw [if_neg (by simpa using hp), ht]
theorem GetM.step_some {g : GetM} {t : TakeM} {m : MemM} (hp : g.phase = 0) (ht : g.take = some t) : g.step m = (if (t.step m).1.phase = 1 then { g with take := some (t.step m).1, value := (t.step m).1.get, phase := 1 } else if (t.step m).1.phase = 2 then { g with tries := g.tries + 1, take := none, snap := SnapM.new g.conf g.who g.start } else { g with take := some (t.step m).1 }, (t.step m).2) := by
  unfold GetM.step
  rw [if_neg (by simpa using hp), ht]
theorem GetM.step_off {g : GetM} {m : MemM} (hp : g.phase ≠ 0) : g.step m = (g, m) := by unfold GetM.step; rw [if_pos hp]
/-- Between its steps a Get's part that is under way is under way. -/
structure GetM.live (g : GetM) : Prop where
  snap : g.phase = 0 → g.take = none → g.snap.phase = 0
  take : ∀ t, g.phase = 0 → g.take = some t → t.phase = 0 ∧ t.conf = g.conf ∧ t.who = g.who
theorem GetM.new_live (c : ConfM) (who fin start : Int) : (GetM.new c who fin start).live := ⟨fun _ _ => rfl, (fun t _ h => by cases h)⟩
theorem TakeM.step_conf (t : TakeM) (m : MemM) : (t.step m).1.conf = t.conf ∧ (t.step m).1.who = t.who ∧ (t.step m).1.slot = t.slot ∧ (t.step m).1.word = t.word := by
  unfold TakeM.step
  split
  · exact ⟨rfl, rfl, rfl, rfl⟩
  · split
    · exact ⟨rfl, rfl, rfl, rfl⟩
    · dsimp only
      (repeat' split) <;> exact ⟨rfl, rfl, rfl, rfl⟩
theorem phase12_snap (s : SnapM) (m : MemM) (h : s.phase = 0) : (s.step m).1.phase = 0 ∨ (s.step m).1.phase = 1 := by
  rw [s.step_eq m h]
  unfold SnapM.rest
  split
  · exact .inl h
  · dsimp only; split <;> simp
theorem phase_take (t : TakeM) (m : MemM) (h : t.phase = 0) : (t.step m).1.phase = 0 ∨ (t.step m).1.phase = 1 ∨ (t.step m).1.phase = 2 := by
  unfold TakeM.step TakeM.fin
  rw [if_neg (by simpa using h)]
  split
  · (try dsimp only); (repeat' split) <;> simp_all
  · (try dsimp only); (repeat' split) <;> simp_all
theorem GetM.step_live {g : GetM} {m : MemM} (h : g.live) : (g.step m).1.live := by
  by_cases hp : g.phase = 0
  · cases ht : g.take with
    | none =>
      rw [GetM.step_none hp ht]
      dsimp only
      have hs := h.snap hp ht
      split
      · rename_i h1
        unfold GetM.chosen
        dsimp only
        split
        · exact ⟨(fun h => by cases h), (fun t h => by cases h)⟩
        · refine ⟨(fun _ h => by cases h), fun t _ h => ?_⟩
          simp only [Option.some.injEq] at h
          subst h
          exact ⟨rfl, rfl, rfl⟩
      · rename_i h1
        refine ⟨fun _ _ => ?_, fun t _ h => ?_⟩
        · rcases phase12_snap g.snap m hs with e | e
          · exact e
          · exact (h1 e).elim
        · rw [ht] at h; cases h
    | some t =>
      rw [GetM.step_some hp ht]
      dsimp only
      have hs := h.take t hp ht
      have hc := TakeM.step_conf t m
      split
      · exact ⟨(fun h => by cases h), (fun t h => by cases h)⟩
      · split
        · exact ⟨fun _ _ => rfl, (fun t _ h => by cases h)⟩
        · rename_i h1 h2
          refine ⟨(fun _ h => by cases h), fun t' _ h => ?_⟩
          simp only [Option.some.injEq] at h
          subst h
          refine ⟨?_, hc.1.trans hs.2.1, hc.2.1.trans hs.2.2⟩
          rcases phase_take t m hs.1 with e | e | e
          · exact e
          · exact (h1 e).elim
          · exact (h2 e).elim
  · rw [GetM.step_off hp]; exact h
theorem GetM.step_next {g : GetM} {m : MemM} (ho : g.ok) (hv : g.live) (hl : (m.cells.length : Int) = g.conf.cells) : MemM.next g.conf m (g.step m).2 (if g.phase = 0 then 1 else 0) := by
  by_cases hp : g.phase = 0
  · rw [if_pos hp]
    cases ht : g.take with
    | none =>
      rw [GetM.step_none hp ht]
      have := SnapM.step_next (m := m) ho.snap (by rw [ho.sc]; exact hl)
      rw [if_pos (hv.snap hp ht)] at this
      exact ⟨this.len, this.wf, this.log⟩
    | some t =>
      rw [GetM.step_some hp ht]
      have hs := hv.take t hp ht
      have := TakeM.step_next (m := m) (ho.take t ht) (by rw [hs.2.1]; exact hl)
      rw [if_pos hs.1] at this
      exact ⟨this.len, this.wf, this.log⟩
  · rw [GetM.step_off hp, if_neg hp]
    exact next_refl _ _
/-! ### Steps one behind the other -/
def GetM.run (g : GetM) (m : MemM) : Nat → GetM × MemM
  | 0 => (g, m)
  | n + 1 => (GetM.run g m n).1.step (GetM.run g m n).2
/-- All that a Get rests on, with its cells. -/
structure GetM.all (k : Int) (g : GetM) (m : MemM) : Prop where
  okn : g.okn k
  live : g.live
  wf : m.wf
  len : (m.cells.length : Int) = g.conf.cells
theorem GetM.all_step {g : GetM} {m : MemM} {k : Int} (h : g.all k m) (h0 : 0 ≤ k) (hk : k < 1000000000) : (g.step m).1.all (k + 1) (g.step m).2 := by
  have hn := GetM.step_next h.okn.ok h.live h.len
  have hs := GetM.step_kept h.okn h0 hk h.wf
  exact ⟨hs.okn, GetM.step_live h.live, hn.wf h.wf, by rw [hn.len, hs.conf]; exact h.len⟩
theorem GetM.all_run {g : GetM} {m : MemM} {k : Int} (h : g.all k m) (h0 : 0 ≤ k) : ∀ n : Nat, k + n ≤ 1000000000 → (GetM.run g m n).1.all (k + n) (GetM.run g m n).2
  | 0, _ => by simpa [GetM.run] using h
  | n + 1, hk => by
    have := GetM.all_step (GetM.all_run h h0 n (by omega)) (by omega) (by omega)
    rw [show (k + ((n + 1 : Nat) : Int)) = k + n + 1 by omega]
    exact this
theorem GetM.run_conf {g : GetM} {m : MemM} {k : Int} (h : g.all k m) (h0 : 0 ≤ k) : ∀ n : Nat, k + n ≤ 1000000000 → (GetM.run g m n).1.conf = g.conf ∧ (GetM.run g m n).1.who = g.who
  | 0, _ => ⟨rfl, rfl⟩
  | n + 1, hk => by
    have h1 := GetM.all_run h h0 n (by omega)
    have h2 := GetM.run_conf h h0 n (by omega)
    have h3 := GetM.step_kept h1.okn (by omega) (by omega) h1.wf
    exact ⟨h3.conf.trans h2.1, h3.who.trans h2.2⟩
theorem GetM.run_log {g : GetM} {m : MemM} {k : Int} (h : g.all k m) (h0 : 0 ≤ k) : ∀ n : Nat, k + n ≤ 1000000000 → (∀ j, j < n → (GetM.run g m j).1.phase = 0) → (GetM.run g m n).2.log.length = m.log.length + n
  | 0, _, _ => rfl
  | n + 1, hk, hp => by
    have h1 := GetM.all_run h h0 n (by omega)
    have h2 := GetM.run_log h h0 n (by omega) (fun j hj => hp j (by omega))
    have h3 := GetM.step_next h1.okn.ok h1.live h1.len
    rw [if_pos (hp n (by omega))] at h3
    have h4 := h3.log
    show ((GetM.run g m n).1.step (GetM.run g m n).2).2.log.length = _
    omega
theorem GetM.run_log_le {g : GetM} {m : MemM} {k : Int} (h : g.all k m) (h0 : 0 ≤ k) : ∀ n : Nat, k + n ≤ 1000000000 → (GetM.run g m n).2.log.length ≤ m.log.length + n
  | 0, _ => Nat.le_refl _
  | n + 1, hk => by
    have h1 := GetM.all_run h h0 n (by omega)
    have h2 := GetM.run_log_le h h0 n (by omega)
    have h3 := (GetM.step_next h1.okn.ok h1.live h1.len).log
    show ((GetM.run g m n).1.step (GetM.run g m n).2).2.log.length ≤ _
    split at h3 <;> omega
theorem GetM.new_all {c : ConfM} (hc : c.ok) {who : Int} (h0 : 0 ≤ who) (h1 : who < c.th) (fin start : Int) {m : MemM} (hw : m.wf) (hl : (m.cells.length : Int) = c.cells) : (GetM.new c who fin start).all 0 m :=
  ⟨GetM.new_okn hc h0 h1 fin start, GetM.new_live c who fin start, hw, hl⟩
end Go.Proofs.Ytdhcomklmckhoaa
