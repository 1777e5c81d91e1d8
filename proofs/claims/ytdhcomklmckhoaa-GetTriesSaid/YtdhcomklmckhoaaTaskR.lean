/- What a step of a call keeps of the conditions on which the contracts rest: plain lemmas on the model. -/
import Derived.Test.YtdhcomklmckhoaaTask
import Derived.Test.YtdhcomklmckhoaaGetR
namespace Go.Proofs.Ytdhcomklmckhoaa
set_option linter.unusedSimpArgs false
set_option linter.unusedVariables false
/-! ### What is put in -/
theorem PutM.new_ok {c : ConfM} (hc : c.ok) {who : Int} (h0 : 0 ≤ who) (h1 : who < c.th) (fin : Int) {value : Int} (hv : 0 ≤ value ∧ value < 18446744073709551616) : (PutM.new c who fin value).ok :=
  ⟨hc, h0, h1, ClaimM.new_ok hc h0 h1, TickM.new_ok hc h0 h1, rfl, rfl, hv.1, hv.2, Int.le_refl _, by show (0 : Int) ≤ 8191; omega⟩
structure PutM.okn (n : Int) (p : PutM) : Prop where
  ok : p.ok
  steps : p.tick.steps ≤ n
  tc : p.tick.conf = p.conf
  tw : p.tick.who = p.who
structure PutM.kept (n : Int) (p p' : PutM) : Prop where
  okn : p'.okn n
  conf : p'.conf = p.conf
  who : p'.who = p.who
  fin : p'.fin = p.fin
  value : p'.value = p.value
theorem PutM.new_okn {c : ConfM} (hc : c.ok) {who : Int} (h0 : 0 ≤ who) (h1 : who < c.th) (fin : Int) {value : Int} (hv : 0 ≤ value ∧ value < 18446744073709551616) : (PutM.new c who fin value).okn 0 :=
  ⟨PutM.new_ok hc h0 h1 fin hv, Int.le_refl _, rfl, rfl⟩
theorem PutM.step_kept {p : PutM} {m : MemM} {now n : Int} (h : p.okn n) (hm : m.wf) (hnow : 0 ≤ now) (hn : n < 1000000000) : PutM.kept (n + 1) p (p.step m now).1 := by
  have hs := h.steps
  unfold PutM.step
  split
  · exact ⟨⟨h.ok, by show p.tick.steps ≤ _; omega, h.tc, h.tw⟩, rfl, rfl, rfl, rfl⟩
  · split
    · have hk := ClaimM.step_kept (m := m) h.ok.claim
      have hg := hk.gen h.ok.gen0 h.ok.gen1
      exact ⟨⟨⟨h.ok.conf, h.ok.who0, h.ok.who1, hk.ok, h.ok.tick, hk.conf.trans h.ok.cc, hk.who.trans h.ok.cw, h.ok.value0, h.ok.value1, hg.1, hg.2⟩, by show p.tick.steps ≤ _; omega, h.tc, h.tw⟩, rfl, rfl, rfl, rfl⟩
    · split
      · have hk := TickM.step_kept (m := m) h.ok.tick hm hnow (by omega)
        have hks := hk.steps
        exact ⟨⟨⟨h.ok.conf, h.ok.who0, h.ok.who1, h.ok.claim, hk.ok, h.ok.cc, h.ok.cw, h.ok.value0, h.ok.value1, h.ok.gen0, h.ok.gen1⟩, by show (p.tick.step m now).1.steps ≤ _; omega, hk.conf.trans h.tc, hk.who.trans h.tw⟩, rfl, rfl, rfl, rfl⟩
      · split
        · exact ⟨⟨⟨h.ok.conf, h.ok.who0, h.ok.who1, h.ok.claim, h.ok.tick, h.ok.cc, h.ok.cw, h.ok.value0, h.ok.value1, h.ok.gen0, h.ok.gen1⟩, by show p.tick.steps ≤ _; omega, h.tc, h.tw⟩, rfl, rfl, rfl, rfl⟩
        · exact ⟨⟨⟨h.ok.conf, h.ok.who0, h.ok.who1, h.ok.claim, h.ok.tick, h.ok.cc, h.ok.cw, h.ok.value0, h.ok.value1, h.ok.gen0, h.ok.gen1⟩, by show p.tick.steps ≤ _; omega, h.tc, h.tw⟩, rfl, rfl, rfl, rfl⟩
/-- The parts of a Put that are not begun, or not yet over. -/
structure PutM.live (p : PutM) : Prop where
  claim : p.phase = 0 → p.claim.phase = 0 ∨ p.claim.phase = 1
  tick : p.phase = 0 → p.tick.phase = 0 ∨ p.tick.phase = 1
/-- What a step does to the cells: it may touch one, or none (a clock). -/
structure MemM.near (m m' : MemM) : Prop where
  len : m'.cells.length = m.cells.length
  wf : m.wf → m'.wf
  log : m'.log.length ≤ m.log.length + 1
theorem near_refl (m : MemM) : MemM.near m m := ⟨rfl, id, by omega⟩
theorem near_touch (m : MemM) (who op cell old x : Int) (hx : 0 ≤ x ∧ x < 18446744073709551616) : MemM.near m (m.touch who op cell old x) :=
  ⟨MemM.touch_length _ _ _ _ _ _, fun hw => MemM.touch_wf hw _ _ _ _ _ hx, MemM.touch_log _ _ _ _ _ _⟩
theorem ClaimM.step_near (c : ClaimM) (m : MemM) : MemM.near m (c.step m).2 := by
  unfold ClaimM.step
  split
  · exact near_refl m
  · split
    · exact near_touch _ _ _ _ _ _ (by omega)
    · exact near_touch _ _ _ _ _ _ (by omega)
theorem TickM.step_near {t : TickM} (ho : t.ok) (m : MemM) (now : Int) : MemM.near m (t.step m now).2 := by
  have ha := ho.a0
  have ha1 := ho.a1
  unfold TickM.step
  split
  · exact near_refl m
  · dsimp only
    split
    · exact near_touch _ _ _ _ _ _ (by omega)
    · split
      · unfold TickM.stutter
        split
        · exact near_touch _ _ _ _ _ _ (by omega)
        · dsimp only
          split
          · exact near_touch _ _ _ _ _ _ (by omega)
          · exact near_refl m
      · split
        · unfold TickM.swap
          (repeat' split) <;> first | exact near_refl m | exact near_touch _ _ _ _ _ _ (by omega)
        · (repeat' split) <;> exact near_refl m
theorem PutM.step_near {p : PutM} (ho : p.ok) (m : MemM) (now : Int) : MemM.near m (p.step m now).2 := by
  have hv := And.intro ho.value0 ho.value1
  unfold PutM.step
  split
  · exact near_refl m
  · split
    · exact ClaimM.step_near _ _
    · split
      · exact TickM.step_near ho.tick _ _
      · split
        · exact near_touch _ _ _ _ _ _ hv
        · exact near_touch _ _ _ _ _ _ (pack_bd _)
theorem SnapM.step_near (s : SnapM) (m : MemM) : MemM.near m (s.step m).2 := by
  unfold SnapM.step
  split
  · exact near_refl m
  · exact near_touch _ _ _ _ _ _ (by omega)
theorem TakeM.step_near {t : TakeM} (ho : t.ok) (m : MemM) : MemM.near m (t.step m).2 := by
  have hal := ho.conf.all_bd
  have h1 := ho.slot0
  have h2 := ho.slot1
  unfold TakeM.step
  split
  · exact near_refl m
  · split
    · exact near_touch _ _ _ _ _ _ (by omega)
    · dsimp only
      (repeat' split)
      · exact near_touch _ _ _ _ _ _ (by omega)
      · exact near_touch _ _ _ _ _ _ (by omega)
      · exact near_touch _ _ _ _ _ _ (by omega)
      · exact near_touch _ _ _ _ _ _ (pack_bd _)
      · exact near_touch _ _ _ _ _ _ (by omega)
theorem GetM.step_near {g : GetM} (ho : g.ok) (m : MemM) : MemM.near m (g.step m).2 := by
  by_cases hp : g.phase = 0
  · cases ht : g.take with
    | none => rw [GetM.step_none hp ht]; exact SnapM.step_near _ _
    | some t => rw [GetM.step_some hp ht]; exact TakeM.step_near (ho.take t ht) _
  · rw [GetM.step_off hp]; exact near_refl m
/-! ### Calls -/
def CallM.wf (c : CallM) : Prop := 0 ≤ c.value ∧ c.value < 18446744073709551616
def WorkM.conf : WorkM → ConfM
  | .put p => p.conf
  | .get g => g.conf
def WorkM.who : WorkM → Int
  | .put p => p.who
  | .get g => g.who
def WorkM.okn (n : Int) : WorkM → Prop
  | .put p => p.okn n
  | .get g => g.okn n
theorem WorkM.okn.ok {n : Int} {k : WorkM} (h : k.okn n) (hn : n < 1000000000) : k.ok := by
  cases k with
  | put p => exact PutM.okn.ok h
  | get g =>
    have h' : g.okn n := h
    have h1 := h'.pass
    have h2 := h'.tries
    exact ⟨h'.ok, by omega, by omega⟩
theorem WorkM.okn.mono {n k : Int} {w : WorkM} (h : w.okn n) (hn : n ≤ k) : w.okn k := by
  cases w with
  | put p =>
    have h' : p.okn n := h
    have := h'.steps
    exact (⟨h'.ok, by omega, h'.tc, h'.tw⟩ : p.okn k)
  | get g =>
    have h' : g.okn n := h
    have h1 := h'.pass
    have h2 := h'.tries
    exact (⟨h'.ok, by omega, by omega, fun t ht => by have := h'.steps t ht; omega⟩ : g.okn k)
structure TaskM.okn (c : ConfM) (who n : Int) (t : TaskM) : Prop where
  work : t.work.okn n
  conf : t.work.conf = c
  who : t.work.who = who
theorem TaskM.okn.mono {c : ConfM} {who n k : Int} {t : TaskM} (h : t.okn c who n) (hn : n ≤ k) : t.okn c who k := ⟨h.work.mono hn, h.conf, h.who⟩
theorem TaskM.new_okn {c : ConfM} (hc : c.ok) {who : Int} (h0 : 0 ≤ who) (h1 : who < c.th) {k : CallM} (hk : k.wf) : (TaskM.new c who k).okn c who 0 := by
  unfold TaskM.new
  split
  · exact ⟨PutM.new_okn hc h0 h1 k.fin hk, rfl, rfl⟩
  · exact ⟨GetM.new_okn hc h0 h1 k.fin k.start, rfl, rfl⟩
theorem TaskM.step_okn {c : ConfM} {who n : Int} {t : TaskM} {m : MemM} {now : Int} (h : t.okn c who n) (h0 : 0 ≤ n) (hn : n < 1000000000) (hm : m.wf) (hnow : 0 ≤ now) : (t.step m now).1.okn c who (n + 1) ∧ (t.step m now).1.call = t.call ∧ MemM.near m (t.step m now).2 := by
  obtain ⟨call, work⟩ := t
  cases work with
  | put p =>
    have h' : p.okn n := h.work
    have hk := PutM.step_kept (m := m) h' hm hnow hn
    exact ⟨⟨hk.okn, hk.conf.trans h.conf, hk.who.trans h.who⟩, rfl, PutM.step_near h'.ok m now⟩
  | get g =>
    have h' : g.okn n := h.work
    have hk := GetM.step_kept (m := m) h' h0 hn hm
    exact ⟨⟨hk.okn, hk.conf.trans h.conf, hk.who.trans h.who⟩, rfl, GetM.step_near h'.ok m⟩
end Go.Proofs.Ytdhcomklmckhoaa
