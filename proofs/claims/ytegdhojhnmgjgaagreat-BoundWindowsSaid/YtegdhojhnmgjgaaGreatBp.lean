/- Several texts in one: PutE BoundG BoundP BoundY BoundC. Each says ahead of it what it shows. -/
import Derived.Test.YtegdhojhnmgjgaaGreatB1
import Derived.Test.YtegdhojhnmgjgaaGreatBd
import Derived.Test.YtegdhojhnmgjgaaGreatB2
set_option linter.unusedVariables false
set_option linter.unusedSimpArgs false
/- A Put ends within as many steps of its own as the document says, whatever others do meanwhile: plain lemmas on the model. -/
namespace Go.Proofs.YtegdhojhnmgjgaaGreat
/-! ### A place -/
def ClaimM.meas (c : ClaimM) : Int := (c.conf.sl - 1 - c.k) * (c.conf.th + 1) + (if c.guard < 0 then c.conf.th + 1 else c.conf.th - c.guard)
structure ClaimM.inv (c : ClaimM) : Prop where
  th : 1 ≤ c.conf.th
  k0 : 0 ≤ c.k
  k1 : c.k < c.conf.sl
  g : c.phase = 0 → c.guard < c.conf.th
  p : c.phase = 0 ∨ c.phase = 1 ∨ c.phase = 2
theorem ClaimM.meas_pos {c : ClaimM} (h : c.inv) (hp : c.phase = 0) : 1 ≤ c.meas := by
  have h1 := h.k1
  have h2 := h.th
  have h3 := h.g hp
  have h4 : 0 ≤ (c.conf.sl - 1 - c.k) * (c.conf.th + 1) := Int.mul_nonneg (by omega) (by omega)
  unfold ClaimM.meas
  generalize (c.conf.sl - 1 - c.k) * (c.conf.th + 1) = A at *
  split <;> omega
structure ClaimM.fell (c c' : ClaimM) : Prop where
  inv : c'.inv
  conf : c'.conf = c.conf
  who : c'.who = c.who
  meas : c'.phase = 0 → c'.meas + 1 ≤ c.meas
theorem ClaimM.pass_fell {c : ClaimM} (h : c.inv) (hp : c.phase = 0) : c.fell c.pass := by
  have h1 := h.k1
  have h2 := h.th
  have h3 := h.g hp
  have h0 := h.k0
  unfold ClaimM.pass
  split
  · exact ⟨⟨h2, h0, h1, (fun q => by cases q), .inr (.inr rfl)⟩, rfl, rfl, (fun q => by cases q)⟩
  · refine ⟨⟨h2, by show 0 ≤ c.k + 1; omega, by show c.k + 1 < c.conf.sl; omega, fun _ => by show (-1 : Int) < c.conf.th; omega, .inl hp⟩, rfl, rfl, fun _ => ?_⟩
    unfold ClaimM.meas
    show (c.conf.sl - 1 - (c.k + 1)) * (c.conf.th + 1) + (if (-1 : Int) < 0 then c.conf.th + 1 else c.conf.th - (-1)) + 1 ≤ _
    rw [if_pos (by decide), show c.conf.sl - 1 - (c.k + 1) = (c.conf.sl - 1 - c.k) - 1 by omega, Int.sub_mul, Int.one_mul]
    generalize (c.conf.sl - 1 - c.k) * (c.conf.th + 1) = A
    split <;> omega
theorem ClaimM.fell_word {c c' : ClaimM} {w : WordM} (h : ({ c with word := w } : ClaimM).fell c') : c.fell c' := ⟨h.inv, h.conf, h.who, h.meas⟩
theorem ClaimM.step_fell {c : ClaimM} {m : MemM} (h : c.inv) (hp : c.phase = 0) : c.fell (c.step m).1 := by
  have h1 := h.k1
  have h2 := h.th
  have h3 := h.g hp
  have h0 := h.k0
  unfold ClaimM.step
  rw [if_neg (by omega)]
  split
  · rename_i hg
    have hi : ({ c with word := unpack (m.peek c.slot) } : ClaimM).inv := ⟨h2, h0, h1, h.g, h.p⟩
    unfold ClaimM.look
    dsimp only
    split
    · exact ClaimM.fell_word (ClaimM.pass_fell hi hp)
    · split
      · exact ⟨⟨h2, h0, h1, (fun q => by cases q), .inr (.inl rfl)⟩, rfl, rfl, (fun q => by cases q)⟩
      · split
        · refine ⟨⟨h2, h0, h1, fun _ => by show (0 : Int) < c.conf.th; omega, .inl hp⟩, rfl, rfl, fun _ => ?_⟩
          unfold ClaimM.meas
          show (c.conf.sl - 1 - c.k) * (c.conf.th + 1) + (if (0 : Int) < 0 then c.conf.th + 1 else c.conf.th - 0) + 1 ≤ _
          rw [if_neg (by decide), if_pos hg]
          omega
        · exact ClaimM.fell_word (ClaimM.pass_fell hi hp)
  · rename_i hg
    dsimp only
    split
    · exact ClaimM.pass_fell h hp
    · split
      · exact ⟨⟨h2, h0, h1, (fun q => by cases q), .inr (.inl rfl)⟩, rfl, rfl, (fun q => by cases q)⟩
      · refine ⟨⟨h2, h0, h1, fun _ => by show c.guard + 1 < c.conf.th; omega, .inl hp⟩, rfl, rfl, fun _ => ?_⟩
        unfold ClaimM.meas
        show (c.conf.sl - 1 - c.k) * (c.conf.th + 1) + (if c.guard + 1 < 0 then c.conf.th + 1 else c.conf.th - (c.guard + 1)) + 1 ≤ _
        rw [if_neg (by omega), if_neg hg]
        omega
/-! ### A stamp -/
def TickM.most (c : ConfM) : Int := if c.src = 1 then c.th + 1 else if c.src = 2 then 4 else if c.src = 4 then c.dl + 2 else 1
structure TickM.inv (t : TickM) : Prop where
  s0 : 0 ≤ t.steps
  s1 : t.phase = 0 → t.steps < TickM.most t.conf
  p : t.phase = 0 ∨ t.phase = 1 ∨ t.phase = 2
structure TickM.fell (t t' : TickM) : Prop where
  inv : t'.inv
  conf : t'.conf = t.conf
  who : t'.who = t.who
  steps : t'.steps = t.steps + 1
theorem tdoneE (t : TickM) (s : StampM) : (t.done s).conf = t.conf ∧ (t.done s).who = t.who ∧ (t.done s).steps = t.steps ∧ ((t.done s).phase = 1 ∨ (t.done s).phase = 2) := by
  unfold TickM.done; split
  · exact ⟨rfl, rfl, rfl, .inl rfl⟩
  · exact ⟨rfl, rfl, rfl, .inr rfl⟩
theorem TickM.fell_done {t u : TickM} (s : StampM) (h : t.inv) (hc : u.conf = t.conf) (hw : u.who = t.who) (hs : u.steps = t.steps) : t.fell { u.done s with steps := (u.done s).steps + 1 } := by
  obtain ⟨a, b, c, d⟩ := tdoneE u s
  have h0 := h.s0
  refine ⟨⟨?_, ?_, .inr d⟩, a.trans hc, b.trans hw, ?_⟩
  · show 0 ≤ (u.done s).steps + 1; omega
  · intro q
    have q' : (u.done s).phase = 0 := q
    omega
  · show (u.done s).steps + 1 = _; omega
theorem TickM.fell_go {t u : TickM} (h : t.inv) (hc : u.conf = t.conf) (hw : u.who = t.who) (hs : u.steps = t.steps) (hp : u.phase = 0 ∨ u.phase = 1 ∨ u.phase = 2) (hm : t.steps + 1 < TickM.most t.conf) : t.fell { u with steps := u.steps + 1 } := by
  have h0 := h.s0
  refine ⟨⟨?_, fun _ => ?_, hp⟩, hc, hw, ?_⟩
  · show 0 ≤ u.steps + 1; omega
  · show u.steps + 1 < TickM.most u.conf; rw [hc]; omega
  · show u.steps + 1 = _; omega
theorem TickM.step_fell {t : TickM} {m : MemM} {now : Int} (h : t.inv) (hp : t.phase = 0) : t.fell (t.step m now).1 := by
  have hs := h.s1 hp
  have h0 := h.s0
  unfold TickM.step
  rw [if_neg (by omega)]
  dsimp only
  by_cases e0 : t.conf.src = 0
  · rw [if_pos e0]
    exact TickM.fell_done _ h rfl rfl rfl
  · rw [if_neg e0]
    by_cases e1 : t.conf.src = 1
    · rw [if_pos e1]
      have hm : TickM.most t.conf = t.conf.th + 1 := by unfold TickM.most; rw [if_pos e1]
      unfold TickM.stutter
      split
      · rename_i q
        exact TickM.fell_go (u := { t with a := max t.a (t.read m t.steps) }) h rfl rfl rfl h.p (by omega)
      · exact TickM.fell_done _ h rfl rfl rfl
    · rw [if_neg e1]
      by_cases e2 : t.conf.src = 2
      · rw [if_pos e2]
        have hm : TickM.most t.conf = 4 := by unfold TickM.most; rw [if_neg e1, if_pos e2]
        unfold TickM.swap
        split
        · exact TickM.fell_go (u := { t with a := t.read m 0, phase := if t.read m 0 ≥ Top then 2 else t.phase }) h rfl rfl rfl (by show (if t.read m 0 ≥ Top then (2 : Int) else t.phase) = 0 ∨ (if t.read m 0 ≥ Top then (2 : Int) else t.phase) = 1 ∨ (if t.read m 0 ≥ Top then (2 : Int) else t.phase) = 2; split <;> omega) (by omega)
        · split
          · dsimp only
            split
            · exact TickM.fell_done (u := { t with b := t.read m 0 }) _ h rfl rfl rfl
            · exact TickM.fell_go (u := { t with b := t.read m 0 }) h rfl rfl rfl h.p (by omega)
          · split
            · dsimp only
              split
              · exact TickM.fell_done _ h rfl rfl rfl
              · exact TickM.fell_go (u := t) h rfl rfl rfl h.p (by omega)
            · split
              · exact TickM.fell_done (u := { t with b := t.read m 0 }) _ h rfl rfl rfl
              · omega
      · rw [if_neg e2]
        by_cases e4 : t.conf.src = 4
        · rw [if_pos e4]
          have hm : TickM.most t.conf = t.conf.dl + 2 := by unfold TickM.most; rw [if_neg e1, if_neg e2, if_pos e4]
          by_cases q : t.steps = 0
          · rw [if_pos q]
            split
            · exact TickM.fell_go (u := { t with a := cap now }) h rfl rfl rfl h.p (by omega)
            · exact TickM.fell_done (u := { t with a := cap now }) _ h rfl rfl rfl
          · rw [if_neg q]
            split
            · exact TickM.fell_go (u := t) h rfl rfl rfl h.p (by omega)
            · exact TickM.fell_done (u := t) _ h rfl rfl rfl
        · rw [if_neg e4]
          exact TickM.fell_done _ h rfl rfl rfl
/-! ### A Put -/
def PutM.most (c : ConfM) : Int := c.sl * (c.th + 1) + TickM.most c + 2
def PutM.meas (p : PutM) : Int :=
  if p.phase ≠ 0 then 0
  else if p.claim.phase = 0 then p.claim.meas + TickM.most p.conf + 2
  else if p.tick.phase = 0 then TickM.most p.conf - p.tick.steps + 2
  else if p.stored = false then 2 else 1
structure PutM.inv (p : PutM) : Prop where
  claim : p.claim.inv
  tick : p.tick.inv
  cc : p.claim.conf = p.conf
  tc : p.tick.conf = p.conf
  ph : p.phase = 0 ∨ p.phase = 1 ∨ p.phase = 2
  most : 1 ≤ TickM.most p.conf
theorem TickM.most_pos {c : ConfM} (h1 : 1 ≤ c.th) (h3 : 0 ≤ c.dl) : 1 ≤ TickM.most c := by
  unfold TickM.most; (repeat' split) <;> omega
theorem PutM.new_inv {c : ConfM} (h1 : 1 ≤ c.th) (h2 : 1 ≤ c.sl) (h3 : 0 ≤ c.dl) (who fin value : Int) : (PutM.new c who fin value).inv :=
  ⟨⟨h1, Int.le_refl _, by show 0 < c.sl; omega, fun _ => by show (-1 : Int) < c.th; omega, .inl rfl⟩, ⟨Int.le_refl _, fun _ => by have := TickM.most_pos h1 h3; show 0 < TickM.most c; omega, .inl rfl⟩, rfl, rfl, .inl rfl, TickM.most_pos h1 h3⟩
theorem PutM.new_meas (c : ConfM) (who fin value : Int) : (PutM.new c who fin value).meas = PutM.most c := by
  unfold PutM.meas PutM.most
  rw [if_neg (show ¬ (PutM.new c who fin value).phase ≠ 0 from fun h => h rfl), if_pos (show (PutM.new c who fin value).claim.phase = 0 from rfl)]
  show (c.sl - 1 - 0) * (c.th + 1) + (if (-1 : Int) < 0 then c.th + 1 else c.th - (-1)) + TickM.most c + 2 = _
  rw [if_pos (by decide), show c.sl - 1 - 0 = c.sl - 1 by omega, Int.sub_mul, Int.one_mul]
  omega
theorem PutM.meas_pos {p : PutM} (h : p.inv) (hp : p.phase = 0) : 1 ≤ p.meas := by
  have h3 := h.most
  unfold PutM.meas
  rw [if_neg (by omega)]
  split
  · have := ClaimM.meas_pos h.claim (by assumption)
    omega
  · split
    · have := h.tick.s1 (by assumption)
      rw [h.tc] at this
      omega
    · split <;> omega
theorem PutM.meas_zero {p : PutM} (hp : p.phase ≠ 0) : p.meas = 0 := by unfold PutM.meas; rw [if_pos hp]
structure PutM.fell (p p' : PutM) : Prop where
  inv : p'.inv
  conf : p'.conf = p.conf
  who : p'.who = p.who
  meas : p'.meas + 1 ≤ p.meas
/-- Each step of a Put that is under way brings it nearer to its end. -/
theorem PutM.step_fell {p : PutM} {m : MemM} {now : Int} (h : p.inv) (hp : p.phase = 0) : p.fell (p.step m now).1 := by
  have h3 := h.most
  have hpos := PutM.meas_pos h hp
  have ht0 := h.tick.s0
  unfold PutM.step
  rw [if_neg (by omega)]
  split
  · rename_i q
    have f := ClaimM.step_fell (m := m) h.claim q
    have q0 := ClaimM.meas_pos h.claim q
    have e : p.meas = p.claim.meas + TickM.most p.conf + 2 := by unfold PutM.meas; rw [if_neg (by omega), if_pos q]
    dsimp only
    generalize (p.claim.step m).1 = c' at *
    have hi : ∀ ph : Int, (ph = 0 ∨ ph = 1 ∨ ph = 2) → ({ p with claim := c', phase := ph } : PutM).inv := fun ph hph => ⟨f.inv, h.tick, f.conf.trans h.cc, h.tc, hph, h.most⟩
    split
    · refine ⟨hi 2 (.inr (.inr rfl)), rfl, rfl, ?_⟩
      rw [PutM.meas_zero (show (2 : Int) ≠ 0 by decide)]; omega
    · refine ⟨hi p.phase h.ph, rfl, rfl, ?_⟩
      rw [e]
      unfold PutM.meas
      rw [if_neg (by show ¬ p.phase ≠ 0; omega)]
      dsimp only
      split
      · rename_i q2
        have := f.meas q2
        omega
      · split
        · omega
        · split <;> omega
  · rename_i q
    split
    · rename_i q2
      have f := TickM.step_fell (m := m) (now := now) h.tick q2
      have e : p.meas = TickM.most p.conf - p.tick.steps + 2 := by unfold PutM.meas; rw [if_neg (by omega), if_neg q, if_pos q2]
      dsimp only
      generalize (p.tick.step m now).1 = t' at *
      have hi : ∀ ph : Int, (ph = 0 ∨ ph = 1 ∨ ph = 2) → ({ p with tick := t', phase := ph } : PutM).inv := fun ph hph => ⟨h.claim, f.inv, h.cc, f.conf.trans h.tc, hph, h.most⟩
      have hs := h.tick.s1 q2
      rw [h.tc] at hs
      have hst := f.steps
      split
      · refine ⟨hi 2 (.inr (.inr rfl)), rfl, rfl, ?_⟩
        rw [PutM.meas_zero (show (2 : Int) ≠ 0 by decide)]; omega
      · refine ⟨hi p.phase h.ph, rfl, rfl, ?_⟩
        rw [e]
        unfold PutM.meas
        rw [if_neg (by show ¬ p.phase ≠ 0; omega)]
        dsimp only
        rw [if_neg q]
        split
        · omega
        · split <;> omega
    · rename_i q2
      split
      · rename_i q3
        refine ⟨⟨h.claim, h.tick, h.cc, h.tc, h.ph, h.most⟩, rfl, rfl, ?_⟩
        have e : p.meas = 2 := by unfold PutM.meas; rw [if_neg (by omega), if_neg q, if_neg q2, if_pos q3]
        have e2 : ({ p with stored := true } : PutM).meas = 1 := by unfold PutM.meas; rw [if_neg (by show ¬ p.phase ≠ 0; omega), if_neg q, if_neg q2, if_neg (show ¬ (true = false) by decide)]
        show ({ p with stored := true } : PutM).meas + 1 ≤ _
        omega
      · refine ⟨⟨h.claim, h.tick, h.cc, h.tc, .inr (.inl rfl), h.most⟩, rfl, rfl, ?_⟩
        rw [PutM.meas_zero (show (1 : Int) ≠ 0 by decide)]; omega
end Go.Proofs.YtegdhojhnmgjgaaGreat
/- How many steps of its own a Get still takes at most, if no word is turned meanwhile (the plain law of BoundOwns, BoundWindows). Plain lemmas on the model. -/
namespace Go.Proofs.YtegdhojhnmgjgaaGreat
open Classical
def slotJ (s : SnapM) (j : Int) : Int := (s.start + j) % s.conf.all
def okAtJ (s : SnapM) (m : MemM) (j : Int) : Prop := getI s.words (slotJ s j) = m.peek (slotJ s j)
def SnapM.freshW (s : SnapM) (m : MemM) : Prop := ∀ j : Int, 0 ≤ j → j < s.k → okAtJ s m j
def SnapM.oldW (s : SnapM) (m : MemM) : Prop := ∀ j : Int, s.k ≤ j → j < s.conf.all → okAtJ s m j
def SnapM.flagW (s : SnapM) : Bool := if s.k = 0 then decide (s.pass > 0) else s.same
def SnapM.goodW (s : SnapM) (m : MemM) : Prop := s.oldW m ∧ s.flagW = true
noncomputable def SnapM.left (s : SnapM) (m : MemM) : Int :=
  if s.freshW m then (if s.goodW m then (s.conf.all - s.k) + 5 else (s.conf.all - s.k) + s.conf.all + 5) else (s.conf.all - s.k) + 2 * s.conf.all + 10
noncomputable def TakeM.left (t : TakeM) (m : MemM) : Int :=
  if t.lost = true then 2 * t.conf.all + 6 else if t.steps ≥ 4 then 1 else if m.peek t.slot = t.word then 5 - t.steps else 5 - t.steps + 2 * t.conf.all + 5
noncomputable def GetM.left (g : GetM) (m : MemM) : Int := match g.take with | none => g.snap.left m | some t => t.left m
structure SnapM.rng (c : ConfM) (s : SnapM) : Prop where
  conf : s.conf = c
  k0 : 0 ≤ s.k
  k1 : s.k < c.all
  pass : 0 ≤ s.pass
  phase : s.phase = 0
  len : (s.words.length : Int) = c.all
structure TakeM.rng (c : ConfM) (t : TakeM) : Prop where
  conf : t.conf = c
  s0 : 0 ≤ t.slot
  s1 : t.slot < c.all
  st : 0 ≤ t.steps
  phase : t.phase = 0
structure GetM.rng (c : ConfM) (g : GetM) : Prop where
  conf : g.conf = c
  phase : g.phase = 0
  snap : g.take = none → g.snap.rng c
  take : ∀ t, g.take = some t → t.rng c
theorem slotJ_bd {c : ConfM} (hc : 1 ≤ c.all) {s : SnapM} (h : s.conf = c) (j : Int) : 0 ≤ slotJ s j ∧ slotJ s j < c.all := by
  unfold slotJ; rw [h]
  exact ⟨Int.emod_nonneg _ (by omega), Int.emod_lt_of_pos _ (by omega)⟩
theorem slotJ_inj {c : ConfM} (hc : 1 ≤ c.all) {s : SnapM} (h : s.conf = c) {i j : Int} (hi : 0 ≤ i ∧ i < c.all) (hj : 0 ≤ j ∧ j < c.all) (e : slotJ s i = slotJ s j) : i = j := by
  unfold slotJ at e
  rw [h] at e
  have hd : c.all ∣ (s.start + i) - (s.start + j) := Int.dvd_of_emod_eq_zero (Int.emod_eq_emod_iff_emod_sub_eq_zero.1 e)
  rw [show (s.start + i) - (s.start + j) = i - j by omega] at hd
  have := Int.eq_zero_of_dvd_of_natAbs_lt_natAbs hd (by omega)
  omega
/-- All words are as they were. -/
def sameW (c : ConfM) (m m' : MemM) : Prop := ∀ s, 0 ≤ s → s < c.all → m'.peek s = m.peek s
theorem okAtJ_same {c : ConfM} (hc : 1 ≤ c.all) {s : SnapM} (h : s.conf = c) {m m' : MemM} (e : sameW c m m') (j : Int) : okAtJ s m' j ↔ okAtJ s m j := by
  have hb := slotJ_bd hc h j
  unfold okAtJ
  rw [e _ hb.1 hb.2]
theorem SnapM.left_same {c : ConfM} (hc : 1 ≤ c.all) {s : SnapM} (h : s.conf = c) {m m' : MemM} (e : sameW c m m') : s.left m' = s.left m := by
  have h1 : s.freshW m' ↔ s.freshW m := by
    unfold SnapM.freshW
    exact forall_congr' fun j => by rw [okAtJ_same hc h e j]
  have h2 : s.goodW m' ↔ s.goodW m := by
    unfold SnapM.goodW SnapM.oldW
    rw [show (∀ j : Int, s.k ≤ j → j < s.conf.all → okAtJ s m' j) ↔ (∀ j : Int, s.k ≤ j → j < s.conf.all → okAtJ s m j) from forall_congr' fun j => by rw [okAtJ_same hc h e j]]
  unfold SnapM.left
  simp only [h1, h2]
theorem TakeM.left_same {c : ConfM} {t : TakeM} (h : t.rng c) {m m' : MemM} (e : sameW c m m') : t.left m' = t.left m := by
  unfold TakeM.left
  rw [e _ h.s0 h.s1]
theorem GetM.left_same {c : ConfM} (hc : 1 ≤ c.all) {g : GetM} (h : g.rng c) {m m' : MemM} (e : sameW c m m') : g.left m' = g.left m := by
  unfold GetM.left
  cases ht : g.take with
  | none => exact SnapM.left_same hc (h.snap ht).conf e
  | some t => exact TakeM.left_same (h.take t ht) e
theorem SnapM.left_bd {c : ConfM} (hc : 1 ≤ c.all) {s : SnapM} (h : s.rng c) (m : MemM) : 6 ≤ s.left m ∧ s.left m ≤ 4 * c.all + 10 := by
  have h0 := h.k0
  have h1 := h.k1
  have h2 := h.conf
  unfold SnapM.left
  rw [h2]
  split
  · split <;> omega
  · rename_i q
    have : 0 < s.k := by
      rcases Int.lt_or_le 0 s.k with z | z
      · exact z
      · exact (q fun j a b => by omega).elim
    omega
theorem TakeM.left_bd {c : ConfM} (hc : 1 ≤ c.all) {t : TakeM} (h : t.rng c) (m : MemM) : 1 ≤ t.left m ∧ t.left m ≤ 2 * c.all + 10 := by
  have h0 := h.st
  unfold TakeM.left
  rw [h.conf]
  (repeat' split) <;> omega
theorem GetM.left_bd {c : ConfM} (hc : 1 ≤ c.all) {g : GetM} (h : g.rng c) (m : MemM) : 1 ≤ g.left m ∧ g.left m ≤ 4 * c.all + 10 := by
  unfold GetM.left
  cases ht : g.take with
  | none =>
    have := SnapM.left_bd hc (h.snap ht) m
    show 1 ≤ g.snap.left m ∧ g.snap.left m ≤ _
    omega
  | some t =>
    have := TakeM.left_bd hc (h.take t ht) m
    show 1 ≤ t.left m ∧ t.left m ≤ _
    omega
theorem peek_congr {m m' : MemM} (e : m'.cells = m.cells) (s : Int) : m'.peek s = m.peek s := by
  obtain ⟨cs, lg⟩ := m
  obtain ⟨cs', lg'⟩ := m'
  obtain rfl : cs' = cs := e
  rfl
theorem load_sameW {c : ConfM} {m : MemM} (w cell : Int) : sameW c m (m.touch w 0 cell 0 0) := by
  intro s _ _
  have e : (m.touch w 0 cell 0 0).cells = m.cells := by
    by_cases h : m.has cell
    · exact load_same h
    · unfold MemM.touch; rw [if_neg h]
  exact peek_congr e s
theorem other_sameW {c : ConfM} {m : MemM} {w op cell old next : Int} (h : c.all ≤ cell) : sameW c m (m.touch w op cell old next) := by
  intro s s0 s1
  by_cases q : m.has cell
  · have e := (touch_in' (w := w) (op := op) (old := old) (next := next) q).1
    have hh : (m.touch w op cell old next).has s ↔ m.has s := by unfold MemM.has; rw [e, setI_len]
    unfold MemM.peek
    by_cases hs : m.has s
    · rw [if_pos hs, if_pos (hh.2 hs), e, getI_setI_ne _ _ _ _ q.1 s0 (by omega)]
    · rw [if_neg hs, if_neg (fun z => hs (hh.1 z))]
  · unfold MemM.touch; rw [if_neg q]
/-- A step of a snap brings its Get nearer to its end. -/
theorem snap_left {c : ConfM} (hc : 1 ≤ c.all) {s : SnapM} (h : s.rng c) (m : MemM) :
    ((s.step m).1.phase = 0 → (s.step m).1.rng c ∧ (s.step m).1.left (s.step m).2 + 1 ≤ s.left m) ∧
    ((s.step m).1.phase ≠ 0 → (s.step m).1.phase = 1 ∧ ((s.step m).1.words.length : Int) = c.all ∧ 6 ≤ s.left m ∧ ((∀ i, 0 ≤ i → i < c.all → getI (s.step m).1.words i = (s.step m).2.peek i) ∨ 2 * c.all + 11 ≤ s.left m)) := by
  have hcf := h.conf
  have h0 := h.k0
  have h1 := h.k1
  have hb := slotJ_bd hc hcf s.k
  have hlen := h.len
  have hsl : s.slot = slotJ s s.k := rfl
  have hsm := load_sameW (c := c) (m := m) s.who s.slot
  have hbd := SnapM.left_bd hc h m
  unfold SnapM.step
  rw [if_neg (by have := h.phase; omega)]
  dsimp only
  rw [show (if s.k = 0 then decide (s.pass > 0) else s.same) = s.flagW from rfl]
  -- what was read
  have hread : ∀ j : Int, 0 ≤ j → j < c.all → getI (setI s.words s.slot (m.peek s.slot)) (slotJ s j) = if j = s.k then m.peek (slotJ s j) else getI s.words (slotJ s j) := by
    intro j j0 j1
    have hj := slotJ_bd hc hcf j
    by_cases e : j = s.k
    · subst e
      rw [if_pos rfl, hsl, getI_setI_of _ _ _ hb.1 (by omega)]
    · rw [if_neg e, hsl, getI_setI_ne _ _ _ _ hb.1 hj.1 (fun q => e (slotJ_inj hc hcf ⟨j0, j1⟩ ⟨h0, h1⟩ q))]
  by_cases hk' : s.k + 1 < s.conf.all
  · rw [if_pos hk']
    have hk : s.k + 1 < c.all := by rw [← hcf]; exact hk'
    dsimp only
    refine ⟨fun _ => ⟨⟨hcf, by show 0 ≤ s.k + 1; omega, hk, h.pass, h.phase, by show ((setI _ _ _).length : Int) = _; rw [setI_len]; exact hlen⟩, ?_⟩, fun q => absurd h.phase q⟩
    rw [SnapM.left_same hc (by exact hcf) hsm]
    have ef : (⟨s.conf, s.who, s.start, s.k + 1, s.pass, s.flagW && decide (m.peek s.slot = getI s.words s.slot), setI s.words s.slot (m.peek s.slot), s.phase⟩ : SnapM).freshW m ↔ s.freshW m := by
      unfold SnapM.freshW okAtJ
      constructor
      · intro z j j0 j1
        have := z j j0 (by show j < s.k + 1; omega)
        have e2 := hread j j0 (by omega)
        rw [if_neg (by omega)] at e2
        rw [← e2]; exact this
      · intro z j j0 j1
        have j1' : j < s.k + 1 := j1
        have e2 := hread j j0 (by omega)
        show getI (setI s.words s.slot (m.peek s.slot)) (slotJ s j) = m.peek (slotJ s j)
        rw [e2]
        split
        · rfl
        · exact z j j0 (by omega)
    have eg : (⟨s.conf, s.who, s.start, s.k + 1, s.pass, s.flagW && decide (m.peek s.slot = getI s.words s.slot), setI s.words s.slot (m.peek s.slot), s.phase⟩ : SnapM).goodW m ↔ s.goodW m := by
      unfold SnapM.goodW SnapM.oldW okAtJ
      have hfl : (⟨s.conf, s.who, s.start, s.k + 1, s.pass, s.flagW && decide (m.peek s.slot = getI s.words s.slot), setI s.words s.slot (m.peek s.slot), s.phase⟩ : SnapM).flagW = (s.flagW && decide (m.peek s.slot = getI s.words s.slot)) := by
        unfold SnapM.flagW
        exact if_neg (by show ¬ s.k + 1 = 0; omega)
      rw [hfl, Bool.and_eq_true, decide_eq_true_eq]
      constructor
      · rintro ⟨z, z1, z2⟩
        refine ⟨fun j j0 j1 => ?_, z1⟩
        have j1c : j < c.all := by rw [← hcf]; exact j1
        by_cases e : j = s.k
        · subst e; exact z2.symm
        · have := z j (by show s.k + 1 ≤ j; omega) j1
          have e2 := hread j (by omega) j1c
          rw [if_neg e] at e2
          rw [← e2]; exact this
      · rintro ⟨z, z1⟩
        refine ⟨fun j j0 j1 => ?_, z1, (z s.k (Int.le_refl _) (by rw [hcf]; exact h1)).symm⟩
        have j0' : s.k + 1 ≤ j := j0
        have j1c : j < c.all := by rw [← hcf]; exact j1
        have e2 := hread j (by omega) j1c
        show getI (setI s.words s.slot (m.peek s.slot)) (slotJ s j) = m.peek (slotJ s j)
        rw [e2, if_neg (by omega)]
        exact z j (by omega) j1
    unfold SnapM.left
    simp only [ef, eg]
    rw [hcf]
    (repeat' split) <;> omega
  · rw [if_neg hk']
    have hk : ¬ s.k + 1 < c.all := by rw [← hcf]; exact hk'
    dsimp only
    have hkl : s.k = c.all - 1 := by omega
    have hall : s.freshW m → ∀ i, 0 ≤ i → i < c.all → getI (setI s.words s.slot (m.peek s.slot)) i = m.peek i := by
      intro hf i i0 i1
      -- i is the place of some j
      have hj : ∃ j, 0 ≤ j ∧ j < c.all ∧ slotJ s j = i := by
        refine ⟨(i - s.start) % c.all, Int.emod_nonneg _ (by omega), Int.emod_lt_of_pos _ (by omega), ?_⟩
        unfold slotJ
        rw [hcf, Int.add_emod_emod, show s.start + (i - s.start) = i by omega]
        exact Int.emod_eq_of_lt i0 i1
      obtain ⟨j, j0, j1, rfl⟩ := hj
      rw [hread j j0 j1]
      split
      · rfl
      · exact hf j j0 (by omega)
    have hpk : ∀ i, 0 ≤ i → i < c.all → (m.touch s.who 0 s.slot 0 0).peek i = m.peek i := hsm
    by_cases hs : (s.flagW && decide (m.peek s.slot = getI s.words s.slot)) = true
    · rw [if_pos hs]
      refine ⟨fun q => (by cases q), fun _ => ⟨rfl, by show ((setI _ _ _).length : Int) = _; rw [setI_len]; exact hlen, hbd.1, ?_⟩⟩
      by_cases hf : s.freshW m
      · exact .inl fun i i0 i1 => by rw [hpk i i0 i1]; exact hall hf i i0 i1
      · right
        unfold SnapM.left
        rw [if_neg hf, hcf]; omega
    · rw [if_neg hs]
      refine ⟨fun _ => ⟨⟨hcf, Int.le_refl _, by show (0 : Int) < c.all; omega, by have := h.pass; show 0 ≤ s.pass + 1; omega, rfl, by show ((setI _ _ _).length : Int) = _; rw [setI_len]; exact hlen⟩, ?_⟩, fun q => absurd rfl q⟩
      rw [SnapM.left_same hc (by exact hcf) hsm]
      have e0 : (⟨s.conf, s.who, s.start, 0, s.pass + 1, s.flagW && decide (m.peek s.slot = getI s.words s.slot), setI s.words s.slot (m.peek s.slot), 0⟩ : SnapM).freshW m := fun j j0 j1 => by
        have j1' : j < 0 := j1
        omega
      unfold SnapM.left
      rw [if_pos e0]
      by_cases hf : s.freshW m
      · rw [if_pos hf]
        have hg : (⟨s.conf, s.who, s.start, 0, s.pass + 1, s.flagW && decide (m.peek s.slot = getI s.words s.slot), setI s.words s.slot (m.peek s.slot), 0⟩ : SnapM).goodW m := by
          refine ⟨fun j j0 j1 => ?_, ?_⟩
          · have hj := slotJ_bd hc hcf j
            exact hall hf _ hj.1 hj.2
          · unfold SnapM.flagW
            rw [if_pos rfl]
            have := h.pass
            simp; omega
        have hng : ¬ s.goodW m := by
          rintro ⟨z1, z2⟩
          apply hs
          rw [z2, Bool.true_and, decide_eq_true_eq]
          exact (z1 s.k (Int.le_refl _) (by rw [hcf]; exact h1)).symm
        rw [if_pos hg, if_neg hng]
        show s.conf.all - 0 + 5 + 1 ≤ _
        rw [hcf]; omega
      · rw [if_neg hf]
        split
        · show s.conf.all - 0 + 5 + 1 ≤ _
          rw [hcf]; omega
        · show s.conf.all - 0 + s.conf.all + 5 + 1 ≤ _
          rw [hcf]; omega
/-- A step of a take. -/
theorem take_left {c : ConfM} (hc : 1 ≤ c.all) {t : TakeM} (h : t.rng c) (m : MemM) (hcl : (m.cells.length : Int) = c.cells) (hth : 1 ≤ c.th) (hw : 0 ≤ t.who ∧ t.who < c.th) :
    ((t.step m).1.phase = 0 → (t.step m).1.rng c ∧ (t.step m).1.left (t.step m).2 + 1 ≤ t.left m) ∧ ((t.step m).1.phase = 2 → 2 * c.all + 6 ≤ t.left m) ∧ ((t.step m).1.phase = 0 ∨ (t.step m).1.phase = 1 ∨ (t.step m).1.phase = 2) := by
  have hcf := h.conf
  have hst := h.st
  have hp := h.phase
  have hhas : m.has t.slot := ⟨h.s0, by have := h.s1; rw [hcl]; unfold ConfM.cells; omega⟩
  have hoth : ∀ op old next, sameW c m (m.touch t.who op (t.conf.hazard t.who) old next) := fun op old next => other_sameW (by rw [hcf]; unfold ConfM.hazard; omega)
  have hval : ∀ op old next, sameW c m (m.touch t.who op (t.conf.value t.slot) old next) := fun op old next => other_sameW (by have := h.s0; rw [hcf]; unfold ConfM.value; omega)
  unfold TakeM.step
  rw [if_neg (by omega)]
  by_cases hl : t.lost = true
  · rw [if_pos hl]
    unfold TakeM.fin
    dsimp only
    rw [if_pos hl]
    exact ⟨fun q => (by cases q), fun _ => by unfold TakeM.left; rw [if_pos hl, hcf]; omega, .inr (.inr rfl)⟩
  · rw [if_neg hl]
    have hl' : t.lost = false := by simpa using hl
    have e0 : t.left m = if t.steps ≥ 4 then 1 else if m.peek t.slot = t.word then 5 - t.steps else 5 - t.steps + 2 * c.all + 5 := by unfold TakeM.left; rw [if_neg hl, hcf]
    dsimp only
    by_cases q0 : t.steps = 0
    · rw [if_pos q0]
      dsimp only
      refine ⟨fun _ => ⟨⟨hcf, h.s0, h.s1, by show 0 ≤ t.steps + 1; omega, hp⟩, ?_⟩, fun q => (by have q' : t.phase = 2 := q; omega), .inl hp⟩
      rw [TakeM.left_same (c := c) (t := ⟨t.conf, t.who, t.slot, t.word, t.steps + 1, t.lost, t.value, t.phase⟩) ⟨hcf, h.s0, h.s1, by show 0 ≤ t.steps + 1; omega, hp⟩ (hoth _ _ _), e0]
      unfold TakeM.left
      rw [if_neg hl, hcf]
      dsimp only
      (repeat' split) <;> omega
    · rw [if_neg q0]
      by_cases q1 : t.steps = 1
      · rw [if_pos q1]
        dsimp only
        refine ⟨fun _ => ⟨⟨hcf, h.s0, h.s1, by show 0 ≤ t.steps + 1; omega, hp⟩, ?_⟩, fun q => (by have q' : t.phase = 2 := q; omega), .inl hp⟩
        rw [TakeM.left_same (c := c) (t := ⟨t.conf, t.who, t.slot, t.word, t.steps + 1, !decide (m.peek t.slot = t.word), t.value, t.phase⟩) ⟨hcf, h.s0, h.s1, by show 0 ≤ t.steps + 1; omega, hp⟩ (load_sameW _ _), e0]
        unfold TakeM.left
        rw [hcf]
        dsimp only
        by_cases z : m.peek t.slot = t.word
        · simp only [z, decide_true, Bool.not_true, Bool.false_eq_true, if_false, if_true]
          (repeat' split) <;> omega
        · simp only [z, decide_false, Bool.not_false, if_true, if_false]
          (repeat' split) <;> omega
      · rw [if_neg q1]
        by_cases q2 : t.steps = 2
        · rw [if_pos q2]
          dsimp only
          refine ⟨fun _ => ⟨⟨hcf, h.s0, h.s1, by show 0 ≤ t.steps + 1; omega, hp⟩, ?_⟩, fun q => (by have q' : t.phase = 2 := q; omega), .inl hp⟩
          rw [TakeM.left_same (c := c) (t := ⟨t.conf, t.who, t.slot, t.word, t.steps + 1, t.lost, m.peek (t.conf.value t.slot), t.phase⟩) ⟨hcf, h.s0, h.s1, by show 0 ≤ t.steps + 1; omega, hp⟩ (load_sameW _ _), e0]
          unfold TakeM.left
          rw [if_neg hl, hcf]
          dsimp only
          (repeat' split) <;> omega
        · rw [if_neg q2]
          by_cases q3 : t.steps = 3
          · rw [if_pos q3]
            dsimp only
            refine ⟨fun _ => ⟨⟨hcf, h.s0, h.s1, by show 0 ≤ t.steps + 1; omega, hp⟩, ?_⟩, fun q => (by have q' : t.phase = 2 := q; omega), .inl hp⟩
            rw [e0]
            unfold TakeM.left
            rw [hcf]
            dsimp only
            have hpk : m.peek t.slot = getI m.cells t.slot := by unfold MemM.peek; rw [if_pos hhas]
            have hok : m.okOf 2 t.slot t.word = decide (m.peek t.slot = t.word) := by unfold MemM.okOf; rw [if_pos hhas, hpk]; rfl
            rw [hok]
            by_cases z : m.peek t.slot = t.word
            · simp only [z, decide_true, Bool.not_true, Bool.false_eq_true, if_false, if_true]
              (repeat' split) <;> omega
            · simp only [z, decide_false, Bool.not_false, if_true, if_false]
              (repeat' split) <;> omega
          · rw [if_neg q3]
            unfold TakeM.fin
            dsimp only
            rw [if_neg hl]
            exact ⟨fun q => (by cases q), fun q => (by cases q), .inr (.inl rfl)⟩
theorem take_new_left (c : ConfM) (w : Int) {slot word : Int} {m : MemM} (e : m.peek slot = word) : (TakeM.new c w slot word).left m = 5 := by
  unfold TakeM.left TakeM.new
  simp [e]
/-- A step of a Get brings it nearer to its end. -/
theorem get_left {c : ConfM} (hc : c.ok) {g : GetM} (h : g.rng c) {w : Int} (ho : g.own c w) (hw : 0 ≤ w ∧ w < c.th) (m : MemM) (hcl : (m.cells.length : Int) = c.cells) (hp : (g.step m).1.phase = 0) :
    (g.step m).1.rng c ∧ (g.step m).1.left (g.step m).2 + 1 ≤ g.left m := by
  have hal := hc.all_bd
  have hth := hc.th1
  unfold GetM.step at hp ⊢
  rw [if_neg (by have := h.phase; omega)] at hp ⊢
  cases ht : g.take with
  | none =>
    rw [ht] at hp
    dsimp only at hp ⊢
    have hs := snap_left (by omega) (h.snap ht) m
    have e0 : g.left m = g.snap.left m := by unfold GetM.left; rw [ht]
    rw [e0]
    by_cases z : (g.snap.step m).1.phase = 1
    · rw [if_pos z] at hp ⊢
      obtain ⟨_, hl, h6, hor⟩ := hs.2 (by omega)
      unfold GetM.chosen at hp ⊢
      dsimp only at hp ⊢
      by_cases q : atM (g.snap.step m).1.words g.fin < 0
      · rw [if_pos q] at hp; cases hp
      · rw [if_neg q] at hp ⊢
        rcases atM_range (g.snap.step m).1.words g.fin with ⟨_, e⟩ | ⟨_, r1, r2, r3⟩
        · omega
        · have hr : (TakeM.new g.conf g.who (atM (g.snap.step m).1.words g.fin) (getI (g.snap.step m).1.words (atM (g.snap.step m).1.words g.fin))).rng c := ⟨h.conf, r1, by show atM _ _ < c.all; omega, Int.le_refl _, rfl⟩
          refine ⟨⟨h.conf, h.phase, fun q => (by cases q), fun t q => ?_⟩, ?_⟩
          · simp only [Option.some.injEq] at q
            subst q
            exact hr
          · show (TakeM.new g.conf g.who _ _).left _ + 1 ≤ _
            rcases hor with hor | hor
            · have := take_new_left g.conf g.who (hor _ r1 (by omega)).symm
              omega
            · have := TakeM.left_bd (by omega) hr (g.snap.step m).2
              omega
    · rw [if_neg z] at hp ⊢
      by_cases z0 : (g.snap.step m).1.phase = 0
      · obtain ⟨a, b⟩ := hs.1 z0
        exact ⟨⟨h.conf, h.phase, fun _ => a, fun t q => (by cases q)⟩, b⟩
      · exact absurd (hs.2 z0).1 z
  | some t =>
    rw [ht] at hp
    dsimp only at hp ⊢
    have htr := h.take t ht
    have hot := ho.take t ht
    obtain ⟨k1, k2, k3⟩ := take_left (by omega) htr m hcl hth (by rw [hot.who]; exact hw)
    have e0 : g.left m = t.left m := by unfold GetM.left; rw [ht]
    rw [e0]
    by_cases z1 : (t.step m).1.phase = 1
    · rw [if_pos z1] at hp; cases hp
    · rw [if_neg z1] at hp ⊢
      by_cases z2 : (t.step m).1.phase = 2
      · rw [if_pos z2] at hp ⊢
        have hr : (SnapM.new g.conf g.who g.start).rng c := by
          refine ⟨h.conf, Int.le_refl _, by show (0 : Int) < c.all; omega, Int.le_refl _, rfl, ?_⟩
          show ((List.replicate g.conf.all.toNat (0 : Int)).length : Int) = _
          rw [List.length_replicate, h.conf]; omega
        refine ⟨⟨h.conf, h.phase, fun _ => hr, fun t q => (by cases q)⟩, ?_⟩
        have := k2 z2
        show (SnapM.new g.conf g.who g.start).left _ + 1 ≤ _
        have hx : (SnapM.new g.conf g.who g.start).left (t.step m).2 ≤ 2 * c.all + 5 := by
          have e1 : (SnapM.new g.conf g.who g.start).freshW (t.step m).2 := fun j j0 j1 => by
            have j1' : j < 0 := j1
            omega
          unfold SnapM.left
          rw [if_pos e1]
          split
          · show g.conf.all - 0 + 5 ≤ _
            rw [h.conf]; omega
          · show g.conf.all - 0 + g.conf.all + 5 ≤ _
            rw [h.conf]; omega
        omega
      · rw [if_neg z2] at hp ⊢
        have z0 : (t.step m).1.phase = 0 := by omega
        obtain ⟨a, b⟩ := k1 z0
        refine ⟨⟨h.conf, h.phase, fun q => (by cases q), fun u q => ?_⟩, b⟩
        simp only [Option.some.injEq] at q
        subst q
        exact a
theorem GetM.new_rng {c : ConfM} (hc : c.ok) (w fin start : Int) : (GetM.new c w fin start).rng c := by
  have := hc.all_bd
  refine ⟨rfl, rfl, fun _ => ⟨rfl, Int.le_refl _, by show (0 : Int) < c.all; omega, Int.le_refl _, rfl, ?_⟩, fun t q => (by cases q)⟩
  show ((List.replicate c.all.toNat (0 : Int)).length : Int) = _
  rw [List.length_replicate]; omega
end Go.Proofs.YtegdhojhnmgjgaaGreat
/- How many steps a call still takes, whatever others do meanwhile; what a step turns (the plain law of BoundOwns, BoundWindows, WholeWindow). Plain lemmas on the model. -/
namespace Go.Proofs.YtegdhojhnmgjgaaGreat
/-! ### One call -/
noncomputable def WorkM.pot (m : MemM) : WorkM → Int
  | .put p => p.meas
  | .get g => g.left m
def WorkM.lim (c : ConfM) (n : Int) : WorkM → Int
  | .put _ => PutM.most c
  | .get _ => (n + 1) * (4 * c.all + 10)
def WorkM.good (c : ConfM) (w : Int) : WorkM → Prop
  | .put p => p.inv ∧ p.own c w ∧ p.phase = 0
  | .get g => g.rng c ∧ g.own c w
/-- A Get that has turned a word: its next step ends it. -/
def WorkM.hit : WorkM → Prop
  | .put _ => False
  | .get g => ∃ t, g.take = some t ∧ 4 ≤ t.steps ∧ t.lost = false
/-- Does an event turn a word? -/
def turnB (c : ConfM) (e : Ev) : Bool := decide (0 ≤ e.cell) && decide (e.cell < c.all) && (decide (e.op = 1) || (decide (e.op = 2) && e.ok))
/-- What a step does to the words: nothing, or its event turns one. -/
structure Turns (c : ConfM) (m m' : MemM) (fin : Prop) : Prop where
  or : sameW c m m' ∨ (∃ e, m'.log = m.log ++ [e] ∧ turnB c e = true) ∧ fin
theorem Turns.same {c : ConfM} {m m' : MemM} {fin : Prop} (h : sameW c m m') : Turns c m m' fin := ⟨.inl h⟩
theorem sameW_refl (c : ConfM) (m : MemM) : sameW c m m := fun _ _ _ => rfl
theorem WorkM.pot_pos {c : ConfM} (hc : 1 ≤ c.all) {w : Int} {x : WorkM} (h : x.good c w) (m : MemM) : 1 ≤ x.pot m := by
  cases x with
  | put p => exact PutM.meas_pos h.1 h.2.2
  | get g => exact (GetM.left_bd hc h.1 m).1
theorem WorkM.pot_same {c : ConfM} (hc : 1 ≤ c.all) {w : Int} {x : WorkM} (h : x.good c w) {m m' : MemM} (e : sameW c m m') : x.pot m' = x.pot m := by
  cases x with
  | put p => rfl
  | get g => exact GetM.left_same hc h.1 e
/-- Whatever is turned. -/
theorem WorkM.pot_turn {c : ConfM} (hc : 1 ≤ c.all) {w : Int} {x : WorkM} (h : x.good c w) {m m' : MemM} {o n : Int} (hn : 0 ≤ n) (hk : o + x.pot m ≤ x.lim c n) : o + x.pot m' ≤ x.lim c (n + 1) := by
  cases x with
  | put p => exact hk
  | get g =>
    have h1 := GetM.left_bd hc h.1 m
    have h2 := GetM.left_bd hc h.1 m'
    have hk' : o + g.left m ≤ (n + 1) * (4 * c.all + 10) := hk
    show o + g.left m' ≤ (n + 1 + 1) * (4 * c.all + 10)
    have e : (n + 1 + 1) * (4 * c.all + 10) = (n + 1) * (4 * c.all + 10) + (4 * c.all + 10) := by rw [Int.add_mul (n + 1), Int.one_mul]
    rw [e]
    omega
theorem WorkM.lim_mono {c : ConfM} (hc : 1 ≤ c.all) (x : WorkM) {n k : Int} (h : n ≤ k) : x.lim c n ≤ x.lim c k := by
  cases x with
  | put p => exact Int.le_refl _
  | get g => exact Int.mul_le_mul_of_nonneg_right (by omega) (by omega)
theorem TaskM.new_good {c : ConfM} (hc : c.ok) (w : Int) (k : CallM) : (TaskM.new c w k).work.good c w := by
  have ho := TaskM.new_own c w k
  unfold TaskM.new at ho ⊢
  dsimp only at ho ⊢
  split
  · rename_i q
    rw [if_pos q] at ho
    exact ⟨PutM.new_inv hc.th1 hc.sl1 hc.dl1 _ _ _, ho, rfl⟩
  · rename_i q
    rw [if_neg q] at ho
    exact ⟨GetM.new_rng hc _ _ _, ho⟩
theorem TaskM.new_pot {c : ConfM} (hc : c.ok) (w : Int) (k : CallM) (m : MemM) : (TaskM.new c w k).work.pot m ≤ (TaskM.new c w k).work.lim c 0 := by
  have hg := TaskM.new_good hc w k
  have hal := hc.all_bd
  unfold TaskM.new at hg ⊢
  dsimp only at hg ⊢
  split
  · exact Int.le_of_eq (PutM.new_meas c w k.fin k.value)
  · rename_i q
    rw [if_neg q] at hg
    have := GetM.left_bd (by omega) hg.1 m
    show (GetM.new c w k.fin k.start).left m ≤ (0 + 1) * (4 * c.all + 10)
    omega
theorem loadT {c : ConfM} {m : MemM} {w cell : Int} {fin : Prop} : Turns c m (m.touch w 0 cell 0 0) fin := .same (load_sameW w cell)
theorem otherT {c : ConfM} {m : MemM} {w op cell old next : Int} {fin : Prop} (h : c.all ≤ cell) : Turns c m (m.touch w op cell old next) fin := .same (other_sameW h)
theorem tick_turns {c : ConfM} (hc : c.ok) {t : TickM} {w : Int} (ho : t.own c w) (hw : 0 ≤ w) (hs : 0 ≤ t.steps) (m : MemM) (now : Int) {fin : Prop} : Turns c m (t.step m now).2 fin := by
  have hal := hc.all_bd
  have hth := hc.th1
  have hcf := ho.conf
  have hwho := ho.who
  have hn : ∀ n : Int, 0 ≤ n → c.all ≤ t.conf.number n := fun n h => by rw [hcf]; unfold ConfM.number; omega
  unfold TickM.step
  split
  · exact .same (sameW_refl c m)
  · dsimp only
    split
    · exact otherT (hn 0 (Int.le_refl _))
    · split
      · unfold TickM.stutter TickM.load
        split
        · exact loadT
        · dsimp only
          split
          · exact otherT (hn _ (by omega))
          · exact .same (sameW_refl c m)
      · split
        · unfold TickM.swap TickM.load
          (repeat' split) <;> first | exact loadT | exact otherT (hn 0 (Int.le_refl _)) | exact .same (sameW_refl c m)
        · split
          · split
            · exact .same (sameW_refl c m)
            · exact .same (sameW_refl c m)
          · exact .same (sameW_refl c m)
theorem claim_turns {c : ConfM} (t : ClaimM) (m : MemM) {fin : Prop} : Turns c m (t.step m).2 fin := by
  unfold ClaimM.step ClaimM.look
  (repeat' split) <;> first | exact loadT | exact .same (sameW_refl c m)
theorem store_turns {c : ConfM} {m : MemM} {w s x : Int} {fin : Prop} (h0 : 0 ≤ s) (h1 : s < c.all) (hf : fin) : Turns c m (m.touch w 1 s 0 x) fin := by
  by_cases h : m.has s
  · refine ⟨.inr ⟨⟨_, (touch_in' h).2, ?_⟩, hf⟩⟩
    simp [turnB, evT, h0, h1]
  · refine .same ?_
    unfold MemM.touch
    rw [if_neg h]
    exact sameW_refl c m
theorem swap_turns {c : ConfM} {m : MemM} {w s a x : Int} {fin : Prop} (h0 : 0 ≤ s) (h1 : s < c.all) (hf : m.okOf 2 s a = true → fin) : Turns c m (m.touch w 2 s a x) fin := by
  by_cases h : m.has s
  · by_cases e : getI m.cells s = a
    · refine ⟨.inr ⟨⟨_, (touch_in' h).2, ?_⟩, hf ?_⟩⟩
      · simp [turnB, evT, h0, h1, opOk, e]
      · unfold MemM.okOf
        rw [if_pos h]
        simp [opOk, e]
    · refine .same fun i i0 i1 => peek_congr ?_ i
      rw [(touch_in' h).1]
      unfold opNew
      rw [if_neg (by decide), if_pos rfl, if_neg e]
      exact setI_self _ _
  · refine .same ?_
    unfold MemM.touch
    rw [if_neg h]
    exact sameW_refl c m
theorem snap_turns {c : ConfM} (s : SnapM) (m : MemM) {fin : Prop} : Turns c m (s.step m).2 fin := by
  unfold SnapM.step
  split
  · exact .same (sameW_refl c m)
  · exact loadT
theorem take_turns {c : ConfM} (hc : c.ok) {t : TakeM} {w : Int} (ho : t.own c w) (hw : 0 ≤ w) (h : t.rng c) (m : MemM) : Turns c m (t.step m).2 ((t.step m).1.phase = 0 ∧ 4 ≤ (t.step m).1.steps ∧ (t.step m).1.lost = false) := by
  have hal := hc.all_bd
  have hcf := ho.conf
  have hwho := ho.who
  have hp := h.phase
  have hz : c.all ≤ t.conf.hazard t.who := by rw [hcf, hwho]; unfold ConfM.hazard; omega
  unfold TakeM.step
  rw [if_neg (by omega)]
  by_cases hl : t.lost = true
  · rw [if_pos hl]
    exact otherT hz
  · rw [if_neg hl]
    dsimp only
    by_cases q0 : t.steps = 0
    · rw [if_pos q0]; exact otherT hz
    · rw [if_neg q0]
      by_cases q1 : t.steps = 1
      · rw [if_pos q1]; exact loadT
      · rw [if_neg q1]
        by_cases q2 : t.steps = 2
        · rw [if_pos q2]; exact loadT
        · rw [if_neg q2]
          by_cases q3 : t.steps = 3
          · rw [if_pos q3]
            refine swap_turns h.s0 h.s1 fun q => ⟨hp, by show 4 ≤ t.steps + 1; omega, ?_⟩
            show (!m.okOf 2 t.slot t.word) = false
            rw [q]; rfl
          · rw [if_neg q3]; exact otherT hz
/-- A step of a call: what it turns, and how much nearer to its end it is. -/
structure Stepd (c : ConfM) (w : Int) (x : WorkM) (m : MemM) (r : TaskM × MemM) : Prop where
  turns : Turns c m r.2 (r.1.work.phase = 0 → r.1.work.hit)
  go : r.1.work.phase = 0 → r.1.work.good c w ∧ r.1.work.pot r.2 + 1 ≤ x.pot m ∧ ∀ n, r.1.work.lim c n = x.lim c n
  hit : x.hit → r.1.work.phase ≠ 0
theorem TaskM.stepd {c : ConfM} (hc : c.ok) {t : TaskM} {w : Int} (h : t.work.good c w) (hw : 0 ≤ w ∧ w < c.th) (m : MemM) (hcl : (m.cells.length : Int) = c.cells) (now : Int) : Stepd c w t.work m (t.step m now) := by
  have hal := hc.all_bd
  obtain ⟨k, x⟩ := t
  cases x with
  | put p =>
    obtain ⟨hi, ho, hp⟩ := h
    have f := PutM.step_fell (m := m) (now := now) hi hp
    have fo := PutM.step_own ho m now
    refine ⟨?_, fun q => ⟨⟨f.inv, fo.1, q⟩, f.meas, fun n => rfl⟩, fun q => q.elim⟩
    show Turns c m (p.step m now).2 ((p.step m now).1.phase = 0 → False)
    unfold PutM.step
    rw [if_neg (by omega)]
    split
    · exact claim_turns _ _
    · split
      · exact tick_turns hc ho.tick hw.1 hi.tick.s0 _ _
      · split
        · have hk := hi.claim.k0
          have e : p.claim.slot = c.first w + p.claim.k := by unfold ClaimM.slot; rw [ho.claim.conf, ho.claim.who]
          have h0 := (hc.first_bd hw.1 hw.2).1
          exact otherT (by rw [ho.conf, e]; unfold ConfM.value; omega)
        · have hk := hi.claim.k0
          have hk1 := hi.claim.k1
          have e : p.claim.slot = c.first w + p.claim.k := by unfold ClaimM.slot; rw [ho.claim.conf, ho.claim.who]
          have h0 := hc.first_bd hw.1 hw.2
          rw [ho.claim.conf] at hk1
          exact store_turns (by omega) (by omega) (fun q => by cases q)
  | get g =>
    obtain ⟨hr, ho⟩ := h
    have fo := GetM.step_own ho m
    refine ⟨?_, fun q => ?_, fun q => ?_⟩
    · show Turns c m (g.step m).2 ((g.step m).1.phase = 0 → ∃ t, (g.step m).1.take = some t ∧ 4 ≤ t.steps ∧ t.lost = false)
      cases ht : g.take with
      | none =>
        have e : (g.step m).2 = (g.snap.step m).2 := by unfold GetM.step; rw [if_neg (by have := hr.phase; omega), ht]
        rw [e]; exact snap_turns _ _
      | some t =>
        have k := take_turns hc (ho.take t ht) hw.1 (hr.take t ht) m
        unfold GetM.step
        rw [if_neg (by have := hr.phase; omega), ht]
        dsimp only
        rcases k.or with k | ⟨k, k0, k4, kl⟩
        · exact .same k
        · refine ⟨.inr ⟨k, fun _ => ?_⟩⟩
          rw [if_neg (by omega), if_neg (by omega)]
          exact ⟨_, rfl, k4, kl⟩
    · have q' : (g.step m).1.phase = 0 := q
      have k := get_left hc hr ho hw m hcl q'
      exact ⟨⟨k.1, fo.1⟩, k.2, fun n => rfl⟩
    · obtain ⟨t, ht, h4, hl⟩ := q
      show (g.step m).1.phase ≠ 0
      have e : t.step m = ({ t with steps := t.steps + 1, phase := 1 }, (t.fin m).2) := by
        unfold TakeM.step
        rw [if_neg (by have := (hr.take t ht).phase; omega), if_neg (by rw [hl]; decide)]
        dsimp only
        rw [if_neg (by omega), if_neg (by omega), if_neg (by omega), if_neg (by omega)]
        unfold TakeM.fin
        rw [hl]; rfl
      unfold GetM.step
      rw [if_neg (by have := hr.phase; omega), ht]
      dsimp only
      rw [e]
      dsimp only
      rw [if_pos rfl]
      show ¬ (1 : Int) = 0
      decide
end Go.Proofs.YtegdhojhnmgjgaaGreat
/- How often calls come to their ends, and how many steps of its own a call takes, whoever steps (the plain law of BoundOwns, BoundWindows, WholeWindow). Plain lemmas on the model. -/
namespace Go.Proofs.YtegdhojhnmgjgaaGreat
theorem PutM.meas_le {p : PutM} (h : p.inv) : p.meas ≤ PutM.most p.conf := by
  have h1 := h.claim.k0
  have h2 := h.claim.k1
  have h3 := h.claim.th
  have h4 := h.tick.s0
  have h5 := h.most
  have hcc := h.cc
  rw [hcc] at h2 h3
  have h6 : 0 ≤ (p.conf.sl - 1) * (p.conf.th + 1) := Int.mul_nonneg (by omega) (by omega)
  have h7 : (p.conf.sl - 1 - p.claim.k) * (p.conf.th + 1) ≤ (p.conf.sl - 1) * (p.conf.th + 1) := Int.mul_le_mul_of_nonneg_right (by omega) (by omega)
  have e : p.conf.sl * (p.conf.th + 1) = (p.conf.sl - 1) * (p.conf.th + 1) + (p.conf.th + 1) := by rw [Int.sub_mul, Int.one_mul]; omega
  unfold PutM.meas PutM.most ClaimM.meas
  rw [hcc, e]
  generalize (p.conf.sl - 1) * (p.conf.th + 1) = A at *
  generalize (p.conf.sl - 1 - p.claim.k) * (p.conf.th + 1) = B at *
  (repeat' split) <;> omega
theorem WorkM.pot_le {c : ConfM} (hc : 1 ≤ c.all) {w : Int} {x : WorkM} (h : x.good c w) (m : MemM) : x.pot m ≤ x.lim c 0 := by
  cases x with
  | put p =>
    have := PutM.meas_le h.1
    rw [h.2.1.conf] at this
    exact this
  | get g =>
    have := (GetM.left_bd hc h.1 m).2
    show g.left m ≤ (0 + 1) * (4 * c.all + 10)
    omega
structure YardM.gd (y : YardM) : Prop where
  pinv : y.pinv
  good : ∀ (i : Nat) t, y.tasks[i]? = some (some t) → t.work.good y.conf i
theorem YardM.new_gd {c : ConfM} (hc : c.ok) : (YardM.new c).gd := ⟨YardM.new_pinv hc, fun i t h => by simp [YardM.new, List.getElem?_replicate] at h⟩
theorem YardM.pass_gd {y : YardM} (h : y.gd) (n : Int) : (y.pass n).gd := by
  refine ⟨YardM.pass_pinv h.pinv n, ?_⟩
  unfold YardM.pass
  split
  · exact h.good
  · exact h.good
/-- What a call is. -/
theorem YardM.call_eq {y : YardM} (who : Int) (k : CallM) : ((y.call who k).1 = y ∧ (y.call who k).2 ≠ 0) ∨ (y.there who = true ∧ k.right = true ∧ y.task who = none ∧ (y.call who k).2 = 0 ∧
    (y.call who k).1 = { y with tasks := y.tasks.set who.toNat (some (TaskM.new y.conf who k)), mine := y.mine.set who.toNat y.deeds.length, deeds := y.deeds ++ [⟨who, k, y.moves, -1, .zero⟩], moves := y.moves + 1 }) := by
  unfold YardM.call
  split
  · exact .inl ⟨rfl, by show ¬ (1 : Int) = 0; decide⟩
  · rename_i hbad
    split
    · exact .inl ⟨rfl, by show ¬ (2 : Int) = 0; decide⟩
    · rename_i hb
      have ht : y.there who = true := by cases q : y.there who <;> simp_all
      have hr : k.right = true := by cases q : k.right <;> simp_all
      exact .inr ⟨ht, hr, by cases q : y.task who <;> simp_all, rfl, rfl⟩
theorem YardM.call_gd {y : YardM} (h : y.gd) (who : Int) {k : CallM} (hv : 0 ≤ k.value ∧ k.value < 18446744073709551616) : (y.call who k).1.gd := by
  have hp := YardM.call_pinv h.pinv who hv
  rcases YardM.call_eq (y := y) who k with ⟨e, _⟩ | ⟨ht, hr, hn, _, e⟩
  · rw [e]; exact h
  · rw [e] at hp ⊢
    refine ⟨hp, fun i t hi => ?_⟩
    have hbd := YardM.there_bd ht
    have hi' : (y.tasks.set who.toNat (some (TaskM.new y.conf who k)))[i]? = some (some t) := hi
    rw [List.getElem?_set] at hi'
    split at hi'
    · split at hi'
      · simp only [Option.some.injEq] at hi'
        subst hi'
        rw [show ((i : Nat) : Int) = who by omega]
        exact TaskM.new_good h.pinv.proto.conf who k
      · cases hi'
    · exact h.good i t hi'
theorem YardM.task_some {y : YardM} (h : y.gd) {who : Int} (hb : y.busy who = true) : ∃ t, y.task who = some t ∧ y.tasks[who.toNat]? = some (some t) ∧ 0 ≤ who ∧ who < y.conf.th ∧ t.work.good y.conf who := by
  unfold YardM.busy at hb
  rw [Bool.and_eq_true] at hb
  obtain ⟨t, hk⟩ := Option.isSome_iff_exists.1 hb.2
  have hbd := YardM.there_bd hb.1
  have hat := YardM.task_at' h.pinv.proto.tl hb.1 hk
  have hg := h.good _ _ hat
  rw [show ((who.toNat : Nat) : Int) = who by omega] at hg
  exact ⟨t, hk, hat, hbd.1, hbd.2, hg⟩
theorem leftK_some {t u : TaskM} (h : leftK t = some u) : u = t ∧ t.work.phase = 0 := by
  unfold leftK TaskM.over at h
  split at h
  · cases h
  · rename_i q
    simp only [Option.some.injEq] at h
    exact ⟨h.symm, by simpa using q⟩
theorem YardM.step_gd {y : YardM} (h : y.gd) (who : Int) : (y.step who).1.gd := by
  have hp := YardM.step_pinv h.pinv who
  refine ⟨hp, ?_⟩
  rcases YardM.step_eq (y := y) who with ⟨_, e⟩ | ⟨t, hb, ht, hk, e1, e2, e3, _⟩
  · rw [e]; exact h.good
  · obtain ⟨t', hk', hat, h0, h1, hg⟩ := YardM.task_some h hb
    rw [hk] at hk'
    cases hk'
    have s := TaskM.stepd h.pinv.proto.conf hg ⟨h0, h1⟩ y.mem h.pinv.proto.logd.cl y.now
    rw [e1, e3]
    intro i u hi
    rw [List.getElem?_set] at hi
    split at hi
    · split at hi
      · simp only [Option.some.injEq] at hi
        obtain ⟨rfl, q⟩ := leftK_some hi
        rw [show ((i : Nat) : Int) = who by omega]
        exact (s.go q).1
      · cases hi
    · exact h.good i u hi
/-! ### How many steps of its own (BoundOwns) -/
def ownI (y : YardM) (own turns : List Int) : Prop := ∀ (i : Nat) t, y.tasks[i]? = some (some t) → getI own i + t.work.pot y.mem ≤ t.work.lim y.conf (getI turns i) ∧ 0 ≤ getI turns i
/-- Others' turns: one more for each but w. -/
def bump (w : Int) (b : Bool) (n : Nat) (turns : List Int) : List Int := turns.mapIdx (fun i x => if i < n ∧ (i : Int) ≠ w ∧ b = true then x + 1 else x)
theorem bump_len (w : Int) (b : Bool) (n : Nat) (l : List Int) : (bump w b n l).length = l.length := by simp [bump]
theorem getI_bump {w : Int} {b : Bool} {n : Nat} {l : List Int} {i : Nat} (hi : i < l.length) : getI (bump w b n l) i = if i < n ∧ (i : Int) ≠ w ∧ b = true then getI l i + 1 else getI l i := by
  unfold getI bump
  rw [Int.toNat_natCast, List.getD_eq_getElem?_getD, List.getD_eq_getElem?_getD, List.getElem?_mapIdx, List.getElem?_eq_getElem hi]
  simp
theorem bump_zero (w : Int) (b : Bool) (l : List Int) : bump w b 0 l = l := by
  unfold bump
  apply List.ext_getElem?
  intro i
  rw [List.getElem?_mapIdx]
  cases l[i]? <;> simp
theorem bump_false (w : Int) (n : Nat) (l : List Int) : bump w false n l = l := by
  unfold bump
  apply List.ext_getElem?
  intro i
  rw [List.getElem?_mapIdx]
  cases l[i]? <;> simp
theorem bump_succ (w : Int) (b : Bool) (n : Nat) (l : List Int) (hn : n < l.length) : bump w b (n + 1) l = if (n : Int) ≠ w ∧ b = true then (bump w b n l).set n (getI l n + 1) else bump w b n l := by
  apply List.ext_getElem?
  intro i
  by_cases e : (n : Int) ≠ w ∧ b = true
  · rw [if_pos e, List.getElem?_set, bump_len]
    unfold bump
    rw [List.getElem?_mapIdx, List.getElem?_mapIdx]
    by_cases hi : n = i
    · subst hi
      rw [if_pos rfl, if_pos hn, List.getElem?_eq_getElem hn]
      simp [e, getI, List.getD_eq_getElem?_getD, hn]
    · rw [if_neg hi]
      cases l[i]? with
      | none => rfl
      | some x =>
        simp only [Option.map_some]
        simp only [show (i < n + 1) ↔ (i < n) by omega]
  · rw [if_neg e]
    unfold bump
    rw [List.getElem?_mapIdx, List.getElem?_mapIdx]
    cases l[i]? with
    | none => rfl
    | some x =>
      simp only [Option.map_some]
      by_cases hi : i = n
      · subst hi
        rw [if_neg (fun q => e q.2), if_neg (fun q => e q.2)]
      · simp only [show (i < n + 1) ↔ (i < n) by omega]
theorem own_new {c : ConfM} (own turns : List Int) : ownI (YardM.new c) own turns := fun i t h => by simp [YardM.new, List.getElem?_replicate] at h
theorem own_call {y : YardM} (h : y.gd) {own turns : List Int} (hI : ownI y own turns) {w : Int} (k : CallM) (hw : 0 ≤ w ∧ w < y.conf.th) (hl : (own.length : Int) = y.conf.th) (hl2 : (turns.length : Int) = y.conf.th) :
    ownI (y.call w k).1 (own.set w.toNat 0) (turns.set w.toNat 0) ∨ (y.call w k).1 = y := by
  rcases YardM.call_eq (y := y) w k with ⟨e, _⟩ | ⟨ht, hr, hn, _, e⟩
  · exact .inr e
  · left
    rw [e]
    intro i t hi
    have hi' : (y.tasks.set w.toNat (some (TaskM.new y.conf w k)))[i]? = some (some t) := hi
    show getI (own.set w.toNat 0) i + t.work.pot y.mem ≤ t.work.lim y.conf (getI (turns.set w.toNat 0) i) ∧ 0 ≤ getI (turns.set w.toNat 0) i
    rw [getI_setN (by omega) _ _ (by omega), getI_setN (by omega) _ _ (by omega)]
    rw [List.getElem?_set] at hi'
    split at hi'
    · rename_i q
      split at hi'
      · simp only [Option.some.injEq] at hi'
        subst hi'
        rw [if_pos (by omega), if_pos (by omega)]
        have := TaskM.new_pot h.pinv.proto.conf w k y.mem
        exact ⟨by omega, Int.le_refl _⟩
      · cases hi'
    · rename_i q
      rw [if_neg (by omega), if_neg (by omega)]
      exact hI i t hi'
theorem by_turnB {c : ConfM} {m m' : MemM} {fin : Prop} (h : Turns c m m' fin) {e : Ev} (he : m'.log = m.log ++ [e]) (hb : turnB c e = false) : sameW c m m' := by
  rcases h.or with q | ⟨⟨e', q, qb⟩, _⟩
  · exact q
  · rw [he] at q
    have := List.append_cancel_left q
    simp only [List.cons.injEq, and_true] at this
    rw [this, qb] at hb
    cases hb
/-- A step of a yard: the call's own steps, and what the others see. -/
theorem own_step {y : YardM} (h : y.gd) {own turns : List Int} (hI : ownI y own turns) {w : Int} {t : TaskM} (hb : y.busy w = true) (hk : y.task w = some t) (hl : (own.length : Int) = y.conf.th) (hl2 : (turns.length : Int) = y.conf.th) :
    (getI own w + 1 ≤ t.work.lim y.conf (getI turns w) ∧ 0 ≤ getI turns w) ∧
    (((y.step w).1.mem.log = y.mem.log ∧ ownI (y.step w).1 (own.set w.toNat (getI own w + 1)) turns) ∨
      ∃ e, (y.step w).1.mem.log = y.mem.log ++ [e] ∧ ownI (y.step w).1 (own.set w.toNat (getI own w + 1)) (bump w (turnB y.conf e) y.conf.th.toNat turns)) := by
  have hc := h.pinv.proto.conf
  have hal := hc.all_bd
  obtain ⟨t', hk', hat, h0, h1, hg⟩ := YardM.task_some h hb
  rw [hk] at hk'
  cases hk'
  have s := TaskM.stepd hc hg ⟨h0, h1⟩ y.mem h.pinv.proto.logd.cl y.now
  have hw := hI _ _ hat
  rw [show ((w.toNat : Nat) : Int) = w by omega] at hw
  have hpos := WorkM.pot_pos (by omega) hg y.mem
  refine ⟨⟨by omega, hw.2⟩, ?_⟩
  rcases YardM.step_eq (y := y) w with ⟨q, _⟩ | ⟨t2, _, ht, hk2, e1, e2, e3, _⟩
  · rw [hb] at q; cases q
  · rw [hk] at hk2
    cases hk2
    have hown : ∀ (tn : List Int), (tn.length : Int) = y.conf.th → (∀ (i : Nat) u, (i : Int) ≠ w → y.tasks[i]? = some (some u) → getI own i + u.work.pot (t.step y.mem y.now).2 ≤ u.work.lim y.conf (getI tn i) ∧ 0 ≤ getI tn i) → getI tn w = getI turns w →
        ownI (y.step w).1 (own.set w.toNat (getI own w + 1)) tn := by
      intro tn hl3 ho hself i u hi
      rw [e3] at hi
      rw [e1, e2, getI_setN (by omega) _ _ (by omega)]
      rw [List.getElem?_set] at hi
      split at hi
      · rename_i q
        split at hi
        · simp only [Option.some.injEq] at hi
          obtain ⟨rfl, q2⟩ := leftK_some hi
          obtain ⟨_, g2, g3⟩ := s.go q2
          have ei : ((i : Nat) : Int) = w := by omega
          rw [if_pos (by omega), ei, hself, g3]
          exact ⟨by omega, hw.2⟩
        · cases hi
      · rename_i q
        rw [if_neg (by omega)]
        exact ho i u (by omega) hi
    have hby := (TaskM.step_own (t := t) (c := y.conf) (w := w) (by
      obtain ⟨k, x⟩ := t
      cases x with
      | put p => exact hg.2.1
      | get g => exact hg.2) y.mem y.now).2
    rcases MemM.by_log hby with q | ⟨e, q, _⟩
    · left
      refine ⟨by rw [e2]; exact q, hown turns hl2 (fun i u hi hu => ?_) rfl⟩
      have hs : sameW y.conf y.mem (t.step y.mem y.now).2 := by
        rcases s.turns.or with z | ⟨⟨e', z, _⟩, _⟩
        · exact z
        · rw [q] at z
          have := congrArg List.length z
          simp at this
      rw [WorkM.pot_same (by omega) (h.good i u hu) hs]
      exact hI i u hu
    · right
      refine ⟨e, by rw [e2]; exact q, hown _ (by rw [bump_len]; exact hl2) (fun i u hi hu => ?_) ?_⟩
      · have hit := at_th h.pinv.proto.tl hu
        rw [getI_bump (by omega)]
        have hiu := hI i u hu
        cases hbt : turnB y.conf e with
        | false =>
          rw [if_neg (fun z => by cases z.2.2), WorkM.pot_same (by omega) (h.good i u hu) (by_turnB s.turns q hbt)]
          exact hiu
        | true =>
          rw [if_pos ⟨by omega, hi, rfl⟩]
          exact ⟨WorkM.pot_turn (by omega) (h.good i u hu) hiu.2 hiu.1, by omega⟩
      · have e' : (w : Int) = ((w.toNat : Nat) : Int) := by omega
        rw [e', getI_bump (by omega), if_neg (fun z => z.2.1 rfl)]
/-! ### How often calls come to their ends (BoundWindows) -/
def sumN (f : Nat → Int) : Nat → Int
  | 0 => 0
  | n + 1 => sumN f n + f n
def updN (f : Nat → Int) (i : Nat) (x : Int) : Nat → Int := fun j => if j = i then x else f j
theorem sumN_upd (f : Nat → Int) (i : Nat) (x : Int) : ∀ n, sumN (updN f i x) n = sumN f n + (if i < n then x - f i else 0)
  | 0 => by simp [sumN]
  | n + 1 => by
    simp only [sumN]
    rw [sumN_upd f i x n]
    unfold updN
    by_cases e : n = i
    · subst e; simp; omega
    · rw [if_neg e]
      by_cases q : i < n
      · rw [if_pos q, if_pos (by omega)]; omega
      · rw [if_neg q, if_neg (by omega)]; omega
theorem sumN_le {f : Nat → Int} {M : Int} : ∀ n, (∀ i, i < n → f i ≤ M) → sumN f n ≤ n * M
  | 0, _ => by simp [sumN]
  | n + 1, h => by
    have a := sumN_le n (fun i hi => h i (by omega))
    have b := h n (by omega)
    simp only [sumN]
    rw [Int.natCast_add, Int.add_mul]
    simp only [Int.natCast_one, Int.one_mul]
    omega
theorem sumN_zero : ∀ n, sumN (fun _ => 0) n = 0
  | 0 => rfl
  | n + 1 => by simp only [sumN]; rw [sumN_zero n]; rfl
def longM (c : ConfM) : Int := max (PutM.most c) ((c.th + 1) * (4 * c.all + 10))
def windowM (c : ConfM) : Int := c.th * longM c + 1
structure WinI (y : YardM) (own sw : Nat → Int) (S : Int) : Prop where
  own0 : ∀ i, 0 ≤ own i
  sw0 : ∀ i, 0 ≤ sw i ∧ sw i ≤ 1
  hit : ∀ i, sw i = 1 → ∃ t, y.tasks[i]? = some (some t) ∧ t.work.hit
  idle : ∀ i, i < y.conf.th.toNat → y.tasks[i]? = some none → own i = 0
  task : ∀ (i : Nat) t, y.tasks[i]? = some (some t) → own i + t.work.pot y.mem ≤ t.work.lim y.conf (sumN sw y.conf.th.toNat)
  sum : S = sumN own y.conf.th.toNat
theorem WorkM.lim_long {c : ConfM} (hc : 1 ≤ c.all) (x : WorkM) {n : Int} (h : n ≤ c.th) : x.lim c n ≤ longM c := by
  have h1 := WorkM.lim_mono hc x h
  have : x.lim c c.th ≤ longM c := by
    unfold longM
    cases x with
    | put p => exact Int.le_max_left _ _
    | get g => exact Int.le_max_right _ _
  omega
theorem WinI.bound {y : YardM} (h : y.gd) {own sw : Nat → Int} {S : Int} (hI : WinI y own sw S) : S ≤ y.conf.th * longM y.conf := by
  have hc := h.pinv.proto.conf
  have hal := hc.all_bd
  have hth := hc.th1
  have hsw : sumN sw y.conf.th.toNat ≤ y.conf.th := by
    have := sumN_le (f := sw) (M := 1) y.conf.th.toNat (fun i _ => (hI.sw0 i).2)
    omega
  have hlong : 0 ≤ longM y.conf := by
    have : 0 ≤ (y.conf.th + 1) * (4 * y.conf.all + 10) := Int.mul_nonneg (by omega) (by omega)
    unfold longM; omega
  rw [hI.sum]
  have := sumN_le (f := own) (M := longM y.conf) y.conf.th.toNat (fun i hi => ?_)
  · rw [show ((y.conf.th.toNat : Nat) : Int) = y.conf.th by omega] at this
    exact this
  · have hlt : i < y.tasks.length := by have := h.pinv.proto.tl; omega
    rcases hq : y.tasks[i]? with _ | (_ | t)
    · rw [List.getElem?_eq_none_iff] at hq; omega
    · rw [hI.idle i hi hq]; exact hlong
    · have := hI.task i t hq
      have := WorkM.pot_pos (by omega) (h.good i t hq) y.mem
      have := WorkM.lim_long (c := y.conf) (by omega) t.work hsw
      omega
theorem WinI.new {c : ConfM} : WinI (YardM.new c) (fun _ => 0) (fun _ => 0) 0 :=
  ⟨fun _ => Int.le_refl _, fun _ => ⟨Int.le_refl _, by omega⟩, fun i h => absurd h (by decide), fun _ _ _ => rfl, fun i t h => by simp [YardM.new, List.getElem?_replicate] at h, (sumN_zero _).symm⟩
/-- No window is open behind an end. -/
theorem WinI.fresh {y : YardM} (h : y.gd) : WinI y (fun _ => 0) (fun _ => 0) 0 := by
  have hal := h.pinv.proto.conf.all_bd
  refine ⟨fun _ => Int.le_refl _, fun _ => ⟨Int.le_refl _, by omega⟩, fun i h => absurd h (by decide), fun _ _ _ => rfl, fun i t ht => ?_, (sumN_zero _).symm⟩
  rw [sumN_zero]
  have := WorkM.pot_le (by omega) (h.good i t ht) y.mem
  omega
theorem WinI.call {y : YardM} (h : y.gd) {own sw : Nat → Int} {S : Int} (hI : WinI y own sw S) (w : Int) (k : CallM) : WinI (y.call w k).1 own sw S := by
  rcases YardM.call_eq (y := y) w k with ⟨e, _⟩ | ⟨ht, hr, hn, _, e⟩
  · rw [e]; exact hI
  · have hal := h.pinv.proto.conf.all_bd
    have hbd := YardM.there_bd ht
    have htl := h.pinv.proto.tl
    have hlt : w.toNat < y.tasks.length := by omega
    have hat : y.tasks[w.toNat]? = some none := by
      have q : (y.tasks[w.toNat]?).join = none := hn
      rw [List.getElem?_eq_getElem hlt] at q ⊢
      exact congrArg some q
    have hs0 : 0 ≤ sumN sw y.conf.th.toNat := by
      have : ∀ n, 0 ≤ sumN sw n := fun n => by
        induction n with
        | zero => exact Int.le_refl _
        | succ n ih => have := (hI.sw0 n).1; simp only [sumN]; omega
      exact this _
    rw [e]
    refine ⟨hI.own0, hI.sw0, fun i hi => ?_, fun i hi hq => ?_, fun i t hi => ?_, hI.sum⟩
    · obtain ⟨t, t1, t2⟩ := hI.hit i hi
      have hne : w.toNat ≠ i := fun q => by rw [← q, hat] at t1; cases t1
      exact ⟨t, by show (y.tasks.set w.toNat _)[i]? = _; rw [List.getElem?_set_ne hne]; exact t1, t2⟩
    · have hq' : (y.tasks.set w.toNat (some (TaskM.new y.conf w k)))[i]? = some none := hq
      rw [List.getElem?_set] at hq'
      split at hq'
      · cases hq'
      · exact hI.idle i hi hq'
    · have hi' : (y.tasks.set w.toNat (some (TaskM.new y.conf w k)))[i]? = some (some t) := hi
      show own i + t.work.pot y.mem ≤ t.work.lim y.conf (sumN sw y.conf.th.toNat)
      rw [List.getElem?_set] at hi'
      split at hi'
      · rename_i q
        simp only [Option.some.injEq] at hi'
        subst hi'
        rw [hI.idle i (by omega) (by rw [← q]; exact hat)]
        have h1 := TaskM.new_pot h.pinv.proto.conf w k y.mem
        have h2 := WorkM.lim_mono (c := y.conf) (by omega) (TaskM.new y.conf w k).work hs0
        omega
      · exact hI.task i t hi'
/-- A step: its call's end closes the window, which was not too wide; else the window goes on. -/
theorem WinI.step {y : YardM} (h : y.gd) {own sw : Nat → Int} {S : Int} (hI : WinI y own sw S) {w : Int} (hb : y.busy w = true) :
    ((y.step w).1.busy w = false ∧ S + 1 ≤ windowM y.conf) ∨ ((y.step w).1.busy w = true ∧ ∃ own' sw', WinI (y.step w).1 own' sw' (S + 1)) := by
  have hc := h.pinv.proto.conf
  have hal := hc.all_bd
  have hbound := hI.bound h
  have htl := h.pinv.proto.tl
  obtain ⟨t, hk, hat, h0, h1, hg⟩ := YardM.task_some h hb
  have s := TaskM.stepd hc hg ⟨h0, h1⟩ y.mem h.pinv.proto.logd.cl y.now
  rcases YardM.step_eq (y := y) w with ⟨q, _⟩ | ⟨t2, _, ht, hk2, e1, e2, e3, _⟩
  · rw [hb] at q; cases q
  · rw [hk] at hk2
    cases hk2
    have hbusy : (y.step w).1.busy w = !(t.step y.mem y.now).1.over := by
      unfold YardM.busy YardM.there YardM.task
      rw [e1, e3, List.getElem?_set_self (by omega)]
      simp only [h0, h1, decide_true, Bool.and_self, Bool.true_and]
      unfold leftK
      cases (t.step y.mem y.now).1.over <;> rfl
    by_cases q : (t.step y.mem y.now).1.work.phase = 0
    · right
      refine ⟨by rw [hbusy]; unfold TaskM.over; simp [q], ?_⟩
      obtain ⟨g1, g2, g3⟩ := s.go q
      have hl : leftK (t.step y.mem y.now).1 = some (t.step y.mem y.now).1 := by
        unfold leftK TaskM.over; simp [q]
      have hnh : ¬ t.work.hit := fun z => s.hit z q
      have hsw : sw w.toNat = 0 := by
        rcases Int.lt_or_le (sw w.toNat) 1 with z | z
        · have := (hI.sw0 w.toNat).1; omega
        · obtain ⟨u, u1, u2⟩ := hI.hit w.toNat (by have := (hI.sw0 w.toNat).2; omega)
          rw [hat] at u1
          cases u1
          exact (hnh u2).elim
      have hs0 : 0 ≤ sumN sw y.conf.th.toNat := by
        have : ∀ n, 0 ≤ sumN sw n := fun n => by
          induction n with
          | zero => exact Int.le_refl _
          | succ n ih => have := (hI.sw0 n).1; simp only [sumN]; omega
        exact this _
      have htask : ∀ sw' : Nat → Int, (∀ (i : Nat) u, (i : Int) ≠ w → y.tasks[i]? = some (some u) → own i + u.work.pot (t.step y.mem y.now).2 ≤ u.work.lim y.conf (sumN sw' y.conf.th.toNat)) → sumN sw y.conf.th.toNat ≤ sumN sw' y.conf.th.toNat → (∀ i, 0 ≤ sw' i ∧ sw' i ≤ 1) →
          (∀ i, sw' i = 1 → i ≠ w.toNat → sw i = 1) → (sw' w.toNat = 1 → (t.step y.mem y.now).1.work.hit) → WinI (y.step w).1 (updN own w.toNat (own w.toNat + 1)) sw' (S + 1) := by
        intro sw' ho hle hsw0 hsw1 hsw2
        refine ⟨fun i => ?_, hsw0, fun i hi => ?_, fun i hi hq => ?_, fun i u hi => ?_, ?_⟩
        · unfold updN
          have := hI.own0 i
          have := hI.own0 w.toNat
          split <;> omega
        · rw [e3]
          by_cases z : i = w.toNat
          · subst z
            exact ⟨_, by rw [List.getElem?_set_self (by omega), hl], hsw2 hi⟩
          · obtain ⟨u, u1, u2⟩ := hI.hit i (hsw1 i hi z)
            exact ⟨u, by rw [List.getElem?_set_ne (fun z' => z z'.symm)]; exact u1, u2⟩
        · rw [e1] at hi
          rw [e3, hl, List.getElem?_set] at hq
          split at hq
          · split at hq <;> cases hq
          · rename_i z
            unfold updN
            rw [if_neg (fun z' => z z'.symm)]
            exact hI.idle i hi hq
        · rw [e3, hl, List.getElem?_set] at hi
          rw [e1, e2]
          unfold updN
          split at hi
          · rename_i z
            split at hi
            · simp only [Option.some.injEq] at hi
              subst hi
              have a := hI.task _ _ hat
              rw [if_pos z.symm, g3]
              have b := WorkM.lim_mono (c := y.conf) (by omega) t.work hle
              omega
            · cases hi
          · rename_i z
            rw [if_neg (fun z' => z z'.symm)]
            exact ho i u (by omega) hi
        · rw [e1, sumN_upd, if_pos (by omega), ← hI.sum]
          omega
      rcases s.turns.or with z | ⟨_, z⟩
      · refine ⟨_, sw, htask sw (fun i u hi hu => ?_) (Int.le_refl _) hI.sw0 (fun i hi _ => hi) (fun z' => by omega)⟩
        rw [WorkM.pot_same (by omega) (h.good i u hu) z]
        exact hI.task i u hu
      · have hsum : sumN (updN sw w.toNat 1) y.conf.th.toNat = sumN sw y.conf.th.toNat + 1 := by
          rw [sumN_upd, if_pos (by omega), hsw]; omega
        refine ⟨_, updN sw w.toNat 1, htask (updN sw w.toNat 1) (fun i u hi hu => ?_) (by omega) (fun i => ?_) (fun i hi hne => ?_) (fun _ => z q)⟩
        · rw [hsum]
          exact WorkM.pot_turn (by omega) (h.good i u hu) hs0 (hI.task i u hu)
        · unfold updN
          have := hI.sw0 i
          split <;> omega
        · unfold updN at hi
          rw [if_neg hne] at hi
          exact hi
    · left
      refine ⟨by rw [hbusy]; unfold TaskM.over; simp [q], ?_⟩
      unfold windowM
      omega
end Go.Proofs.YtegdhojhnmgjgaaGreat
/- How many steps calls take at most (package bound, put.Most, claim.Most, tick.Most). Conditions: a Right layout. -/
namespace Go.Proofs.YtegdhojhnmgjgaaGreat
open Go.RowKit Go.SepYtegdhojhnmgjgaaGreat
set_option maxRecDepth 100000
set_option maxHeartbeats 4000000
attribute [local go_sem] min2_w max2_w min_w max_w
abbrev confVal (c : ConfM) : Value := .agg #[.int .i64 c.th, .int .i64 c.sl, .int .i64 c.src, .int .i64 c.dl]
theorem ConfM.ok.sl_th {c : ConfM} (h : c.ok) : 0 ≤ c.sl * (c.th + 1) ∧ c.sl * (c.th + 1) ≤ 4160 := by
  have := h.th1; have := h.th2; have := h.sl1; have := h.sl2
  exact ⟨Int.mul_nonneg (by omega) (by omega), by have := Int.mul_le_mul h.sl2 (show c.th + 1 ≤ 65 by omega) (by omega) (by omega); omega⟩
theorem cmost_calls (c : ConfM) (hc : c.ok) (w : World) : Tells 84 #[confVal c] w (.int .i64 (c.sl * (c.th + 1))) := by
  have K := Lib.hid (sat.start w)
  have h1 := hc.th1
  have h2 := hc.th2
  have h3 := hc.sl_th
  have v1 : wrap64 (c.th + 1) = c.th + 1 := w64 (by omega) (by omega)
  have v2 : wrap64 (c.sl * (c.th + 1)) = c.sl * (c.th + 1) := w64 (by omega) (by omega)
  clear h1 h2 h3
  go_enter Tryz.func84, Tryz.ntmps84
  go_wp2_with (first | ((with_reducible refine at_box ?_); refine st_boxf K.out rfl rfl (fun _ => rfl) ?_; intro g1 w1 K1; have K2 := Lib.hid K1; clear K1 K; (try clear a0); (try clear l0); (try clear a1); (try clear l1); (try clear a2); (try clear l2); have K := K2; clear K2; have a0 := K.out.rd 0 rfl; have l0 := K.out.ltp 0 rfl))
  go_ret
  exact ⟨by first | rfl | exact ret_i (by first | rfl | exact v4 | exact v2 | exact v1), K.out.below⟩
theorem tmost_calls (c : ConfM) (hc : c.ok) (w : World) : Tells 85 #[confVal c] w (.int .i64 (TickM.most c)) := by
  have K := Lib.hid (sat.start w)
  have h1 := hc.th1
  have h2 := hc.th2
  have h3 := hc.dl1
  have h4 := hc.dl2
  have v1 : wrap64 (c.th + 1) = c.th + 1 := w64 (by omega) (by omega)
  have v2 : wrap64 (c.dl + 2) = c.dl + 2 := w64 (by omega) (by omega)
  clear h1 h2 h3 h4
  unfold TickM.most
  by_cases e1 : c.src = 1
  · have c1 : (c.src == 1) = true := by simpa using e1
    rw [if_pos e1]
    clear e1
    go_enter Tryz.func85, Tryz.ntmps85
    go_wp2_with (first | ((with_reducible refine at_box ?_); refine st_boxf K.out rfl rfl (fun _ => rfl) ?_; intro g1 w1 K1; have K2 := Lib.hid K1; clear K1 K; (try clear a0); (try clear l0); (try clear a1); (try clear l1); (try clear a2); (try clear l2); have K := K2; clear K2; have a0 := K.out.rd 0 rfl; have l0 := K.out.ltp 0 rfl))
    go_ret
    exact ⟨by first | rfl | exact ret_i (by first | rfl | exact v4 | exact v2 | exact v1), K.out.below⟩
  · have c1 : (c.src == 1) = false := by simpa using e1
    rw [if_neg e1]
    by_cases e2 : c.src = 2
    · have c2 : (c.src == 2) = true := by simpa using e2
      rw [if_pos e2]
      clear e1 e2
      go_enter Tryz.func85, Tryz.ntmps85
      go_wp2_with (first | ((with_reducible refine at_box ?_); refine st_boxf K.out rfl rfl (fun _ => rfl) ?_; intro g1 w1 K1; have K2 := Lib.hid K1; clear K1 K; (try clear a0); (try clear l0); (try clear a1); (try clear l1); (try clear a2); (try clear l2); have K := K2; clear K2; have a0 := K.out.rd 0 rfl; have l0 := K.out.ltp 0 rfl))
      go_ret
      exact ⟨by first | rfl | exact ret_i (by first | rfl | exact v4 | exact v2 | exact v1), K.out.below⟩
    · have c2 : (c.src == 2) = false := by simpa using e2
      rw [if_neg e2]
      by_cases e4 : c.src = 4
      · have c4 : (c.src == 4) = true := by simpa using e4
        rw [if_pos e4]
        clear e1 e2 e4
        go_enter Tryz.func85, Tryz.ntmps85
        go_wp2_with (first | ((with_reducible refine at_box ?_); refine st_boxf K.out rfl rfl (fun _ => rfl) ?_; intro g1 w1 K1; have K2 := Lib.hid K1; clear K1 K; (try clear a0); (try clear l0); (try clear a1); (try clear l1); (try clear a2); (try clear l2); have K := K2; clear K2; have a0 := K.out.rd 0 rfl; have l0 := K.out.ltp 0 rfl))
        go_ret
        exact ⟨by first | rfl | exact ret_i (by first | rfl | exact v4 | exact v2 | exact v1), K.out.below⟩
      · have c4 : (c.src == 4) = false := by simpa using e4
        rw [if_neg e4]
        clear e1 e2 e4
        go_enter Tryz.func85, Tryz.ntmps85
        go_wp2_with (first | ((with_reducible refine at_box ?_); refine st_boxf K.out rfl rfl (fun _ => rfl) ?_; intro g1 w1 K1; have K2 := Lib.hid K1; clear K1 K; (try clear a0); (try clear l0); (try clear a1); (try clear l1); (try clear a2); (try clear l2); have K := K2; clear K2; have a0 := K.out.rd 0 rfl; have l0 := K.out.ltp 0 rfl))
        go_ret
        exact ⟨by first | rfl | exact ret_i (by first | rfl | exact v4 | exact v2 | exact v1), K.out.below⟩
theorem TickM.most_bd {c : ConfM} (hc : c.ok) : 1 ≤ TickM.most c ∧ TickM.most c ≤ 200 := by
  have := hc.th1; have := hc.th2; have := hc.dl1; have := hc.dl2
  unfold TickM.most
  (repeat' split) <;> omega
theorem pmost_calls (c : ConfM) (hc : c.ok) (w : World) : Tells 63 #[confVal c] w (.int .i64 (PutM.most c)) := by
  have K := Lib.hid (sat.start w)
  have CM := fun w => Lib.hid (cmost_calls c hc w)
  have TM := fun w => Lib.hid (tmost_calls c hc w)
  have h1 := hc.sl_th
  have h2 := TickM.most_bd hc
  unfold PutM.most
  generalize c.sl * (c.th + 1) = A at *
  generalize TickM.most c = B at *
  have v1 : wrap64 (A + B) = A + B := w64 (by omega) (by omega)
  have v2 : wrap64 (A + B + 2) = A + B + 2 := w64 (by omega) (by omega)
  have u1 : IntKind.i64.wrap (A + B) = A + B := wi (by omega) (by omega)
  have u2 : IntKind.i64.wrap (A + B + 2) = A + B + 2 := wi (by omega) (by omega)
  clear h1 h2
  go_enter Tryz.func63, Tryz.ntmps63
  go_wp2_with (first | ((with_reducible refine at_box ?_); refine st_boxf K.out rfl rfl (fun _ => rfl) ?_; intro g1 w1 K1; have K2 := Lib.hid K1; clear K1 K; (try clear a0); (try clear l0); (try clear a1); (try clear l1); (try clear a2); (try clear l2); have K := K2; clear K2; have a0 := K.out.rd 0 rfl; have l0 := K.out.ltp 0 rfl))
  refine wp_region_noPanic ?_
  refine wp_region_held_drew (S := (fun w' => (∀ j, w'.cell? ⟨g1, j, none⟩ = ([.int .i64 c.th, .int .i64 c.sl, .int .i64 c.src, .int .i64 c.dl] : List Value)[j]?))) (by kernel_rfl) ?_ (fun hHeld => ?_)
  · ((try dsimp only); (exact sat.rd 0 (by repeat (with_reducible first | exact K.out | apply sat.alloc_any | apply sat.drew | apply sat.drewN)) rfl))
  refine tk 0 (some 3) ?_
  (try simp only [Act.put, p0, p1, p2])
  refine tk 2 (some 5) ?_
  (try simp only [Act.put, p0, p1, p2])
  refine wpAnyH_ready (rs := [1]) (by kernel_rfl) (by simp) ?_
  refine AllReadyH.cons (o := _) rfl (fun kC hkC => ?_) AllReadyH.nil
  go_simp
  (first | (go_at_call 84; (with_reducible refine ((CM _).out).mono ?_); rintro e w1 ⟨rfl, hb⟩; have K1 := sat.grown (show sat _ _ _ from by first | exact K.out | exact K.out.drew) hb; clear hb; have K2 := Lib.hid K1; clear K1 K; (try clear a0); (try clear l0); (try clear f0); (try clear a1); (try clear l1); (try clear f1); (try clear a2); (try clear l2); (try clear f2); (try clear a3); (try clear l3); (try clear f3); (try clear a4); (try clear l4); (try clear f4); (try clear a5); (try clear l5); (try clear f5); have K := K2; clear K2; (try have a0 := K.out.rd 0 rfl); (try have l0 := K.out.ltp 0 rfl); (try have f0 := K.out.fr 0 rfl); (try have a1 := K.out.rd 1 rfl); (try have l1 := K.out.ltp 1 rfl); (try have f1 := K.out.fr 1 rfl); (try have a2 := K.out.rd 2 rfl); (try have l2 := K.out.ltp 2 rfl); (try have f2 := K.out.fr 2 rfl); (try have a3 := K.out.rd 3 rfl); (try have l3 := K.out.ltp 3 rfl); (try have f3 := K.out.fr 3 rfl)) | (go_at_call 85; (with_reducible refine ((TM _).out).mono ?_); rintro e w1 ⟨rfl, hb⟩; have K1 := sat.grown (show sat _ _ _ from by first | exact K.out | exact K.out.drew) hb; clear hb; have K2 := Lib.hid K1; clear K1 K; (try clear a0); (try clear l0); (try clear f0); (try clear a1); (try clear l1); (try clear f1); (try clear a2); (try clear l2); (try clear f2); (try clear a3); (try clear l3); (try clear f3); (try clear a4); (try clear l4); (try clear f4); (try clear a5); (try clear l5); (try clear f5); have K := K2; clear K2; (try have a0 := K.out.rd 0 rfl); (try have l0 := K.out.ltp 0 rfl); (try have f0 := K.out.fr 0 rfl); (try have a1 := K.out.rd 1 rfl); (try have l1 := K.out.ltp 1 rfl); (try have f1 := K.out.fr 1 rfl); (try have a2 := K.out.rd 2 rfl); (try have l2 := K.out.ltp 2 rfl); (try have f2 := K.out.fr 2 rfl); (try have a3 := K.out.rd 3 rfl); (try have l3 := K.out.ltp 3 rfl); (try have f3 := K.out.fr 3 rfl)))
  refine shown hkC _ _ (by (try dsimp only); (exact sat.rd 0 (by repeat (with_reducible first | exact K.out | apply sat.alloc_any | apply sat.drew | apply sat.drewN)) rfl)) ?_; clear hkC kC hHeld; intro hHeld
  (try simp only [Act.put, p0, p1, p2])
  refine wpAnyH_ready (rs := [3]) (by kernel_rfl) (by simp) ?_
  refine AllReadyH.cons (o := _) rfl (fun kC hkC => ?_) AllReadyH.nil
  go_simp
  (first | (go_at_call 84; (with_reducible refine ((CM _).out).mono ?_); rintro e w1 ⟨rfl, hb⟩; have K1 := sat.grown (show sat _ _ _ from by first | exact K.out | exact K.out.drew) hb; clear hb; have K2 := Lib.hid K1; clear K1 K; (try clear a0); (try clear l0); (try clear f0); (try clear a1); (try clear l1); (try clear f1); (try clear a2); (try clear l2); (try clear f2); (try clear a3); (try clear l3); (try clear f3); (try clear a4); (try clear l4); (try clear f4); (try clear a5); (try clear l5); (try clear f5); have K := K2; clear K2; (try have a0 := K.out.rd 0 rfl); (try have l0 := K.out.ltp 0 rfl); (try have f0 := K.out.fr 0 rfl); (try have a1 := K.out.rd 1 rfl); (try have l1 := K.out.ltp 1 rfl); (try have f1 := K.out.fr 1 rfl); (try have a2 := K.out.rd 2 rfl); (try have l2 := K.out.ltp 2 rfl); (try have f2 := K.out.fr 2 rfl); (try have a3 := K.out.rd 3 rfl); (try have l3 := K.out.ltp 3 rfl); (try have f3 := K.out.fr 3 rfl)) | (go_at_call 85; (with_reducible refine ((TM _).out).mono ?_); rintro e w1 ⟨rfl, hb⟩; have K1 := sat.grown (show sat _ _ _ from by first | exact K.out | exact K.out.drew) hb; clear hb; have K2 := Lib.hid K1; clear K1 K; (try clear a0); (try clear l0); (try clear f0); (try clear a1); (try clear l1); (try clear f1); (try clear a2); (try clear l2); (try clear f2); (try clear a3); (try clear l3); (try clear f3); (try clear a4); (try clear l4); (try clear f4); (try clear a5); (try clear l5); (try clear f5); have K := K2; clear K2; (try have a0 := K.out.rd 0 rfl); (try have l0 := K.out.ltp 0 rfl); (try have f0 := K.out.fr 0 rfl); (try have a1 := K.out.rd 1 rfl); (try have l1 := K.out.ltp 1 rfl); (try have f1 := K.out.fr 1 rfl); (try have a2 := K.out.rd 2 rfl); (try have l2 := K.out.ltp 2 rfl); (try have f2 := K.out.fr 2 rfl); (try have a3 := K.out.rd 3 rfl); (try have l3 := K.out.ltp 3 rfl); (try have f3 := K.out.fr 3 rfl)))
  refine shown hkC _ _ (by (try dsimp only); (exact sat.rd 0 (by repeat (with_reducible first | exact K.out | apply sat.alloc_any | apply sat.drew | apply sat.drewN)) rfl)) ?_; clear hkC kC hHeld; intro hHeld
  (try simp only [Act.put, p0, p1, p2])
  refine tk 4 (some 7) ?_
  (try simp only [Act.put, p0, p1, p2])
  refine tk 5 (some 8) ?_
  (try simp only [Act.put, p0, p1, p2])
  refine tk 6 (some 2) ?_
  (try simp only [Act.put, p0, p1, p2])
  refine wpAnyH_done (by kernel_rfl) (NoPanic.normal ?_) _
  all_goals
    go_wp2
    go_ret
    exact ⟨by first | rfl | exact ret_i (by first | rfl | exact v2 | exact u2), (show sat w _ _ from by first | exact K.out | exact K.out.drew).below⟩
theorem bput_calls (c : ConfM) (hc : c.ok) (w : World) : Tells 43 #[confVal c] w (.int .i64 (PutM.most c)) := by
  have K := Lib.hid (sat.start w)
  have PM := fun w => Lib.hid (pmost_calls c hc w)
  go_enter Tryz.func43, Tryz.ntmps43
  go_wp2_with (first | ((with_reducible refine at_box ?_); refine st_boxf K.out rfl rfl (fun _ => rfl) ?_; intro g1 w1 K1; have K2 := Lib.hid K1; clear K1 K; (try clear a0); (try clear l0); (try clear a1); (try clear l1); (try clear a2); (try clear l2); have K := K2; clear K2; have a0 := K.out.rd 0 rfl; have l0 := K.out.ltp 0 rfl) | (go_at_call 63; (with_reducible refine ((PM _).out).mono ?_); rintro e w1 ⟨rfl, hb⟩; have K1 := sat.grown (by repeat (with_reducible first | exact K.out | apply sat.alloc_any | apply sat.drew | apply sat.drewN)) hb; clear hb; have K2 := Lib.hid K1; clear K1 K; (try clear a0); (try clear l0); (try clear a1); (try clear l1); (try clear a2); (try clear l2); have K := K2; clear K2; have a0 := K.out.rd 0 rfl; have l0 := K.out.ltp 0 rfl))
  go_ret
  exact ⟨by first | rfl | exact ret_i (by first | rfl | exact v4 | exact v2 | exact v1), K.out.below⟩
def bgetM (c : ConfM) (t : Int) : Int := (max t 0 + 1) * (4 * c.all + 10)
theorem bgetM_bd {c : ConfM} (hc : c.ok) {t : Int} (h : t ≤ 1000000) : 0 ≤ bgetM c t ∧ bgetM c t ≤ 20000000000 := by
  have := hc.all_bd
  unfold bgetM
  exact ⟨Int.mul_nonneg (by omega) (by omega), by have := Int.mul_le_mul (show max t 0 + 1 ≤ 1000001 by omega) (show 4 * c.all + 10 ≤ 16394 by omega) (by omega) (by omega); omega⟩
theorem bget_calls (c : ConfM) (hc : c.ok) (t : Int) (ht : t ≤ 1000000) (w : World) : Tells 42 #[confVal c, .int .i64 t] w (.int .i64 (bgetM c t)) := by
  have K := Lib.hid (sat.start w)
  have AL := fun w => Lib.hid (all_calls c w hc)
  have h1 := hc.all_bd
  have h2 := bgetM_bd hc ht
  unfold bgetM at *
  have v1 : wrap64 (max t 0 + 1) = max t 0 + 1 := w64 (by omega) (by omega)
  have v2 : wrap64 (4 * c.all) = 4 * c.all := w64 (by omega) (by omega)
  have v3 : wrap64 (4 * c.all + 10) = 4 * c.all + 10 := w64 (by omega) (by omega)
  have v4 : wrap64 ((max t 0 + 1) * (4 * c.all + 10)) = (max t 0 + 1) * (4 * c.all + 10) := w64 (by omega) (by omega)
  clear h1 h2 ht
  go_enter Tryz.func42, Tryz.ntmps42
  go_wp2_with (first | ((with_reducible refine at_box ?_); refine st_boxf K.out rfl rfl (fun _ => rfl) ?_; intro g1 w1 K1; have K2 := Lib.hid K1; clear K1 K; (try clear a0); (try clear l0); (try clear a1); (try clear l1); (try clear a2); (try clear l2); have K := K2; clear K2; have a0 := K.out.rd 0 rfl; have l0 := K.out.ltp 0 rfl) | (go_at_call 31; (with_reducible refine ((AL _).out).mono ?_); rintro e w1 ⟨rfl, hb⟩; have K1 := sat.grown (by repeat (with_reducible first | exact K.out | apply sat.alloc_any | apply sat.drew | apply sat.drewN)) hb; clear hb; have K2 := Lib.hid K1; clear K1 K; (try clear a0); (try clear l0); (try clear a1); (try clear l1); (try clear a2); (try clear l2); have K := K2; clear K2; have a0 := K.out.rd 0 rfl; have l0 := K.out.ltp 0 rfl))
  go_ret
  exact ⟨by first | rfl | exact ret_i (by first | rfl | exact v4 | exact v2 | exact v1), K.out.below⟩
theorem bgetM_th {c : ConfM} (hc : c.ok) : bgetM c c.th = (c.th + 1) * (4 * c.all + 10) := by
  have := hc.th1
  unfold bgetM
  rw [show max c.th 0 = c.th by omega]
theorem longM_bd {c : ConfM} (hc : c.ok) : 0 ≤ longM c ∧ longM c ≤ 20000000000 ∧ 0 ≤ c.th * longM c ∧ c.th * longM c ≤ 2000000000000 := by
  have h1 := hc.sl_th
  have h2 := TickM.most_bd hc
  have h3 := bgetM_bd hc (t := c.th) (by have := hc.th2; omega)
  have h4 := hc.th1
  have h5 := hc.th2
  rw [bgetM_th hc] at h3
  have h6 : 0 ≤ longM c ∧ longM c ≤ 20000000000 := by
    unfold longM PutM.most
    omega
  exact ⟨h6.1, h6.2, Int.mul_nonneg (by omega) h6.1, by have := Int.mul_le_mul h5 h6.2 h6.1 (by omega); omega⟩
theorem window_calls (c : ConfM) (hc : c.ok) (w : World) : Tells 39 #[confVal c] w (.int .i64 (windowM c)) := by
  have K := Lib.hid (sat.start w)
  have BP := fun w => Lib.hid (bput_calls c hc w)
  have BG := fun w => Lib.hid (bget_calls c hc c.th (by have := hc.th2; omega) w)
  have h0 := longM_bd hc
  rw [bgetM_th hc] at BG
  unfold windowM
  unfold longM at *
  generalize PutM.most c = A at *
  generalize (c.th + 1) * (4 * c.all + 10) = B at *
  have v1 : wrap64 (c.th * max A B) = c.th * max A B := w64 (by omega) (by omega)
  have v2 : wrap64 (c.th * max A B + 1) = c.th * max A B + 1 := w64 (by omega) (by omega)
  have u1 : IntKind.i64.wrap (c.th * max A B) = c.th * max A B := wi (by omega) (by omega)
  have u2 : IntKind.i64.wrap (c.th * max A B + 1) = c.th * max A B + 1 := wi (by omega) (by omega)
  clear h0
  go_enter Tryz.func39, Tryz.ntmps39
  go_wp2_with (first | ((with_reducible refine at_box ?_); refine st_boxf K.out rfl rfl (fun _ => rfl) ?_; intro g1 w1 K1; have K2 := Lib.hid K1; clear K1 K; (try clear a0); (try clear l0); (try clear a1); (try clear l1); (try clear a2); (try clear l2); have K := K2; clear K2; have a0 := K.out.rd 0 rfl; have l0 := K.out.ltp 0 rfl))
  refine wp_region_noPanic ?_
  refine wp_region_held_drew (S := (fun w' => (∀ j, w'.cell? ⟨g1, j, none⟩ = ([.int .i64 c.th, .int .i64 c.sl, .int .i64 c.src, .int .i64 c.dl] : List Value)[j]?))) (by kernel_rfl) ?_ (fun hHeld => ?_)
  · ((try dsimp only); (exact sat.rd 0 (by repeat (with_reducible first | exact K.out | apply sat.alloc_any | apply sat.drew | apply sat.drewN)) rfl))
  refine tk 0 (some 3) ?_
  (try simp only [Act.put, p0, p1, p2])
  refine tk 1 (some 4) ?_
  (try simp only [Act.put, p0, p1, p2])
  refine tk 2 (some 5) ?_
  (try simp only [Act.put, p0, p1, p2])
  refine tk 4 (some 7) ?_
  (try simp only [Act.put, p0, p1, p2])
  refine tk 5 (some 8) ?_
  (try simp only [Act.put, p0, p1, p2])
  refine tk 6 (some 9) ?_
  (try simp only [Act.put, p0, p1, p2])
  refine wpAnyH_ready (rs := [3]) (by kernel_rfl) (by simp) ?_
  refine AllReadyH.cons (o := _) rfl (fun kC hkC => ?_) AllReadyH.nil
  go_simp
  (first | (go_at_call 43; (with_reducible refine ((BP _).out).mono ?_); rintro e w1 ⟨rfl, hb⟩; have K1 := sat.grown (show sat _ _ _ from by first | exact K.out | exact K.out.drew) hb; clear hb; have K2 := Lib.hid K1; clear K1 K; (try clear a0); (try clear l0); (try clear f0); (try clear a1); (try clear l1); (try clear f1); (try clear a2); (try clear l2); (try clear f2); (try clear a3); (try clear l3); (try clear f3); (try clear a4); (try clear l4); (try clear f4); (try clear a5); (try clear l5); (try clear f5); have K := K2; clear K2; (try have a0 := K.out.rd 0 rfl); (try have l0 := K.out.ltp 0 rfl); (try have f0 := K.out.fr 0 rfl); (try have a1 := K.out.rd 1 rfl); (try have l1 := K.out.ltp 1 rfl); (try have f1 := K.out.fr 1 rfl); (try have a2 := K.out.rd 2 rfl); (try have l2 := K.out.ltp 2 rfl); (try have f2 := K.out.fr 2 rfl); (try have a3 := K.out.rd 3 rfl); (try have l3 := K.out.ltp 3 rfl); (try have f3 := K.out.fr 3 rfl)) | (go_at_call 42; (with_reducible refine ((BG _).out).mono ?_); rintro e w1 ⟨rfl, hb⟩; have K1 := sat.grown (show sat _ _ _ from by first | exact K.out | exact K.out.drew) hb; clear hb; have K2 := Lib.hid K1; clear K1 K; (try clear a0); (try clear l0); (try clear f0); (try clear a1); (try clear l1); (try clear f1); (try clear a2); (try clear l2); (try clear f2); (try clear a3); (try clear l3); (try clear f3); (try clear a4); (try clear l4); (try clear f4); (try clear a5); (try clear l5); (try clear f5); have K := K2; clear K2; (try have a0 := K.out.rd 0 rfl); (try have l0 := K.out.ltp 0 rfl); (try have f0 := K.out.fr 0 rfl); (try have a1 := K.out.rd 1 rfl); (try have l1 := K.out.ltp 1 rfl); (try have f1 := K.out.fr 1 rfl); (try have a2 := K.out.rd 2 rfl); (try have l2 := K.out.ltp 2 rfl); (try have f2 := K.out.fr 2 rfl); (try have a3 := K.out.rd 3 rfl); (try have l3 := K.out.ltp 3 rfl); (try have f3 := K.out.fr 3 rfl)))
  refine shown hkC _ _ (by (try dsimp only); (exact sat.rd 0 (by repeat (with_reducible first | exact K.out | apply sat.alloc_any | apply sat.drew | apply sat.drewN)) rfl)) ?_; clear hkC kC hHeld; intro hHeld
  (try simp only [Act.put, p0, p1, p2])
  refine wpAnyH_ready (rs := [7]) (by kernel_rfl) (by simp) ?_
  refine AllReadyH.cons (o := _) rfl (fun kC hkC => ?_) AllReadyH.nil
  go_simp
  (first | (go_at_call 43; (with_reducible refine ((BP _).out).mono ?_); rintro e w1 ⟨rfl, hb⟩; have K1 := sat.grown (show sat _ _ _ from by first | exact K.out | exact K.out.drew) hb; clear hb; have K2 := Lib.hid K1; clear K1 K; (try clear a0); (try clear l0); (try clear f0); (try clear a1); (try clear l1); (try clear f1); (try clear a2); (try clear l2); (try clear f2); (try clear a3); (try clear l3); (try clear f3); (try clear a4); (try clear l4); (try clear f4); (try clear a5); (try clear l5); (try clear f5); have K := K2; clear K2; (try have a0 := K.out.rd 0 rfl); (try have l0 := K.out.ltp 0 rfl); (try have f0 := K.out.fr 0 rfl); (try have a1 := K.out.rd 1 rfl); (try have l1 := K.out.ltp 1 rfl); (try have f1 := K.out.fr 1 rfl); (try have a2 := K.out.rd 2 rfl); (try have l2 := K.out.ltp 2 rfl); (try have f2 := K.out.fr 2 rfl); (try have a3 := K.out.rd 3 rfl); (try have l3 := K.out.ltp 3 rfl); (try have f3 := K.out.fr 3 rfl)) | (go_at_call 42; (with_reducible refine ((BG _).out).mono ?_); rintro e w1 ⟨rfl, hb⟩; have K1 := sat.grown (show sat _ _ _ from by first | exact K.out | exact K.out.drew) hb; clear hb; have K2 := Lib.hid K1; clear K1 K; (try clear a0); (try clear l0); (try clear f0); (try clear a1); (try clear l1); (try clear f1); (try clear a2); (try clear l2); (try clear f2); (try clear a3); (try clear l3); (try clear f3); (try clear a4); (try clear l4); (try clear f4); (try clear a5); (try clear l5); (try clear f5); have K := K2; clear K2; (try have a0 := K.out.rd 0 rfl); (try have l0 := K.out.ltp 0 rfl); (try have f0 := K.out.fr 0 rfl); (try have a1 := K.out.rd 1 rfl); (try have l1 := K.out.ltp 1 rfl); (try have f1 := K.out.fr 1 rfl); (try have a2 := K.out.rd 2 rfl); (try have l2 := K.out.ltp 2 rfl); (try have f2 := K.out.fr 2 rfl); (try have a3 := K.out.rd 3 rfl); (try have l3 := K.out.ltp 3 rfl); (try have f3 := K.out.fr 3 rfl)))
  refine shown hkC _ _ (by (try dsimp only); (exact sat.rd 0 (by repeat (with_reducible first | exact K.out | apply sat.alloc_any | apply sat.drew | apply sat.drewN)) rfl)) ?_; clear hkC kC hHeld; intro hHeld
  (try simp only [Act.put, p0, p1, p2])
  refine tk 8 (some 11) ?_
  (try simp only [Act.put, p0, p1, p2])
  refine tk 9 (some 12) ?_
  (try simp only [Act.put, p0, p1, p2])
  refine tk 10 (some 13) ?_
  (try simp only [Act.put, p0, p1, p2])
  refine tk 11 (some 2) ?_
  (try simp only [Act.put, p0, p1, p2])
  refine wpAnyH_done (by kernel_rfl) (NoPanic.normal ?_) _
  all_goals
    go_wp2
    go_ret
    exact ⟨by first | rfl | exact ret_i (by first | rfl | exact v2 | exact u2), (show sat w _ _ from by first | exact K.out | exact K.out.drew).below⟩
/-! ### The greatest number of steps between two ends -/
def gapF (r : Int × Int) (a : Int) : Int × Int := (max r.1 (a - r.2), a)
def gapsM (l : List Int) (all : Int) : Int := max (l.foldl gapF (0, -1)).1 (all - (l.foldl gapF (0, -1)).2 - 1)
theorem gap_bd : ∀ (l : List Int) (h : ∀ x ∈ l, 0 ≤ x ∧ x ≤ 100000), (-1 ≤ (l.foldl gapF (0, -1)).2 ∧ (l.foldl gapF (0, -1)).2 ≤ 100000) ∧ 0 ≤ (l.foldl gapF (0, -1)).1 ∧ (l.foldl gapF (0, -1)).1 ≤ 200000 := by
  intro l
  generalize hl : l.reverse = k
  obtain rfl : l = k.reverse := by rw [← hl, List.reverse_reverse]
  clear hl
  induction k with
  | nil => intro _; exact ⟨⟨Int.le_refl _, by decide⟩, Int.le_refl _, by decide⟩
  | cons a k ih =>
    intro h
    rw [List.reverse_cons] at h ⊢
    rw [List.foldl_append]
    have := ih (fun x hx => h x (by simp at hx ⊢; exact .inl hx))
    have ha := h a (by simp)
    generalize k.reverse.foldl gapF (0, -1) = r at *
    show (-1 ≤ a ∧ a ≤ 100000) ∧ 0 ≤ max r.1 (a - r.2) ∧ max r.1 (a - r.2) ≤ 200000
    omega
theorem gaps_take (l : List Int) (n : Nat) (h : n < l.length) : (l.take (n + 1)).foldl gapF (0, -1) = gapF ((l.take n).foldl gapF (0, -1)) l[n] := by
  rw [List.take_succ_eq_append_getElem h, List.foldl_append]; rfl
theorem gaps_calls (p : Option Addr) (l : List Int) (k : Nat) (all : Int) (ha : 0 ≤ all ∧ all ≤ 100000) (hb : ∀ x ∈ l, 0 ≤ x ∧ x ≤ 100000) (hl : l.length ≤ 100000) (w : World) (ho : OldS (fun x => [Value.int .i64 x]) 1 w p l) :
    Tells 38 #[.slice p l.length k, .int .i64 all] w (.int .i64 (gapsM l all)) := by
  have K := Lib.hid (sat.start w)
  have H := Lib.hid ho
  have HB := Lib.hid hb
  have hb2 := gap_bd l hb
  unfold gapsM
  clear ho hb
  go_enter Tryz.func38, Tryz.ntmps38
  go_wp2_with fail
  go_loopg [11, 5, 6] l.length (fun GG i m q w' => ∃ n : Nat, n + GG = l.length ∧ i = .int .i64 n ∧ m = .int .i64 ((l.take n).foldl gapF (0, -1)).1 ∧ q = .int .i64 ((l.take n).foldl gapF (0, -1)).2 ∧ sat w w' [])
  case atStart => exact ⟨0, by simp, rfl, rfl, rfl, K.out⟩
  case round =>
    obtain ⟨n, hn, rfl, rfl, rfl, hs⟩ := hrel
    clear K
    have K := Lib.hid hs
    clear hs
    have HN := Lib.hid hn
    by_cases hlt : n < l.length
    · have d0 : decide (n < l.length) = true := by simpa using hlt
      obtain ⟨b, off, rfl, hb0, hx0⟩ := H.out n hlt
      have y0 : wr.cell? ⟨b, off + n, none⟩ = some (.int .i64 l[n]) := (K.out.below.cell (p := ⟨b, off + n, none⟩) hb0).trans (by have := hx0 0 _ rfl; simpa using this)
      clear hx0
      have h3 := gap_bd (l.take n) (fun x hx => HB.out x (List.mem_of_mem_take hx))
      have h4 := HB.out l[n] (List.getElem_mem _)
      have GT := Lib.hid (gaps_take l n hlt)
      generalize l[n] = a at *
      generalize (l.take n).foldl gapF (0, -1) = r at *
      obtain ⟨r1, r2⟩ := r
      dsimp only at *
      have v1 : wrap64 (a - r2) = a - r2 := w64 (by omega) (by omega)
      obtain ⟨gk', rfl⟩ : ∃ g', gk = g' + 1 := ⟨gk - 1, by omega⟩
      have hn5 : n < 200000 := by omega
      clear hn h3 h4 hb2
      go_wp2_with fail
      go_roundg gk'
      case measure => omega
      case rel => exact ⟨n + 1, by have := HN.out; omega, by first | (simp; done) | (simp; exact w64 (by omega) (by omega)), by rw [GT.out]; rfl, by rw [GT.out]; rfl, K.out⟩
    · have d0 : decide (n < l.length) = false := by simpa using hlt
      have hnl : n = l.length := by omega
      subst hnl
      rw [List.take_length] at *
      rcases hr : l.foldl gapF (0, -1) with ⟨r1, r2⟩
      rw [hr] at hb2
      have HR := Lib.hid hr
      clear hr
      dsimp only at hb2
      have v1 : wrap64 (all - r2) = all - r2 := w64 (by omega) (by omega)
      have v2 : wrap64 (all - r2 - 1) = all - r2 - 1 := w64 (by omega) (by omega)
      clear hn hb2 hlt
      go_wp2_with fail
      go_ret
      exact ⟨ret_i (by simp only [HR.out, v1, v2]), K.out.below⟩
theorem head16_calls (w : World) : Tells 36 #[] w (.bool true) := by
  have K := Lib.hid (sat.start w)
  have hc : (⟨1, 1, 0, 0⟩ : ConfM).ok := by constructor <;> decide
  have BP := fun w => Lib.hid (show Tells 43 #[.agg #[.int .i64 1, .int .i64 1, .int .i64 0, .int .i64 0]] w (.int .i64 5) from bput_calls ⟨1, 1, 0, 0⟩ hc w)
  have BG := fun w => Lib.hid (show Tells 42 #[.agg #[.int .i64 1, .int .i64 1, .int .i64 0, .int .i64 0], .int .i64 0] w (.int .i64 14) from bget_calls ⟨1, 1, 0, 0⟩ hc 0 (by decide) w)
  have BW := fun w => Lib.hid (show Tells 39 #[.agg #[.int .i64 1, .int .i64 1, .int .i64 0, .int .i64 0]] w (.int .i64 29) from window_calls ⟨1, 1, 0, 0⟩ hc w)
  have G1 := fun w p k (h : OldS (fun x => [Value.int .i64 x]) 1 w p [2, 9]) => Lib.hid (show Tells 38 #[.slice p 2 k, .int .i64 12] w (.int .i64 7) from gaps_calls p [2, 9] k 12 (by decide) (by decide) (by decide) w h)
  have G2 := fun w => Lib.hid (show Tells 38 #[.slice none 0 0, .int .i64 4] w (.int .i64 4) from gaps_calls none [] 0 4 (by decide) (by decide) (by decide) w (fun j hj => by simp at hj))
  go_enter Tryz.func36, Tryz.ntmps36
  go_wp2_with fail
  have K1 : sat w (World.alloc _ (.cells #[.int .i64 1, .int .i64 1, .int .i64 0, .int .i64 0] 26)) _ := K.out.alloc _
  clear K
  have K := Lib.hid K1
  clear K1
  have a0 := K.out.rd 0 rfl; have l0 := K.out.ltp 0 rfl
  go_wp2_with (first | (go_at_call 43; (with_reducible refine ((BP _).out).mono ?_); rintro e w1 ⟨rfl, hb⟩; have K1 := sat.grown (by repeat (with_reducible first | exact K.out | apply sat.alloc_any | apply sat.drew | apply sat.drewN)) hb; clear hb; have K2 := Lib.hid K1; clear K1 K; (try clear a0); (try clear l0); (try clear a1); (try clear l1); (try clear a2); (try clear l2); have K := K2; clear K2; have a0 := K.out.rd 0 rfl; have l0 := K.out.ltp 0 rfl) | (go_at_call 42; (with_reducible refine ((BG _).out).mono ?_); rintro e w1 ⟨rfl, hb⟩; have K1 := sat.grown (by repeat (with_reducible first | exact K.out | apply sat.alloc_any | apply sat.drew | apply sat.drewN)) hb; clear hb; have K2 := Lib.hid K1; clear K1 K; (try clear a0); (try clear l0); (try clear a1); (try clear l1); (try clear a2); (try clear l2); have K := K2; clear K2; have a0 := K.out.rd 0 rfl; have l0 := K.out.ltp 0 rfl) | (go_at_call 39; (with_reducible refine ((BW _).out).mono ?_); rintro e w1 ⟨rfl, hb⟩; have K1 := sat.grown (by repeat (with_reducible first | exact K.out | apply sat.alloc_any | apply sat.drew | apply sat.drewN)) hb; clear hb; have K2 := Lib.hid K1; clear K1 K; (try clear a0); (try clear l0); (try clear a1); (try clear l1); (try clear a2); (try clear l2); have K := K2; clear K2; have a0 := K.out.rd 0 rfl; have l0 := K.out.ltp 0 rfl) | (go_at_call 38; (with_reducible refine ((G2 _).out).mono ?_); rintro e w1 ⟨rfl, hb⟩; have K1 := sat.grown (by repeat (with_reducible first | exact K.out | apply sat.alloc_any | apply sat.drew | apply sat.drewN)) hb; clear hb; have K2 := Lib.hid K1; clear K1 K; (try clear a0); (try clear l0); (try clear a1); (try clear l1); (try clear a2); (try clear l2); have K := K2; clear K2; have a0 := K.out.rd 0 rfl; have l0 := K.out.ltp 0 rfl) | (have KA : sat w (World.alloc _ (.cells #[.int .i64 2, .int .i64 9] 3)) _ := K.out.alloc _; have o1 := oldS_row (V := fun x => [Value.int .i64 x]) (k := 1) (l := [2, 9]) (fun _ => rfl) (show sat w _ (rowA (.slice (some ⟨_, 0, none⟩) 2 2) 3 1 2 [.int .i64 2, .int .i64 9] :: _) from sat.row_shut rfl (Nat.le_refl _) (by simp [maxLen]) rfl rfl KA); (go_at_call 38; (with_reducible refine ((G1 _ _ _ o1).out).mono ?_); rintro e w1 ⟨rfl, hb⟩; have K1 := sat.grown (by repeat (with_reducible first | exact K.out | apply sat.alloc_any | apply sat.drew | apply sat.drewN)) hb; clear hb; have K2 := Lib.hid K1; clear K1 K; (try clear a0); (try clear l0); (try clear a1); (try clear l1); (try clear a2); (try clear l2); have K := K2; clear K2; have a0 := K.out.rd 0 rfl; have l0 := K.out.ltp 0 rfl)))
  go_ret
  exact ⟨rfl, K.out.below⟩
end Go.Proofs.YtegdhojhnmgjgaaGreat
