/- A Put ends within as many steps of its own as the document says, whatever others do meanwhile: plain lemmas on the model. -/
import Derived.Test.YtlnfbfnccefcnaaModel
namespace Go.Proofs.Ytlnfbfnccefcnaa
set_option linter.unusedSimpArgs false
set_option linter.unusedVariables false
/-! ### A place -/
def ClaimM.meas (c : ClaimM) : Int := (c.conf.sl - 1 - c.k) * (c.conf.th + 1) + (if c.guard < 0 then c.conf.th + 1 else c.conf.th - c.guard)
structure ClaimM.inv (c : ClaimM) : Prop where
  th : 1 ≤ c.conf.th
  k0 : 0 ≤ c.k
  k1 : c.k < c.conf.sl
  g : c.phase = 0 → c.guard < c.conf.th
  p : c.phase = 0 ∨ c.phase = 1 ∨ c.phase = 2
theorem ClaimM.meas_pos {c : ClaimM} (h : c.inv) (hp : c.phase = 0) : 1 ≤ c.meas := by
  have h1 := h.k1
  have h2 := h.th
  have h3 := h.g hp
  have h4 : 0 ≤ (c.conf.sl - 1 - c.k) * (c.conf.th + 1) := Int.mul_nonneg (by omega) (by omega)
  unfold ClaimM.meas
  generalize (c.conf.sl - 1 - c.k) * (c.conf.th + 1) = A at *
  split <;> omega
structure ClaimM.fell (c c' : ClaimM) : Prop where
  inv : c'.inv
  conf : c'.conf = c.conf
  who : c'.who = c.who
  meas : c'.phase = 0 → c'.meas + 1 ≤ c.meas
theorem ClaimM.pass_fell {c : ClaimM} (h : c.inv) (hp : c.phase = 0) : c.fell c.pass := by
  have h1 := h.k1
  have h2 := h.th
  have h3 := h.g hp
  have h0 := h.k0
  unfold ClaimM.pass
  split
  · exact ⟨⟨h2, h0, h1, (fun q => by cases q), .inr (.inr rfl)⟩, rfl, rfl, (fun q => by cases q)⟩
  · refine ⟨⟨h2, by show 0 ≤ c.k + 1; omega, by show c.k + 1 < c.conf.sl; omega, fun _ => by show (-1 : Int) < c.conf.th; omega, .inl hp⟩, rfl, rfl, fun _ => ?_⟩
    unfold ClaimM.meas
    show (c.conf.sl - 1 - (c.k + 1)) * (c.conf.th + 1) + (if (-1 : Int) < 0 then c.conf.th + 1 else c.conf.th - (-1)) + 1 ≤ _
    rw [if_pos (by decide), show c.conf.sl - 1 - (c.k + 1) = (c.conf.sl - 1 - c.k) - 1 by omega, Int.sub_mul, Int.one_mul]
    generalize (c.conf.sl - 1 - c.k) * (c.conf.th + 1) = A
    split <;> omega
theorem ClaimM.fell_word {c c' : ClaimM} {w : WordM} (h : ({ c with word := w } : ClaimM).fell c') : c.fell c' := ⟨h.inv, h.conf, h.who, h.meas⟩
theorem ClaimM.step_fell {c : ClaimM} {m : MemM} (h : c.inv) (hp : c.phase = 0) : c.fell (c.step m).1 := by
  have h1 := h.k1
  have h2 := h.th
  have h3 := h.g hp
  have h0 := h.k0
  unfold ClaimM.step
  rw [if_neg (by omega)]
  split
  · rename_i hg
    have hi : ({ c with word := unpack (m.peek c.slot) } : ClaimM).inv := ⟨h2, h0, h1, h.g, h.p⟩
    unfold ClaimM.look
    dsimp only
    split
    · exact ClaimM.fell_word (ClaimM.pass_fell hi hp)
    · split
      · exact ⟨⟨h2, h0, h1, (fun q => by cases q), .inr (.inl rfl)⟩, rfl, rfl, (fun q => by cases q)⟩
      · split
        · refine ⟨⟨h2, h0, h1, fun _ => by show (0 : Int) < c.conf.th; omega, .inl hp⟩, rfl, rfl, fun _ => ?_⟩
          unfold ClaimM.meas
          show (c.conf.sl - 1 - c.k) * (c.conf.th + 1) + (if (0 : Int) < 0 then c.conf.th + 1 else c.conf.th - 0) + 1 ≤ _
          rw [if_neg (by decide), if_pos hg]
          omega
        · exact ClaimM.fell_word (ClaimM.pass_fell hi hp)
  · rename_i hg
    dsimp only
    split
    · exact ClaimM.pass_fell h hp
    · split
      · exact ⟨⟨h2, h0, h1, (fun q => by cases q), .inr (.inl rfl)⟩, rfl, rfl, (fun q => by cases q)⟩
      · refine ⟨⟨h2, h0, h1, fun _ => by show c.guard + 1 < c.conf.th; omega, .inl hp⟩, rfl, rfl, fun _ => ?_⟩
        unfold ClaimM.meas
        show (c.conf.sl - 1 - c.k) * (c.conf.th + 1) + (if c.guard + 1 < 0 then c.conf.th + 1 else c.conf.th - (c.guard + 1)) + 1 ≤ _
        rw [if_neg (by omega), if_neg hg]
        omega
/-! ### A stamp -/
def TickM.most (c : ConfM) : Int := if c.src = 1 then c.th + 1 else if c.src = 2 then 4 else if c.src = 4 then c.dl + 2 else 1
structure TickM.inv (t : TickM) : Prop where
  s0 : 0 ≤ t.steps
  s1 : t.phase = 0 → t.steps < TickM.most t.conf
  p : t.phase = 0 ∨ t.phase = 1 ∨ t.phase = 2
structure TickM.fell (t t' : TickM) : Prop where
  inv : t'.inv
  conf : t'.conf = t.conf
  who : t'.who = t.who
  steps : t'.steps = t.steps + 1
theorem tdoneE (t : TickM) (s : StampM) : (t.done s).conf = t.conf ∧ (t.done s).who = t.who ∧ (t.done s).steps = t.steps ∧ ((t.done s).phase = 1 ∨ (t.done s).phase = 2) := by
  unfold TickM.done; split
  · exact ⟨rfl, rfl, rfl, .inl rfl⟩
  · exact ⟨rfl, rfl, rfl, .inr rfl⟩
theorem TickM.fell_done {t u : TickM} (s : StampM) (h : t.inv) (hc : u.conf = t.conf) (hw : u.who = t.who) (hs : u.steps = t.steps) : t.fell { u.done s with steps := (u.done s).steps + 1 } := by
  obtain ⟨a, b, c, d⟩ := tdoneE u s
  have h0 := h.s0
  refine ⟨⟨?_, ?_, .inr d⟩, a.trans hc, b.trans hw, ?_⟩
  · show 0 ≤ (u.done s).steps + 1; omega
  · intro q
    have q' : (u.done s).phase = 0 := q
    omega
  · show (u.done s).steps + 1 = _; omega
theorem TickM.fell_go {t u : TickM} (h : t.inv) (hc : u.conf = t.conf) (hw : u.who = t.who) (hs : u.steps = t.steps) (hp : u.phase = 0 ∨ u.phase = 1 ∨ u.phase = 2) (hm : t.steps + 1 < TickM.most t.conf) : t.fell { u with steps := u.steps + 1 } := by
  have h0 := h.s0
  refine ⟨⟨?_, fun _ => ?_, hp⟩, hc, hw, ?_⟩
  · show 0 ≤ u.steps + 1; omega
  · show u.steps + 1 < TickM.most u.conf; rw [hc]; omega
  · show u.steps + 1 = _; omega
theorem TickM.step_fell {t : TickM} {m : MemM} {now : Int} (h : t.inv) (hp : t.phase = 0) : t.fell (t.step m now).1 := by
  have hs := h.s1 hp
  have h0 := h.s0
  unfold TickM.step
  rw [if_neg (by omega)]
  dsimp only
  by_cases e0 : t.conf.src = 0
  · rw [if_pos e0]
    exact TickM.fell_done _ h rfl rfl rfl
  · rw [if_neg e0]
    by_cases e1 : t.conf.src = 1
    · rw [if_pos e1]
      have hm : TickM.most t.conf = t.conf.th + 1 := by unfold TickM.most; rw [if_pos e1]
      unfold TickM.stutter
      split
      · rename_i q
        exact TickM.fell_go (u := { t with a := max t.a (t.read m t.steps) }) h rfl rfl rfl h.p (by omega)
      · exact TickM.fell_done _ h rfl rfl rfl
    · rw [if_neg e1]
      by_cases e2 : t.conf.src = 2
      · rw [if_pos e2]
        have hm : TickM.most t.conf = 4 := by unfold TickM.most; rw [if_neg e1, if_pos e2]
        unfold TickM.swap
        split
        · exact TickM.fell_go (u := { t with a := t.read m 0, phase := if t.read m 0 ≥ Top then 2 else t.phase }) h rfl rfl rfl (by show (if t.read m 0 ≥ Top then (2 : Int) else t.phase) = 0 ∨ (if t.read m 0 ≥ Top then (2 : Int) else t.phase) = 1 ∨ (if t.read m 0 ≥ Top then (2 : Int) else t.phase) = 2; split <;> omega) (by omega)
        · split
          · dsimp only
            split
            · exact TickM.fell_done (u := { t with b := t.read m 0 }) _ h rfl rfl rfl
            · exact TickM.fell_go (u := { t with b := t.read m 0 }) h rfl rfl rfl h.p (by omega)
          · split
            · dsimp only
              split
              · exact TickM.fell_done _ h rfl rfl rfl
              · exact TickM.fell_go (u := t) h rfl rfl rfl h.p (by omega)
            · split
              · exact TickM.fell_done (u := { t with b := t.read m 0 }) _ h rfl rfl rfl
              · omega
      · rw [if_neg e2]
        by_cases e4 : t.conf.src = 4
        · rw [if_pos e4]
          have hm : TickM.most t.conf = t.conf.dl + 2 := by unfold TickM.most; rw [if_neg e1, if_neg e2, if_pos e4]
          by_cases q : t.steps = 0
          · rw [if_pos q]
            split
            · exact TickM.fell_go (u := { t with a := cap now }) h rfl rfl rfl h.p (by omega)
            · exact TickM.fell_done (u := { t with a := cap now }) _ h rfl rfl rfl
          · rw [if_neg q]
            split
            · exact TickM.fell_go (u := t) h rfl rfl rfl h.p (by omega)
            · exact TickM.fell_done (u := t) _ h rfl rfl rfl
        · rw [if_neg e4]
          exact TickM.fell_done _ h rfl rfl rfl
/-! ### A Put -/
def PutM.most (c : ConfM) : Int := c.sl * (c.th + 1) + TickM.most c + 2
def PutM.meas (p : PutM) : Int :=
  if p.phase ≠ 0 then 0
  else if p.claim.phase = 0 then p.claim.meas + TickM.most p.conf + 2
  else if p.tick.phase = 0 then TickM.most p.conf - p.tick.steps + 2
  else if p.stored = false then 2 else 1
structure PutM.inv (p : PutM) : Prop where
  claim : p.claim.inv
  tick : p.tick.inv
  cc : p.claim.conf = p.conf
  tc : p.tick.conf = p.conf
  ph : p.phase = 0 ∨ p.phase = 1 ∨ p.phase = 2
  most : 1 ≤ TickM.most p.conf
theorem TickM.most_pos {c : ConfM} (h1 : 1 ≤ c.th) (h3 : 0 ≤ c.dl) : 1 ≤ TickM.most c := by
  unfold TickM.most; (repeat' split) <;> omega
theorem PutM.new_inv {c : ConfM} (h1 : 1 ≤ c.th) (h2 : 1 ≤ c.sl) (h3 : 0 ≤ c.dl) (who fin value : Int) : (PutM.new c who fin value).inv :=
  ⟨⟨h1, Int.le_refl _, by show 0 < c.sl; omega, fun _ => by show (-1 : Int) < c.th; omega, .inl rfl⟩, ⟨Int.le_refl _, fun _ => by have := TickM.most_pos h1 h3; show 0 < TickM.most c; omega, .inl rfl⟩, rfl, rfl, .inl rfl, TickM.most_pos h1 h3⟩
theorem PutM.new_meas (c : ConfM) (who fin value : Int) : (PutM.new c who fin value).meas = PutM.most c := by
  unfold PutM.meas PutM.most
  rw [if_neg (show ¬ (PutM.new c who fin value).phase ≠ 0 from fun h => h rfl), if_pos (show (PutM.new c who fin value).claim.phase = 0 from rfl)]
  show (c.sl - 1 - 0) * (c.th + 1) + (if (-1 : Int) < 0 then c.th + 1 else c.th - (-1)) + TickM.most c + 2 = _
  rw [if_pos (by decide), show c.sl - 1 - 0 = c.sl - 1 by omega, Int.sub_mul, Int.one_mul]
  omega
theorem PutM.meas_pos {p : PutM} (h : p.inv) (hp : p.phase = 0) : 1 ≤ p.meas := by
  have h3 := h.most
  unfold PutM.meas
  rw [if_neg (by omega)]
  split
  · have := ClaimM.meas_pos h.claim (by assumption)
    omega
  · split
    · have := h.tick.s1 (by assumption)
      rw [h.tc] at this
      omega
    · split <;> omega
theorem PutM.meas_zero {p : PutM} (hp : p.phase ≠ 0) : p.meas = 0 := by unfold PutM.meas; rw [if_pos hp]
structure PutM.fell (p p' : PutM) : Prop where
  inv : p'.inv
  conf : p'.conf = p.conf
  who : p'.who = p.who
  meas : p'.meas + 1 ≤ p.meas
/-- Each step of a Put that is under way brings it nearer to its end. -/
theorem PutM.step_fell {p : PutM} {m : MemM} {now : Int} (h : p.inv) (hp : p.phase = 0) : p.fell (p.step m now).1 := by
  have h3 := h.most
  have hpos := PutM.meas_pos h hp
  have ht0 := h.tick.s0
  unfold PutM.step
  rw [if_neg (by omega)]
  split
  · rename_i q
    have f := ClaimM.step_fell (m := m) h.claim q
    have q0 := ClaimM.meas_pos h.claim q
    have e : p.meas = p.claim.meas + TickM.most p.conf + 2 := by unfold PutM.meas; rw [if_neg (by omega), if_pos q]
    dsimp only
    generalize (p.claim.step m).1 = c' at *
    have hi : ∀ ph : Int, (ph = 0 ∨ ph = 1 ∨ ph = 2) → ({ p with claim := c', phase := ph } : PutM).inv := fun ph hph => ⟨f.inv, h.tick, f.conf.trans h.cc, h.tc, hph, h.most⟩
    split
    · refine ⟨hi 2 (.inr (.inr rfl)), rfl, rfl, ?_⟩
      rw [PutM.meas_zero (show (2 : Int) ≠ 0 by decide)]; omega
    · refine ⟨hi p.phase h.ph, rfl, rfl, ?_⟩
      rw [e]
      unfold PutM.meas
      rw [if_neg (by show ¬ p.phase ≠ 0; omega)]
      dsimp only
      split
      · rename_i q2
        have := f.meas q2
        omega
      · split
        · omega
        · split <;> omega
  · rename_i q
    split
    · rename_i q2
      have f := TickM.step_fell (m := m) (now := now) h.tick q2
      have e : p.meas = TickM.most p.conf - p.tick.steps + 2 := by unfold PutM.meas; rw [if_neg (by omega), if_neg q, if_pos q2]
      dsimp only
      generalize (p.tick.step m now).1 = t' at *
      have hi : ∀ ph : Int, (ph = 0 ∨ ph = 1 ∨ ph = 2) → ({ p with tick := t', phase := ph } : PutM).inv := fun ph hph => ⟨h.claim, f.inv, h.cc, f.conf.trans h.tc, hph, h.most⟩
      have hs := h.tick.s1 q2
      rw [h.tc] at hs
      have hst := f.steps
      split
      · refine ⟨hi 2 (.inr (.inr rfl)), rfl, rfl, ?_⟩
        rw [PutM.meas_zero (show (2 : Int) ≠ 0 by decide)]; omega
      · refine ⟨hi p.phase h.ph, rfl, rfl, ?_⟩
        rw [e]
        unfold PutM.meas
        rw [if_neg (by show ¬ p.phase ≠ 0; omega)]
        dsimp only
        rw [if_neg q]
        split
        · omega
        · split <;> omega
    · rename_i q2
      split
      · rename_i q3
        refine ⟨⟨h.claim, h.tick, h.cc, h.tc, h.ph, h.most⟩, rfl, rfl, ?_⟩
        have e : p.meas = 2 := by unfold PutM.meas; rw [if_neg (by omega), if_neg q, if_neg q2, if_pos q3]
        have e2 : ({ p with stored := true } : PutM).meas = 1 := by unfold PutM.meas; rw [if_neg (by show ¬ p.phase ≠ 0; omega), if_neg q, if_neg q2, if_neg (show ¬ (true = false) by decide)]
        show ({ p with stored := true } : PutM).meas + 1 ≤ _
        omega
      · refine ⟨⟨h.claim, h.tick, h.cc, h.tc, .inr (.inl rfl), h.most⟩, rfl, rfl, ?_⟩
        rw [PutM.meas_zero (show (1 : Int) ≠ 0 by decide)]; omega
end Go.Proofs.Ytlnfbfnccefcnaa
