/- What one thread puts in, alone, another one gets at that end (TaskPairs answers true at every input). No condition beyond the row's own. -/
import Derived.Test.YtlnfbfnccefcnaaPutE
import Derived.Test.YtlnfbfnccefcnaaGetA
import Derived.Test.YtlnfbfnccefcnaaTaskR
import Derived.Test.YtlnfbfnccefcnaaTaskRests
namespace Go.Proofs.Ytlnfbfnccefcnaa
set_option linter.unusedSimpArgs false
set_option linter.unusedVariables false
theorem peek_touch {m : MemM} {c : ConfM} (hl : (m.cells.length : Int) = c.cells) {who op cell old next i : Int} (h0 : 0 ≤ cell) (h1 : cell < c.cells) (i0 : 0 ≤ i) (i1 : i < c.cells) :
    (m.touch who op cell old next).peek i = if i = cell then opNew op (m.peek cell) old next else m.peek i := by
  have hh := has_of hl h0 h1
  have hl' : ((m.touch who op cell old next).cells.length : Int) = c.cells := by rw [MemM.touch_length]; exact hl
  rw [peek_in (has_of hl' i0 i1), touch_in_cells hh, peek_in hh]
  split
  · rename_i e; subst e; rw [getI_setI_of _ _ _ h0 (by omega)]
  · rename_i e; rw [getI_setI_ne _ _ _ _ h0 i0 e, peek_in (has_of hl i0 i1)]
theorem peek_load {m : MemM} {who cell i : Int} : (m.touch who 0 cell 0 0).peek i = m.peek i := peek_cells (load_cells m who cell 0 0) i
theorem len_touch {m : MemM} {c : ConfM} (hl : (m.cells.length : Int) = c.cells) {who op cell old next : Int} : ((m.touch who op cell old next).cells.length : Int) = c.cells := by rw [MemM.touch_length]; exact hl
structure Calm (c : ConfM) (n : Int) (m : MemM) : Prop where
  len : (m.cells.length : Int) = c.cells
  word : ∀ i, 0 ≤ i → i < c.all → ((unpack (m.peek i)).state = 0 ∨ (unpack (m.peek i)).state = 2) ∧ (unpack (m.peek i)).gen ≤ n
  haz : ∀ t, 0 ≤ t → t < c.th → m.peek (c.hazard t) = 0
  num : ∀ t, 0 ≤ t → t < c.th → 0 ≤ m.peek (c.number t) ∧ m.peek (c.number t) ≤ n
structure TickJ (c : ConfM) (who n now : Int) (m : MemM) (t : TickM) : Prop where
  conf : t.conf = c
  who : t.who = who
  ph : t.phase = 0 ∨ t.phase = 1
  s0 : 0 ≤ t.steps
  st : t.phase = 1 → t.stamp.right = true
  num : ∀ i, 0 ≤ i → i < c.th → 0 ≤ m.peek (c.number i) ∧ m.peek (c.number i) ≤ n + 1 ∧ (t.phase = 0 → m.peek (c.number i) ≤ n)
  go1 : t.phase = 0 → c.src = 1 → 0 ≤ t.a ∧ t.a ≤ n
  go2 : t.phase = 0 → c.src = 2 → t.steps = 0 ∨ ((t.steps = 1 ∨ t.steps = 2) ∧ t.a = m.peek (c.number 0))
  go4 : t.phase = 0 → c.src = 4 → t.steps = 0 ∨ (0 ≤ t.a ∧ t.a ≤ now)
theorem TickJ.over {c : ConfM} {who n now now' : Int} {m m' : MemM} {t : TickM} (h : TickJ c who n now m t) (hc : c.ok) (e : ∀ i, 0 ≤ i → i < c.th → m'.peek (c.number i) = m.peek (c.number i)) (hn : now ≤ now') : TickJ c who n now' m' t :=
  ⟨h.conf, h.who, h.ph, h.s0, h.st, fun i i0 i1 => by rw [e i i0 i1]; exact h.num i i0 i1, h.go1, fun p s => by rw [e 0 (Int.le_refl _) (by have := hc.th1; omega)]; exact h.go2 p s, fun p s => by
    rcases h.go4 p s with q | ⟨q1, q2⟩
    · exact .inl q
    · exact .inr ⟨q1, by omega⟩⟩
theorem done_of {t : TickM} {s : StampM} (h : s.right = true) : t.done s = { t with phase := 1, stamp := s } := if_pos h
theorem st_right {a b : Int} (h0 : 0 ≤ a) (h1 : a ≤ b) (h2 : b < Top) : (StampM.mk a b).right = true := by
  unfold StampM.right
  simp only [Bool.and_eq_true, decide_eq_true_eq]
  exact ⟨⟨h0, h1⟩, h2⟩
theorem cap_of {x : Int} (h : x ≤ Top) : cap x = x := by unfold cap; omega
theorem tick_J {c : ConfM} (hc : c.ok) {who n now : Int} (w0 : 0 ≤ who) (w1 : who < c.th) {m : MemM} {t : TickM} (hl : (m.cells.length : Int) = c.cells) (hn : 0 ≤ n ∧ n ≤ 1000) (hnow : 0 ≤ now ∧ now ≤ 1000000) (h : TickJ c who n now m t) (hp : t.phase = 0) :
    TickJ c who n (now + 1) (t.step m now).2 (t.step m now).1 ∧ (∀ i, 0 ≤ i → i < c.cells → (∀ k, 0 ≤ k → k < c.th → i ≠ c.number k) → (t.step m now).2.peek i = m.peek i) ∧ (((t.step m now).2.cells.length : Nat) : Int) = c.cells := by
  obtain rfl := h.conf
  obtain rfl := h.who
  have hth := hc.th1
  have hs0 := h.s0
  have nb : ∀ k, 0 ≤ k → k < t.conf.th → 0 ≤ t.conf.number k ∧ t.conf.number k < t.conf.cells := fun k k0 k1 => by have := hc.all_bd; unfold ConfM.number ConfM.cells; omega
  have hT : Top = 16777215 := rfl
  have n0 := nb 0 (Int.le_refl _) (by omega)
  have nw := nb t.who w0 w1
  have x0 := h.num 0 (Int.le_refl _) (by omega)
  have x2 := x0.2.2 hp
  unfold TickM.step
  rw [if_neg (by omega)]
  dsimp only
  by_cases e0 : t.conf.src = 0
  · rw [if_pos e0, cap_of (by omega), done_of (st_right x0.1 (Int.le_refl _) (by omega))]
    refine ⟨⟨h.conf, h.who, .inr rfl, by show 0 ≤ t.steps + 1; omega, fun _ => st_right x0.1 (Int.le_refl _) (by omega), fun i i0 i1 => ?_, (fun q => by cases q), (fun q => by cases q), (fun q => by cases q)⟩, fun i i0 i1 hk => ?_, len_touch hl⟩
    · have hi := h.num i i0 i1
      have hb := nb i i0 i1
      show _ ∧ _ ∧ ((1 : Int) = 0 → _)
      rw [peek_touch hl n0.1 n0.2 hb.1 hb.2]
      have hi2 := hi.2.2 hp
      split
      · show 0 ≤ (m.peek (t.conf.number 0) + 1) % 18446744073709551616 ∧ (m.peek (t.conf.number 0) + 1) % 18446744073709551616 ≤ n + 1 ∧ ((1 : Int) = 0 → (m.peek (t.conf.number 0) + 1) % 18446744073709551616 ≤ n)
        omega
      · omega
    · rw [peek_touch hl n0.1 n0.2 i0 i1, if_neg (hk 0 (Int.le_refl _) (by omega))]
  · rw [if_neg e0]
    by_cases e1 : t.conf.src = 1
    · rw [if_pos e1]
      have ha := h.go1 hp e1
      unfold TickM.stutter
      by_cases hs : t.steps < t.conf.th
      · rw [if_pos hs]
        have hi := h.num t.steps hs0 hs
        have hi2 := hi.2.2 hp
        have er : t.read m t.steps = m.peek (t.conf.number t.steps) := by unfold TickM.read; rw [cap_of (by omega)]
        rw [er]
        refine ⟨⟨h.conf, h.who, .inl hp, by show 0 ≤ t.steps + 1; omega, (fun q => absurd (hp.symm.trans q) (by decide)), fun i i0 i1 => ?_, fun _ _ => ?_, (fun _ q => absurd (e1.symm.trans q) (by decide)), (fun _ q => absurd (e1.symm.trans q) (by decide))⟩, fun i i0 i1 hk => peek_load, len_touch hl⟩
        · show 0 ≤ (m.touch t.who 0 (t.conf.number t.steps) 0 0).peek (t.conf.number i) ∧ _
          unfold TickM.load
          rw [peek_load]; exact h.num i i0 i1
        · show 0 ≤ max t.a (m.peek (t.conf.number t.steps)) ∧ max t.a (m.peek (t.conf.number t.steps)) ≤ n
          omega
      · rw [if_neg hs]
        dsimp only
        have hr : (point (t.a + 1)).right = true := st_right (by omega) (Int.le_refl _) (by omega)
        rw [done_of hr]
        dsimp only
        rw [if_pos rfl]
        refine ⟨⟨h.conf, h.who, .inr rfl, by show 0 ≤ t.steps + 1; omega, fun _ => hr, fun i i0 i1 => ?_, (fun q => by cases q), (fun q => by cases q), (fun q => by cases q)⟩, fun i i0 i1 hk => ?_, len_touch hl⟩
        · have hi := h.num i i0 i1
          have hb := nb i i0 i1
          show _ ∧ _ ∧ ((1 : Int) = 0 → _)
          rw [peek_touch hl nw.1 nw.2 hb.1 hb.2]
          have hi2 := hi.2.2 hp
          split
          · show 0 ≤ t.a + 1 ∧ t.a + 1 ≤ n + 1 ∧ ((1 : Int) = 0 → t.a + 1 ≤ n)
            omega
          · omega
        · rw [peek_touch hl nw.1 nw.2 i0 i1, if_neg (hk t.who w0 w1)]
    · rw [if_neg e1]
      by_cases e2 : t.conf.src = 2
      · rw [if_pos e2]
        have hg := h.go2 hp e2
        have er : t.read m 0 = m.peek (t.conf.number 0) := by unfold TickM.read; rw [cap_of (by omega)]
        unfold TickM.swap
        rw [er]
        rcases hg with s0 | ⟨s1 | s2, ha⟩
        · rw [if_pos s0]
          dsimp only
          rw [if_neg (by omega)]
          refine ⟨⟨h.conf, h.who, .inl hp, by show 0 ≤ t.steps + 1; omega, (fun q => absurd (hp.symm.trans q) (by decide)), fun i i0 i1 => ?_, (fun _ q => absurd q e1), fun _ _ => .inr ⟨.inl (by show t.steps + 1 = 1; omega), ?_⟩, (fun _ q => absurd (e2.symm.trans q) (by decide))⟩, fun i i0 i1 hk => peek_load, len_touch hl⟩
          · unfold TickM.load
            rw [peek_load]; exact h.num i i0 i1
          · unfold TickM.load
            rw [peek_load]
        · rw [if_neg (by omega), if_pos s1]
          dsimp only
          rw [if_neg (by rw [ha]; exact fun q => q rfl)]
          refine ⟨⟨h.conf, h.who, .inl hp, by show 0 ≤ t.steps + 1; omega, (fun q => absurd (hp.symm.trans q) (by decide)), fun i i0 i1 => ?_, (fun _ q => absurd q e1), fun _ _ => .inr ⟨.inr (by show t.steps + 1 = 2; omega), ?_⟩, (fun _ q => absurd (e2.symm.trans q) (by decide))⟩, fun i i0 i1 hk => peek_load, len_touch hl⟩
          · unfold TickM.load
            rw [peek_load]; exact h.num i i0 i1
          · unfold TickM.load
            rw [peek_load]; exact ha
        · rw [if_neg (by omega), if_neg (by omega), if_pos s2]
          have hok : m.okOf 2 (t.conf.number 0) t.a = true := by
            unfold MemM.okOf
            rw [if_pos (has_of hl n0.1 n0.2), ← peek_in (has_of hl n0.1 n0.2), ha]
            exact decide_eq_true rfl
          have hr : (point t.a).right = true := st_right (by omega) (Int.le_refl _) (by omega)
          rw [if_pos hok, done_of hr]
          refine ⟨⟨h.conf, h.who, .inr rfl, by show 0 ≤ t.steps + 1; omega, fun _ => hr, fun i i0 i1 => ?_, (fun q => by cases q), (fun q => by cases q), (fun q => by cases q)⟩, fun i i0 i1 hk => ?_, len_touch hl⟩
          · have hi := h.num i i0 i1
            have hb := nb i i0 i1
            show _ ∧ _ ∧ ((1 : Int) = 0 → _)
            rw [peek_touch hl n0.1 n0.2 hb.1 hb.2]
            have hi2 := hi.2.2 hp
            split
            · have eo : opNew 2 (m.peek (t.conf.number 0)) t.a (t.a + 1) = t.a + 1 := by show (if m.peek (t.conf.number 0) = t.a then t.a + 1 else m.peek (t.conf.number 0)) = _; rw [if_pos ha.symm]
              rw [eo]; omega
            · omega
          · rw [peek_touch hl n0.1 n0.2 i0 i1, if_neg (hk 0 (Int.le_refl _) (by omega))]
      · rw [if_neg e2]
        by_cases e4 : t.conf.src = 4
        · rw [if_pos e4]
          have hg := h.go4 hp e4
          rw [cap_of (show now ≤ Top by omega)]
          have hA : ∃ t1 : TickM, t1 = (if t.steps = 0 then { t with a := now } else t) ∧ t1.conf = t.conf ∧ t1.who = t.who ∧ t1.steps = t.steps ∧ t1.phase = t.phase ∧ 0 ≤ t1.a ∧ t1.a ≤ now := by
            by_cases q : t.steps = 0
            · exact ⟨{ t with a := now }, by rw [if_pos q], rfl, rfl, rfl, rfl, hnow.1, Int.le_refl _⟩
            · rcases hg with g | ⟨g1, g2⟩
              · exact absurd g q
              · exact ⟨t, by rw [if_neg q], rfl, rfl, rfl, rfl, g1, g2⟩
          obtain ⟨t1, ht1, k1, k2, k3, k4, k5, k6⟩ := hA
          rw [← ht1]
          by_cases hs : t.steps ≤ t.conf.dl
          · rw [if_pos hs]
            refine ⟨⟨k1.trans h.conf, k2.trans h.who, .inl (k4.trans hp), by show 0 ≤ t1.steps + 1; omega, (fun q => absurd ((k4.trans hp).symm.trans q) (by decide)), fun i i0 i1 => ?_, (fun _ q => absurd q e1), (fun _ q => absurd q e2), fun _ _ => .inr ⟨k5, by show t1.a ≤ now + 1; omega⟩⟩, fun i i0 i1 hk => rfl, hl⟩
            have := h.num i i0 i1
            exact ⟨this.1, this.2.1, fun _ => this.2.2 hp⟩
          · rw [if_neg hs]
            have hr : (StampM.mk t1.a now).right = true := st_right k5 k6 (by omega)
            rw [done_of hr]
            refine ⟨⟨k1.trans h.conf, k2.trans h.who, .inr rfl, by show 0 ≤ t1.steps + 1; omega, fun _ => hr, fun i i0 i1 => ?_, (fun q => by cases q), (fun q => by cases q), (fun q => by cases q)⟩, fun i i0 i1 hk => rfl, hl⟩
            have := h.num i i0 i1
            exact ⟨this.1, this.2.1, (fun q => by cases q)⟩
        · rw [if_neg e4]
          rw [cap_of (show now ≤ Top by omega)]
          have hr : (point now).right = true := st_right hnow.1 (Int.le_refl _) (by omega)
          rw [done_of hr]
          refine ⟨⟨h.conf, h.who, .inr rfl, by show 0 ≤ t.steps + 1; omega, fun _ => hr, fun i i0 i1 => ?_, (fun q => by cases q), (fun q => by cases q), (fun q => by cases q)⟩, fun i i0 i1 hk => rfl, hl⟩
          have := h.num i i0 i1
          exact ⟨this.1, this.2.1, (fun q => by cases q)⟩

structure PutJ (c : ConfM) (who fin v n now : Int) (m0 m : MemM) (p : PutM) : Prop where
  hconf : p.conf = c
  hwho : p.who = who
  hfin : p.fin = fin
  hvalue : p.value = v
  cc : p.claim.conf = c
  cw : p.claim.who = who
  ck : p.claim.k = 0
  len : (m.cells.length : Int) = c.cells
  ph : p.phase = 0 ∨ p.phase = 1
  oth : ∀ i, 0 ≤ i → i < c.all → i ≠ c.first who → m.peek i = m0.peek i
  haz : ∀ t, 0 ≤ t → t < c.th → m.peek (c.hazard t) = 0
  slot : p.phase = 0 → m.peek (c.first who) = m0.peek (c.first who)
  cp : p.claim.phase = 0 ∨ p.claim.phase = 1
  cg : p.claim.phase = 0 → p.claim.guard < c.th
  word : 0 ≤ p.claim.guard ∨ p.claim.phase = 1 → p.claim.word = unpack (m0.peek (c.first who))
  tick : TickJ c who n now m p.tick
  val : p.stored = true → m.peek (c.value (c.first who)) = v
  fin1 : p.phase = 1 → p.stored = true ∧ p.tick.phase = 1 ∧ m.peek (c.first who) = ((unpack (m0.peek (c.first who))).next fin p.tick.stamp).pack
theorem put_J {c : ConfM} (hc : c.ok) {who fin v n now : Int} (w0 : 0 ≤ who) (w1 : who < c.th) (hn : 0 ≤ n ∧ n ≤ 1000) (hnow : 0 ≤ now ∧ now ≤ 1000000) {m0 m : MemM} {p : PutM}
    (hs : ((unpack (m0.peek (c.first who))).state = 0 ∨ (unpack (m0.peek (c.first who))).state = 2) ∧ (unpack (m0.peek (c.first who))).gen ≤ n) (h : PutJ c who fin v n now m0 m p) :
    PutJ c who fin v n (now + 1) m0 (p.step m now).2 (p.step m now).1 := by
  have hal := hc.all_bd
  have hfb := hc.first_bd w0 w1
  have hsl1 := hc.sl1
  have hth1 := hc.th1
  have hslot : p.claim.slot = c.first who := by unfold ClaimM.slot; rw [h.cc, h.cw, h.ck]; omega
  have b0 : 0 ≤ c.first who ∧ c.first who < c.cells := by unfold ConfM.cells; omega
  have bv : 0 ≤ c.value (c.first who) ∧ c.value (c.first who) < c.cells := by unfold ConfM.value ConfM.cells; omega
  have hnb : ∀ t, 0 ≤ t → t < c.th → 0 ≤ c.number t ∧ c.number t < c.cells := fun t t0 t1 => by unfold ConfM.number ConfM.cells; omega
  have hzb : ∀ t, 0 ≤ t → t < c.th → 0 ≤ c.hazard t ∧ c.hazard t < c.cells := fun t t0 t1 => by unfold ConfM.hazard ConfM.cells; omega
  unfold PutM.step
  rcases h.ph with hp | hp
  · rw [if_neg (by omega)]
    rcases h.cp with hcp | hcp
    · rw [if_pos hcp]
      have hg := h.cg hcp
      by_cases hgd : p.claim.guard < 0
      · have e : ∀ i, (m.touch p.claim.who 0 (c.first who) 0 0).peek i = m.peek i := fun i => peek_load
        rcases hs.1 with s0 | s2
        · rw [show p.claim.step m = ({ p.claim with word := unpack (m0.peek (c.first who)), phase := 1 }, m.touch p.claim.who 0 (c.first who) 0 0) from by
            unfold ClaimM.step ClaimM.look
            rw [if_neg (by omega), if_pos hgd, hslot, h.slot hp]
            dsimp only
            rw [if_neg (by omega), if_pos s0]]
          exact ⟨h.hconf, h.hwho, h.hfin, h.hvalue, h.cc, h.cw, h.ck, len_touch h.len, .inl (by show (if (1 : Int) = 2 then (2 : Int) else p.phase) = 0; rw [if_neg (by decide)]; exact hp), fun i i0 i1 hi => by rw [e]; exact h.oth i i0 i1 hi, fun t t0 t1 => by rw [e]; exact h.haz t t0 t1,
            fun _ => by rw [e]; exact h.slot hp, .inr rfl, (fun q => by cases q), fun _ => rfl, h.tick.over hc (fun i i0 i1 => e _) (by omega), fun q => by rw [e]; exact h.val q, fun q => by
              have q' : (if (1 : Int) = 2 then (2 : Int) else p.phase) = 1 := q
              rw [if_neg (by decide)] at q'; omega⟩
        · rw [show p.claim.step m = ({ p.claim with word := unpack (m0.peek (c.first who)), guard := 0 }, m.touch p.claim.who 0 (c.first who) 0 0) from by
            unfold ClaimM.step ClaimM.look
            rw [if_neg (by omega), if_pos hgd, hslot, h.slot hp]
            dsimp only
            rw [if_neg (by omega), if_neg (by omega), if_pos s2]]
          exact ⟨h.hconf, h.hwho, h.hfin, h.hvalue, h.cc, h.cw, h.ck, len_touch h.len, .inl (by show (if p.claim.phase = 2 then (2 : Int) else p.phase) = 0; rw [if_neg (by omega)]; exact hp), fun i i0 i1 hi => by rw [e]; exact h.oth i i0 i1 hi, fun t t0 t1 => by rw [e]; exact h.haz t t0 t1,
            fun _ => by rw [e]; exact h.slot hp, .inl hcp, fun _ => by show (0 : Int) < c.th; omega, fun _ => rfl, h.tick.over hc (fun i i0 i1 => e _) (by omega), fun q => by rw [e]; exact h.val q, fun q => by
              have q' : (if p.claim.phase = 2 then (2 : Int) else p.phase) = 1 := q
              rw [if_neg (by omega)] at q'; omega⟩
      · have hst : p.claim.step m = ((if p.claim.guard + 1 = c.th then { p.claim with guard := p.claim.guard + 1, phase := 1 } else { p.claim with guard := p.claim.guard + 1 }), m.touch p.claim.who 0 (c.hazard p.claim.guard) 0 0) := by
          unfold ClaimM.step
          rw [if_neg (by omega), if_neg hgd]
          have ez : m.peek (p.claim.conf.hazard p.claim.guard) = 0 := by rw [h.cc]; exact h.haz _ (by omega) hg
          have hthc : p.claim.conf.th = c.th := by rw [h.cc]
          rw [ez, hslot, if_neg (by omega), hthc, show p.claim.conf.hazard = c.hazard by rw [h.cc]]
        have e : ∀ i, (m.touch p.claim.who 0 (c.hazard p.claim.guard) 0 0).peek i = m.peek i := fun i => peek_load
        by_cases hl : p.claim.guard + 1 = c.th
        · rw [if_pos hl] at hst
          rw [hst]
          exact ⟨h.hconf, h.hwho, h.hfin, h.hvalue, h.cc, h.cw, h.ck, len_touch h.len, .inl (by show (if (1 : Int) = 2 then (2 : Int) else p.phase) = 0; rw [if_neg (by decide)]; exact hp), fun i i0 i1 hi => by rw [e]; exact h.oth i i0 i1 hi, fun t t0 t1 => by rw [e]; exact h.haz t t0 t1,
            fun _ => by rw [e]; exact h.slot hp, .inr rfl, (fun q => by cases q), fun _ => h.word (.inl (by omega)), h.tick.over hc (fun i i0 i1 => e _) (by omega), fun q => by rw [e]; exact h.val q, fun q => by
              have q' : (if (1 : Int) = 2 then (2 : Int) else p.phase) = 1 := q
              rw [if_neg (by decide)] at q'; omega⟩
        · rw [if_neg hl] at hst
          rw [hst]
          exact ⟨h.hconf, h.hwho, h.hfin, h.hvalue, h.cc, h.cw, h.ck, len_touch h.len, .inl (by show (if p.claim.phase = 2 then (2 : Int) else p.phase) = 0; rw [if_neg (by omega)]; exact hp), fun i i0 i1 hi => by rw [e]; exact h.oth i i0 i1 hi, fun t t0 t1 => by rw [e]; exact h.haz t t0 t1,
            fun _ => by rw [e]; exact h.slot hp, .inl hcp, fun _ => by show p.claim.guard + 1 < c.th; omega, fun _ => h.word (.inl (by omega)), h.tick.over hc (fun i i0 i1 => e _) (by omega), fun q => by rw [e]; exact h.val q, fun q => by
              have q' : (if p.claim.phase = 2 then (2 : Int) else p.phase) = 1 := q
              rw [if_neg (by omega)] at q'; omega⟩
    · rw [if_neg (by omega)]
      rcases h.tick.ph with htp | htp
      · rw [if_pos htp]
        dsimp only
        obtain ⟨t1, t2, t3⟩ := tick_J hc w0 w1 h.len hn hnow h.tick htp
        have hn2 : (p.tick.step m now).1.phase ≠ 2 := by rcases t1.ph with q | q <;> omega
        have e : ∀ i, 0 ≤ i → i < 2 * c.all + c.th → (p.tick.step m now).2.peek i = m.peek i := fun i i0 i1 => t2 i i0 (by unfold ConfM.cells; omega) (fun k k0 k1 => by unfold ConfM.number; omega)
        have ez : ∀ t, 0 ≤ t → t < c.th → (p.tick.step m now).2.peek (c.hazard t) = m.peek (c.hazard t) := fun t t0 t1 => e _ (by unfold ConfM.hazard; omega) (by unfold ConfM.hazard; omega)
        exact ⟨h.hconf, h.hwho, h.hfin, h.hvalue, h.cc, h.cw, h.ck, t3, .inl (by show (if (p.tick.step m now).1.phase = 2 then (2 : Int) else p.phase) = 0; rw [if_neg hn2]; exact hp), fun i i0 i1 hi => by rw [e i i0 (by omega)]; exact h.oth i i0 i1 hi, fun t t0 t1 => by rw [ez t t0 t1]; exact h.haz t t0 t1,
            fun _ => by rw [e _ b0.1 (by omega)]; exact h.slot hp, .inr hcp, fun q => by have q' : p.claim.phase = 0 := q; omega, h.word, t1, fun q => by rw [e _ bv.1 (by unfold ConfM.value; omega)]; exact h.val q, fun q => by
              have q' : (if (p.tick.step m now).1.phase = 2 then (2 : Int) else p.phase) = 1 := q
              rw [if_neg hn2] at q'; omega⟩
      · rw [if_neg (by omega)]
        have hvne : ∀ i, 0 ≤ i → i < c.all → i ≠ c.value (c.first who) := fun i i0 i1 => by unfold ConfM.value; omega
        have hhne : ∀ t, 0 ≤ t → t < c.th → c.hazard t ≠ c.value (c.first who) ∧ c.hazard t ≠ c.first who := fun t t0 t1 => by unfold ConfM.value ConfM.hazard; omega
        have hnne : ∀ t, 0 ≤ t → t < c.th → c.number t ≠ c.value (c.first who) ∧ c.number t ≠ c.first who := fun t t0 t1 => by unfold ConfM.value ConfM.number; omega
        by_cases hst : p.stored = false
        · rw [if_pos hst, show p.conf.value p.claim.slot = c.value (c.first who) by rw [h.hconf, hslot]]
          have e : ∀ i, 0 ≤ i → i < c.cells → i ≠ c.value (c.first who) → (m.touch p.who 1 (c.value (c.first who)) 0 p.value).peek i = m.peek i := fun i i0 i1 hi => by rw [peek_touch h.len bv.1 bv.2 i0 i1, if_neg hi]
          exact ⟨h.hconf, h.hwho, h.hfin, h.hvalue, h.cc, h.cw, h.ck, len_touch h.len, .inl hp, fun i i0 i1 hi => by rw [e i i0 (by unfold ConfM.cells; omega) (hvne i i0 i1)]; exact h.oth i i0 i1 hi, fun t t0 t1 => by rw [e _ (hzb t t0 t1).1 (hzb t t0 t1).2 (hhne t t0 t1).1]; exact h.haz t t0 t1,
            fun _ => by rw [e _ b0.1 b0.2 (hvne _ b0.1 (by omega))]; exact h.slot hp, h.cp, h.cg, h.word, h.tick.over hc (fun i i0 i1 => e _ (hnb i i0 i1).1 (hnb i i0 i1).2 (hnne i i0 i1).1) (by omega), fun _ => by rw [peek_touch h.len bv.1 bv.2 bv.1 bv.2, if_pos rfl]; exact h.hvalue, fun q => by
              have q' : p.phase = 1 := q
              omega⟩
        · have hst' : p.stored = true := by simpa using hst
          rw [if_neg hst, hslot, show p.claim.word.next p.fin p.tick.stamp = (unpack (m0.peek (c.first who))).next fin p.tick.stamp by rw [h.word (.inr hcp), h.hfin]]
          generalize hX : ((unpack (m0.peek (c.first who))).next fin p.tick.stamp).pack = X
          have e : ∀ i, 0 ≤ i → i < c.cells → i ≠ c.first who → (m.touch p.who 1 (c.first who) 0 X).peek i = m.peek i := fun i i0 i1 hi => by rw [peek_touch h.len b0.1 b0.2 i0 i1, if_neg hi]
          exact ⟨h.hconf, h.hwho, h.hfin, h.hvalue, h.cc, h.cw, h.ck, len_touch h.len, .inr rfl, fun i i0 i1 hi => by rw [e i i0 (by unfold ConfM.cells; omega) hi]; exact h.oth i i0 i1 hi, fun t t0 t1 => by rw [e _ (hzb t t0 t1).1 (hzb t t0 t1).2 (hhne t t0 t1).2]; exact h.haz t t0 t1,
            (fun q => by cases q), h.cp, h.cg, h.word, h.tick.over hc (fun i i0 i1 => e _ (hnb i i0 i1).1 (hnb i i0 i1).2 (hnne i i0 i1).2) (by omega), fun _ => by rw [e _ bv.1 bv.2 (by unfold ConfM.value; omega)]; exact h.val hst', fun _ => ⟨hst', htp, by
              show (m.touch p.who 1 (c.first who) 0 X).peek (c.first who) = _
              rw [peek_touch h.len b0.1 b0.2 b0.1 b0.2, if_pos rfl]; exact hX.symm⟩⟩
  · rw [if_pos (by omega)]
    exact ⟨h.hconf, h.hwho, h.hfin, h.hvalue, h.cc, h.cw, h.ck, h.len, h.ph, h.oth, h.haz, h.slot, h.cp, h.cg, h.word, h.tick.over hc (fun _ _ _ => rfl) (by omega), h.val, h.fin1⟩
theorem put_J0 {c : ConfM} (hc : c.ok) {n : Int} {m : MemM} (h : Calm c n m) (who fin v now : Int) (hn : 0 ≤ n) : PutJ c who fin v n now m m (PutM.new c who fin v) :=
  ⟨rfl, rfl, rfl, rfl, rfl, rfl, rfl, h.len, .inl rfl, fun _ _ _ _ => rfl, h.haz, fun _ => rfl, .inl rfl, fun _ => by show (-1 : Int) < c.th; have := hc.th1; omega, (fun q => by
    rcases q with q | q
    · have q' : (0 : Int) ≤ -1 := q
      omega
    · cases q), ⟨rfl, rfl, .inl rfl, Int.le_refl _, (fun q => by cases q), fun i i0 i1 => ⟨(h.num i i0 i1).1, by have := (h.num i i0 i1).2; omega, fun _ => (h.num i i0 i1).2⟩, fun _ _ => ⟨Int.le_refl _, hn⟩, fun _ _ => .inl rfl, fun _ _ => .inl rfl⟩, (fun q => by cases q), (fun q => by cases q)⟩

def TaskM.runF (t : TaskM) (m : MemM) (n0 : Int) : Nat → TaskM × MemM
  | 0 => (t, m)
  | j + 1 => (TaskM.runF t m n0 j).1.step (TaskM.runF t m n0 j).2 (n0 + j)
structure Live1 (c : ConfM) (n slot v : Int) (m : MemM) : Prop where
  len : (m.cells.length : Int) = c.cells
  oth : ∀ i, 0 ≤ i → i < c.all → i ≠ slot → ((unpack (m.peek i)).state = 0 ∨ (unpack (m.peek i)).state = 2) ∧ (unpack (m.peek i)).gen ≤ n
  one : (unpack (m.peek slot)).state = 1 ∧ (unpack (m.peek slot)).gen ≤ n + 1
  haz : ∀ t, 0 ≤ t → t < c.th → m.peek (c.hazard t) = 0
  num : ∀ t, 0 ≤ t → t < c.th → 0 ≤ m.peek (c.number t) ∧ m.peek (c.number t) ≤ n + 1
  val : m.peek (c.value slot) = v
theorem put_runF {c : ConfM} (hc : c.ok) {who fin v n n0 : Int} (w0 : 0 ≤ who) (w1 : who < c.th) (hn : 0 ≤ n ∧ n ≤ 1000) (hn0 : 0 ≤ n0 ∧ n0 ≤ 100000) {m : MemM} (h : Calm c n m) (k : CallM) :
    ∀ j : Nat, j ≤ 100 → ∃ q, (TaskM.runF ⟨k, .put (PutM.new c who fin v)⟩ m n0 j).1 = ⟨k, .put q⟩ ∧ PutJ c who fin v n (n0 + j) m (TaskM.runF ⟨k, .put (PutM.new c who fin v)⟩ m n0 j).2 q ∧ q.inv ∧ (q.phase = 0 → q.meas + j ≤ PutM.most c)
  | 0, _ => ⟨_, rfl, put_J0 hc h who fin v _ hn.1, PutM.new_inv hc.th1 hc.sl1 hc.dl1 who fin v, fun _ => by rw [PutM.new_meas]; omega⟩
  | j + 1, hj => by
    obtain ⟨q, e, J, qi, qm⟩ := put_runF hc (fin := fin) (v := v) w0 w1 hn hn0 h k j (by omega)
    have hfb := hc.first_bd w0 w1
    have hsl1 := hc.sl1
    have J' := put_J hc w0 w1 hn (by omega) (h.word _ hfb.1 (by omega)) J
    have s : TaskM.runF ⟨k, .put (PutM.new c who fin v)⟩ m n0 (j + 1) = (⟨k, .put (q.step (TaskM.runF ⟨k, .put (PutM.new c who fin v)⟩ m n0 j).2 (n0 + j)).1⟩, (q.step (TaskM.runF ⟨k, .put (PutM.new c who fin v)⟩ m n0 j).2 (n0 + j)).2) := by
      show (TaskM.runF ⟨k, .put (PutM.new c who fin v)⟩ m n0 j).1.step (TaskM.runF ⟨k, .put (PutM.new c who fin v)⟩ m n0 j).2 (n0 + j) = _
      rw [e]; rfl
    rw [s]
    refine ⟨_, rfl, ?_, ?_⟩
    · rw [show n0 + ((j + 1 : Nat) : Int) = n0 + j + 1 by omega]; exact J'
    · by_cases hp : q.phase = 0
      · have f := PutM.step_fell (m := (TaskM.runF ⟨k, .put (PutM.new c who fin v)⟩ m n0 j).2) (now := n0 + j) qi hp
        have fm := f.meas
        have qm' := qm hp
        exact ⟨f.inv, fun _ => by omega⟩
      · have es : q.step (TaskM.runF ⟨k, .put (PutM.new c who fin v)⟩ m n0 j).2 (n0 + j) = (q, (TaskM.runF ⟨k, .put (PutM.new c who fin v)⟩ m n0 j).2) := by unfold PutM.step; rw [if_pos hp]
        rw [es]
        exact ⟨qi, fun q => absurd q hp⟩
theorem pair_put {c : ConfM} (hc : c.ok) (h4 : c.th ≤ 4) (s4 : c.sl ≤ 4) (d4 : c.dl ≤ 3) {who n n0 : Int} (w0 : 0 ≤ who) (w1 : who < c.th) (hn : 0 ≤ n ∧ n ≤ 1000) (hn0 : 0 ≤ n0 ∧ n0 ≤ 100000) {m : MemM} (h : Calm c n m) {k : CallM} (hk : k.kind = 0) (hf : k.fin = 0 ∨ k.fin = 1) :
    (TaskM.runF (TaskM.new c who k) m n0 100).1.over = true ∧ (∃ s : StampM, s.right = true ∧ (TaskM.runF (TaskM.new c who k) m n0 100).1.reply = ⟨true, 0, s⟩) ∧ Live1 c n (c.first who) k.value (TaskM.runF (TaskM.new c who k) m n0 100).2 := by
  have e : TaskM.new c who k = ⟨k, .put (PutM.new c who k.fin k.value)⟩ := by unfold TaskM.new; rw [if_pos hk]
  rw [e]
  obtain ⟨q, eq, J, qi, qm⟩ := put_runF hc (fin := k.fin) (v := k.value) w0 w1 hn hn0 h k 100 (by omega)
  have hsl := hc.sl1
  have hth := hc.th1
  have hdl := hc.dl1
  have hm : c.sl * (c.th + 1) ≤ 4 * 5 := Int.mul_le_mul s4 (by omega) (by omega) (by omega)
  have hmost : PutM.most c ≤ 30 := by
    unfold PutM.most TickM.most
    (repeat' split) <;> omega
  have hp : q.phase = 1 := by
    rcases J.ph with p0 | p1
    · have := qm p0
      have := PutM.meas_pos qi p0
      omega
    · exact p1
  obtain ⟨f1, f2, f3⟩ := J.fin1 hp
  have hfb := hc.first_bd w0 w1
  have hw := h.word _ hfb.1 (show c.first who < c.all by omega)
  have hst := J.tick.st f2
  have hst2 : 0 ≤ q.tick.stamp.lo ∧ q.tick.stamp.lo ≤ q.tick.stamp.hi ∧ q.tick.stamp.hi < 16777215 := by
    unfold StampM.right at hst
    simpa [Top, and_assoc] using hst
  have hg0 : 0 ≤ (unpack (m.peek (c.first who))).gen := by show 0 ≤ m.peek (c.first who) / 8 % 8192; omega
  have hR : ((unpack (m.peek (c.first who))).next k.fin q.tick.stamp).right = true := by
    unfold WordM.right WordM.next Top
    simp only [Bool.and_eq_true, Bool.or_eq_true, decide_eq_true_eq]
    omega
  have hU := unpack_pack _ hR
  rw [← f3] at hU
  generalize TaskM.runF ⟨k, .put (PutM.new c who k.fin k.value)⟩ m n0 100 = r at *
  refine ⟨?_, ⟨q.tick.stamp, hst, ?_⟩, ⟨J.len, fun i i0 i1 hi => ?_, ?_, J.haz, fun t t0 t1 => ⟨(J.tick.num t t0 t1).1, (J.tick.num t t0 t1).2.1⟩, J.val f1⟩⟩
  · rw [eq]
    show (!decide (q.phase = 0)) = true
    rw [hp]; rfl
  · rw [eq]
    unfold TaskM.reply
    rw [if_neg (by show ¬ (q.phase ≠ 1); simpa using hp)]
  · rw [J.oth i i0 i1 hi]
    exact h.word i i0 i1
  · rw [hU]
    exact ⟨rfl, by show (unpack (m.peek (c.first who))).gen + 1 ≤ _; omega⟩
theorem get_runF (k : CallM) (g : GetM) (m : MemM) (n0 : Int) : ∀ j : Nat, TaskM.runF ⟨k, .get g⟩ m n0 j = (⟨k, .get (GetM.run g m j).1⟩, (GetM.run g m j).2)
  | 0 => rfl
  | j + 1 => by
    show (TaskM.runF ⟨k, .get g⟩ m n0 j).1.step (TaskM.runF ⟨k, .get g⟩ m n0 j).2 (n0 + j) = _
    rw [get_runF k g m n0 j]
    rfl
theorem taken_word (x : Int) (h : (unpack x).state = 1) : (unpack (unpack x).taken.pack).state = 2 ∧ (unpack (unpack x).taken.pack).gen = (unpack x).gen := by
  have hT : (unpack x).taken.right = true := by
    have := unpack_right x (by omega)
    unfold WordM.right at this ⊢
    simp only [WordM.taken]
    simp only [Bool.and_eq_true] at this ⊢
    obtain ⟨⟨⟨⟨⟨⟨⟨⟨h1, h2⟩, h3⟩, h4⟩, h5⟩, h6⟩, h7⟩, h8⟩, h9⟩ := this
    exact ⟨⟨⟨⟨⟨⟨⟨⟨rfl, rfl⟩, h3⟩, h4⟩, h5⟩, h6⟩, h7⟩, h8⟩, h9⟩
  rw [unpack_pack _ hT]
  exact ⟨rfl, rfl⟩
theorem pair_get {c : ConfM} (hc : c.ok) (h4 : c.th ≤ 4) (s4 : c.sl ≤ 4) {who n n0 slot v : Int} (w0 : 0 ≤ who) (w1 : who < c.th) (s0 : 0 ≤ slot) (s1 : slot < c.all) {m : MemM} (h : Live1 c n slot v m) {k : CallM} (hk : k.kind ≠ 0) :
    (TaskM.runF (TaskM.new c who k) m n0 100).1.over = true ∧ (TaskM.runF (TaskM.new c who k) m n0 100).1.reply = ⟨true, v, ⟨0, 0⟩⟩ ∧ Calm c (n + 1) (TaskM.runF (TaskM.new c who k) m n0 100).2 := by
  have e : TaskM.new c who k = ⟨k, .get (GetM.new c who k.fin k.start)⟩ := by unfold TaskM.new; rw [if_neg hk]
  rw [e, get_runF]
  have hth := hc.th1
  have hsl := hc.sl1
  have hal : c.all ≤ 4 * 4 := Int.mul_le_mul h4 s4 (by omega) (by omega)
  have hab := hc.all_bd
  have hO : [slot] = orderM (wordsM c m) := by
    refine orderM_of _ _ (by simp) (fun a => ?_) (by simp)
    rw [wordsM_len]
    constructor
    · intro ha
      obtain rfl : a = slot := by simpa using ha
      exact ⟨s0, by omega, by rw [getI_words c m _ s0 s1]; exact h.one.1⟩
    · rintro ⟨a0, a1, a2⟩
      by_cases hne : a = slot
      · simp [hne]
      · rw [getI_words c m a a0 (by omega)] at a2
        have := (h.oth a a0 (by omega) hne).1
        omega
  have hat : atM (wordsM c m) k.fin = slot := by
    by_cases hf : k.fin = 0
    · rw [hf]; exact atM_left hO.symm
    · exact atM_right hf (l := []) hO.symm
  obtain ⟨A1, A2, A3, A4, A5⟩ := (get_alone hc (g := GetM.new c who k.fin k.start) rfl w0 w1 (GetM.new_fresh _ _ _ _) h.len).some (by show 0 ≤ atM (wordsM c m) k.fin; rw [hat]; exact s0)
  have hs := GetM.run_stop (n := 2 * c.all.toNat + 5) (g := GetM.new c who k.fin k.start) (m := m) (by rw [A2]; decide) (100 - (2 * c.all.toNat + 5))
  rw [show 2 * c.all.toNat + 5 + (100 - (2 * c.all.toNat + 5)) = 100 by omega] at hs
  rw [hs]
  have A5' : (GetM.run (GetM.new c who k.fin k.start) m (2 * c.all.toNat + 5)).2.cells = tookM c who slot m.cells := by rw [A5]; show tookM c who (atM (wordsM c m) k.fin) m.cells = _; rw [hat]
  have A3' : (GetM.run (GetM.new c who k.fin k.start) m (2 * c.all.toNat + 5)).1.value = v := by rw [A3]; show m.peek (c.value (atM (wordsM c m) k.fin)) = v; rw [hat]; exact h.val
  clear A1 A3 A4 A5 hs
  generalize GetM.run (GetM.new c who k.fin k.start) m (2 * c.all.toNat + 5) = r at *
  have P := took_peek hc w0 w1 s0 s1 h.len A5'
  have hl' : (r.2.cells.length : Int) = c.cells := by rw [A5']; unfold tookM; rw [setI_length, setI_length, setI_length]; exact h.len
  refine ⟨?_, ?_, ⟨hl', fun i i0 i1 => ?_, fun t t0 t1 => ?_, fun t t0 t1 => ?_⟩⟩
  · show (!decide (r.1.phase = 0)) = true
    rw [A2]; rfl
  · unfold TaskM.reply
    rw [if_neg (by show ¬ (r.1.phase ≠ 1); simpa using A2)]
    show (⟨true, r.1.value, ⟨0, 0⟩⟩ : ReplyM) = _
    rw [A3']
  · rw [P i i0 (by unfold ConfM.cells; omega), if_neg (by unfold ConfM.hazard; omega)]
    split
    · have ht := taken_word (m.peek slot) h.one.1
      have := h.one.2
      exact ⟨.inr ht.1, by omega⟩
    · rename_i hne
      have := h.oth i i0 i1 hne
      exact ⟨this.1, by omega⟩
  · rw [P _ (by unfold ConfM.hazard; omega) (by unfold ConfM.hazard ConfM.cells; omega)]
    split
    · rfl
    · rw [if_neg (by unfold ConfM.hazard; omega)]
      exact h.haz t t0 t1
  · rw [P _ (by unfold ConfM.number; omega) (by unfold ConfM.number ConfM.cells; omega), if_neg (by unfold ConfM.hazard ConfM.number; omega), if_neg (by unfold ConfM.number; omega)]
    exact h.num t t0 t1
theorem pair_none {c : ConfM} (hc : c.ok) (h4 : c.th ≤ 4) (s4 : c.sl ≤ 4) {who n n0 : Int} (w0 : 0 ≤ who) (w1 : who < c.th) {m : MemM} (h : Calm c n m) {k : CallM} (hk : k.kind ≠ 0) :
    (TaskM.runF (TaskM.new c who k) m n0 100).1.over = true ∧ (TaskM.runF (TaskM.new c who k) m n0 100).1.reply = ⟨false, 0, ⟨0, 0⟩⟩ := by
  have e : TaskM.new c who k = ⟨k, .get (GetM.new c who k.fin k.start)⟩ := by unfold TaskM.new; rw [if_neg hk]
  rw [e, get_runF]
  have hth := hc.th1
  have hsl := hc.sl1
  have hal : c.all ≤ 4 * 4 := Int.mul_le_mul h4 s4 (by omega) (by omega)
  have hO : [] = orderM (wordsM c m) := by
    refine orderM_of _ _ (by simp) (fun a => ?_) (by simp)
    rw [wordsM_len]
    constructor
    · intro ha
      cases ha
    · rintro ⟨a0, a1, a2⟩
      rw [getI_words c m a a0 (by omega)] at a2
      have := (h.word a a0 (by omega)).1
      omega
  have hat : atM (wordsM c m) k.fin = -1 := atM_nil _ hO.symm
  obtain ⟨A1, A2, A3, A4, A5⟩ := (get_alone hc (g := GetM.new c who k.fin k.start) rfl w0 w1 (GetM.new_fresh _ _ _ _) h.len).none (by show atM (wordsM c m) k.fin < 0; rw [hat]; decide)
  have hs := GetM.run_stop (n := 2 * c.all.toNat) (g := GetM.new c who k.fin k.start) (m := m) (by rw [A2]; decide) (100 - (2 * c.all.toNat))
  rw [show 2 * c.all.toNat + (100 - (2 * c.all.toNat)) = 100 by omega] at hs
  rw [hs]
  refine ⟨?_, ?_⟩
  · show (!decide ((GetM.run (GetM.new c who k.fin k.start) m (2 * c.all.toNat)).1.phase = 0)) = true
    rw [A2]; rfl
  · unfold TaskM.reply
    rw [if_pos (by show (GetM.run (GetM.new c who k.fin k.start) m (2 * c.all.toNat)).1.phase ≠ 1; rw [A2]; decide)]
    rfl
end Go.Proofs.Ytlnfbfnccefcnaa
namespace Go.Proofs.Ytlnfbfnccefcnaa
open Go.RowKit Go.SepYtlnfbfnccefcnaa
set_option linter.unusedSimpArgs false
set_option linter.unusedVariables false
set_option maxRecDepth 100000
set_option maxHeartbeats 40000000
abbrev u64V (x : Int) : List Value := [.int .u64 x]
theorem oldV_of {W : World} {a : Option Addr} {len cap : Nat} {rows : List (List Value)} (h : RowsAt W [FK.int .u64] a len cap rows) :
    ∃ l : List Int, l.length = len ∧ (∀ x ∈ l, 0 ≤ x ∧ x < 18446744073709551616) ∧ OldS u64V 1 W a l := by
  obtain ⟨l, h1, h2, h3⟩ := oldS_of u64V (fun x => 0 ≤ x ∧ x < 18446744073709551616) h (fun r hr => by
    obtain ⟨b, v, rfl, hb, k⟩ := okAll_int hr
    obtain rfl := okAll_nil k
    exact ⟨b, rfl, lit_u64 hb⟩) (fun v => ⟨_, rfl⟩)
  exact ⟨l, h1, h2, h3⟩
structure TaskM.RunF (c : ConfM) (who : Int) (m : MemM) (j : Nat) (r : TaskM × MemM) : Prop where
  okn : r.1.okn c who j
  wf : r.2.wf
  log : r.2.log.length ≤ m.log.length + j
theorem TaskM.runF_ok {c : ConfM} {who n0 : Int} (h0 : 0 ≤ n0) {t : TaskM} {m : MemM} (h : t.okn c who 0) (hm : m.wf) : ∀ j : Nat, j ≤ 100000 → TaskM.RunF c who m j (TaskM.runF t m n0 j)
  | 0, _ => ⟨h, hm, Nat.le_refl _⟩
  | j + 1, hj => by
    have a := TaskM.runF_ok h0 h hm j (by omega)
    obtain ⟨s1, s2, s3⟩ := TaskM.step_okn (now := n0 + j) a.okn (by omega) (by omega) a.wf (by omega)
    have g3 := s3.log
    have hl := a.log
    exact ⟨by rw [show (((j + 1 : Nat) : Int)) = (j : Int) + 1 by omega]; exact s1, s3.wf a.wf, by show ((TaskM.runF t m n0 j).1.step (TaskM.runF t m n0 j).2 (n0 + j)).2.log.length ≤ _; omega⟩
section
variable {E w : World} {L : List SA}
theorem runF_step {c : ConfM} {who n0 : Int} (h0 : 0 ≤ n0) {t : TaskM} {m : MemM} (h : t.okn c who 0) (hm : m.wf) (hl : m.log.length ≤ 100000) (b bm j : Nat) (hj : j < 100000) (hs : sat E w (taskA b (TaskM.runF t m n0 j).1 :: memA bm (TaskM.runF t m n0 j).2 :: L)) :
    Calls Try.prog 49 #[.pointer (some ⟨b, 0, none⟩), .pointer (some ⟨bm, 0, none⟩), .int .i64 (n0 + j)] w fun e w' => e = .returned (.bool (TaskM.runF t m n0 (j + 1)).1.over) ∧ sat E w' (taskA b (TaskM.runF t m n0 (j + 1)).1 :: memA bm (TaskM.runF t m n0 (j + 1)).2 :: L) := by
  have a := TaskM.runF_ok h0 h hm j (by omega)
  have hlog := a.log
  exact kstep2_calls b bm _ _ (n0 + j) (a.okn.work.ok (by omega)) (by omega) hs
end
theorem calm_new {c : ConfM} (hc : c.ok) : Calm c 0 (MemM.new c.cells.toNat) := by
  have hcl : 0 ≤ c.cells := by have := hc.all_bd; have := hc.th1; unfold ConfM.cells; omega
  have hz : ∀ i, (MemM.new c.cells.toNat).peek i = 0 := fun i => by
    unfold MemM.peek
    split
    · unfold getI MemM.new
      rw [List.getD_eq_getElem?_getD]
      cases h : (List.replicate c.cells.toNat (0 : Int))[i.toNat]? with
      | none => rfl
      | some x =>
        have := List.mem_of_getElem? h
        simp at this
        rw [this.2]; rfl
    · rfl
  exact ⟨by simp [MemM.new]; omega, fun i _ _ => by rw [hz]; exact ⟨.inl rfl, by decide⟩, fun t _ _ => hz _, fun t _ _ => by rw [hz]; exact ⟨Int.le_refl _, Int.le_refl _⟩⟩
theorem get_stepX (k : CallM) (g : GetM) (m : MemM) (n0 now : Int) (j : Nat) : (TaskM.runF ⟨k, .get g⟩ m n0 j).1.step (TaskM.runF ⟨k, .get g⟩ m n0 j).2 now = TaskM.runF ⟨k, .get g⟩ m n0 (j + 1) := by
  rw [get_runF, get_runF]
  rfl
theorem bitM_01 (b : Bool) : bitM b = 0 ∨ bitM b = 1 := by cases b <;> simp [bitM]
theorem field_r0 (b : Bool) (v l h : Int) (w : World) : (Instr.field 89 (.agg #[.bool b, .int .u64 v, .int .i64 l, .int .i64 h]) 0).run Try.prog w = .ok (.bool b) w := by kernel_rfl
theorem field_r1 (b : Bool) (v l h : Int) (w : World) : (Instr.field 89 (.agg #[.bool b, .int .u64 v, .int .i64 l, .int .i64 h]) 1).run Try.prog w = .ok (.int .u64 v) w := by kernel_rfl
theorem field_r2 (b : Bool) (v l h : Int) (w : World) : (Instr.field 89 (.agg #[.bool b, .int .u64 v, .int .i64 l, .int .i64 h]) 2).run Try.prog w = .ok (.agg #[.int .i64 l, .int .i64 h]) w := by kernel_rfl
theorem eqlR4 (w : World) : (binOp .eql 89 (.agg #[.bool false, .int .u64 0, .int .i64 0, .int .i64 0]) (.agg #[.bool false, .int .u64 0, .int .i64 0, .int .i64 0])).run Try.prog w = .ok (.bool true) w := by
  go_simp
attribute [local go_sem] field_r0 field_r1 field_r2 eqlR4
theorem taskPairs_main (t r a b : Int) (right : Bool) (p : Option Addr) (l : List Int) (cap : Nat) (E : World) (hwf : ∀ x ∈ l, 0 ≤ x ∧ x < 18446744073709551616) (ho : OldS u64V 1 E p l) :
    Calls Try.prog 9 #[.int .i64 t, .int .i64 r, .int .i64 a, .int .i64 b, .bool right, .slice p l.length cap] E fun e w' => e = .returned (.bool true) ∧ Below E.heap.size E w' := by
  have K := Lib.hid (sat.start E)
  have HD := fun w => Lib.hid (head12_calls w)
  by_cases h12 : (l.length : Int) > 12
  · have c0 : decide ((l.length : Int) > 12) = true := by simpa using h12
    go_enter Try.func9, Try.ntmps9
    go_wp2_with (first | (go_at_call 44; (with_reducible refine ((HD _).out).mono ?_); rintro e w1 ⟨rfl, hb⟩; have K1 := sat.grown (by repeat (with_reducible first | exact K.out | apply sat.alloc_any | apply sat.drew | apply sat.drewN)) hb; clear hb; have K2 := Lib.hid K1; clear K1 K; (try clear a0); (try clear l0); (try clear a1); (try clear l1); (try clear a2); (try clear l2); have K := K2; clear K2))
    go_ret
    exact ⟨rfl, K.out.below⟩
  · have c0 : decide ((l.length : Int) > 12) = false := by simpa using h12
    have CF := fun w => Lib.hid (conf_calls t 1 r 1 w)
    have hc := confS_ok t 1 r 1
    have hsm := confS_small t 1 r 1
    generalize confS t 1 r 1 = c at *
    have ea1 := and16 a
    obtain ⟨wa0, wa1⟩ := whoS_bd hc a
    have ea2 : Int.tmod (a % 65536) c.th = whoS c a := by unfold whoS; rw [Int.tmod_eq_emod_of_nonneg (by omega)]
    have eb1 := and16 b
    obtain ⟨wb0, wb1⟩ := whoS_bd hc b
    have eb2 : Int.tmod (b % 65536) c.th = whoS c b := by unfold whoS; rw [Int.tmod_eq_emod_of_nonneg (by omega)]
    have z1 : (c.th == 0) = false := by have := hc.th1; simp; omega
    have z2 : ¬ c.th = 0 := by have := hc.th1; omega
    have z3 : IntKind.i64.wrap (whoS c a) = whoS c a := wi (by have := hc.th2; omega) (by have := hc.th2; omega)
    have z4 : IntKind.i64.wrap (whoS c b) = whoS c b := wi (by have := hc.th2; omega) (by have := hc.th2; omega)
    have CN := fun w => Lib.hid (cellsn_calls c w hc)
    have hcl : 0 ≤ c.cells ∧ c.cells ≤ 65536 := by have := hc.all_bd; have := hc.th1; have := hc.th2; unfold ConfM.cells; omega
    have MN := fun w' (L : List SA) (h : sat E w' L) => Lib.hid (memnew_calls c.cells.toNat (by omega) h)
    rw [show ((c.cells.toNat : Nat) : Int) = c.cells by omega] at MN
    have CM0 := Lib.hid (calm_new hc)
    have W0 := Lib.hid (MemM.new_wf c.cells.toNat)
    have L0 := Lib.hid (show (MemM.new c.cells.toNat).log.length ≤ 0 by simp [MemM.new])
    have MK := fun tk rt v st w => Lib.hid (make_calls tk rt v st w)
    have TN := fun who k w' (M : List SA) (h : sat E w' M) => Lib.hid (tnew_calls c hc who k h)
    have HC := Lib.hid hc
    have HS := Lib.hid hsm
    have H := Lib.hid ho
    have HW := Lib.hid hwf
    have HW1 := Lib.hid (And.intro wa0 wa1)
    have HW2 := Lib.hid (And.intro wb0 wb1)
    have hln : l.length ≤ 12 := by omega
    clear ho hwf hcl hc hsm wa0 wa1 wb0 wb1
    generalize whoS c a = wa at *
    generalize whoS c b = wb at *
    generalize MemM.new c.cells.toNat = m0 at *
    go_enter Try.func9, Try.ntmps9
    go_wp2_with (first | (go_at_call 44; (with_reducible refine ((HD _).out).mono ?_); rintro e w1 ⟨rfl, hb⟩; have K1 := sat.grown (by repeat (with_reducible first | exact K.out | apply sat.alloc_any | apply sat.drew | apply sat.drewN)) hb; clear hb; have K2 := Lib.hid K1; clear K1 K; (try clear a0); (try clear l0); (try clear a1); (try clear l1); (try clear a2); (try clear l2); have K := K2; clear K2) | (go_at_call 14; (with_reducible refine ((CF _).out).mono ?_); rintro e w1 ⟨rfl, hb⟩; have K1 := sat.grown (by repeat (with_reducible first | exact K.out | apply sat.alloc_any | apply sat.drew | apply sat.drewN)) hb; clear hb; have K2 := Lib.hid K1; clear K1 K; (try clear a0); (try clear l0); (try clear a1); (try clear l1); (try clear a2); (try clear l2); have K := K2; clear K2))
    have K1 := K.out.alloc (.cells #[.int .i64 c.th, .int .i64 c.sl, .int .i64 c.src, .int .i64 c.dl] 27)
    obtain ⟨gc, hgc⟩ : ∃ g, g = w1.heap.size := ⟨_, rfl⟩
    rw [← hgc] at K1 ⊢
    clear K hgc
    have K := Lib.hid K1
    clear K1
    have a0 := K.out.rd 0 rfl; have l0 := K.out.ltp 0 rfl
    go_wp2_with (first | (go_at_call 46; (with_reducible refine ((CN _).out).mono ?_); rintro e w1 ⟨rfl, hb⟩; have K1 := sat.grown (by repeat (with_reducible first | exact K.out | apply sat.alloc_any | apply sat.drew | apply sat.drewN)) hb; clear hb; have K2 := Lib.hid K1; clear K1 K; (try clear a0); (try clear l0); (try clear a1); (try clear l1); (try clear a2); (try clear l2); have K := K2; clear K2; have a0 := K.out.rd 0 rfl; have l0 := K.out.ltp 0 rfl) | (go_at_call 45; (with_reducible refine ((MN _ _ (show sat E _ _ from by iterate 6 (try (with_reducible first | exact K.out | apply sat.alloc_any | apply sat.drew | apply sat.drewN)))).out).mono ?_); rintro e w1 ⟨gm, rfl, K1⟩; have K2 := Lib.hid K1; clear K1 K; (try clear a0); (try clear l0); (try clear a1); (try clear l1); (try clear a2); (try clear l2); have K := K2; clear K2; have a1 := K.out.rd 1 rfl; have l1 := K.out.ltp 1 rfl))
    go_loopg [47, 15] l.length (fun GG i x w' => ∃ (n : Nat) (X : Int) (m : MemM), n + GG = l.length ∧ i = .int .i64 n ∧ x = .int .i64 X ∧ X = 200 * (n : Int) ∧ Calm c n m ∧ m.wf ∧ m.log.length ≤ 200 * n ∧ sat E w' [memA gm m, confPT gc c])
    case atStart => exact ⟨0, 0, m0, by simp, rfl, rfl, rfl, CM0.out, W0.out, L0.out, K.out⟩
    case round =>
      obtain ⟨n, X, m, hn, rfl, rfl, hX, hcm, hmw, hml, hs⟩ := hrel
      clear K
      have K := Lib.hid hs
      clear hs
      (try clear a0 l0 a1 l1)
      have a1 := K.out.rd 1 rfl
      have l1 := K.out.ltp 1 rfl
      have HN := Lib.hid hn
      by_cases hlt : n < l.length
      · have d0 : decide (n < l.length) = true := by simpa using hlt
        obtain ⟨b2, off2, hq, hb2, hx2⟩ := H.out n hlt
        have HX := Lib.hid (show ∀ w', Below E.heap.size E w' → w'.cell? ⟨b2, off2 + n, none⟩ = some (.int .u64 l[n]) from fun w' hb => (hb.cell (p := ⟨b2, off2 + n, none⟩) hb2).trans (by have := hx2 0 (.int .u64 l[n]) rfl; simpa using this))
        have y0 := HX.out _ K.out.below
        clear hx2
        subst hq
        have hv := HW.out l[n] (List.getElem_mem _)
        generalize l[n] = v at *
        have k1w : (⟨bitM false, bitM right, v, 0⟩ : CallM).wf := hv
        have k2w : (⟨bitM true, bitM right, 0, n⟩ : CallM).wf := ⟨by show (0 : Int) ≤ 0; decide, by show (0 : Int) < _; decide⟩
        obtain ⟨k1, hk1⟩ : ∃ k, k = (⟨bitM false, bitM right, v, 0⟩ : CallM) := ⟨_, rfl⟩
        obtain ⟨k2, hk2⟩ : ∃ k, k = (⟨bitM true, bitM right, 0, n⟩ : CallM) := ⟨_, rfl⟩
        have MK1 := fun w => MK false right v 0 w
        have MK2 := fun w => MK true right 0 n w
        rw [← hk1] at MK1 k1w
        rw [← hk2] at MK2 k2w
        have e10 : k1.kind = 0 := by rw [hk1]; rfl
        have e1f : k1.fin = 0 ∨ k1.fin = 1 := by rw [hk1]; exact bitM_01 right
        have e1v : k1.value = v := by rw [hk1]
        have e20 : k2.kind ≠ 0 := by rw [hk2]; show bitM true ≠ 0; decide
        have hfb := HC.out.first_bd HW1.out.1 HW1.out.2
        have hsl := HC.out.sl1
        obtain ⟨P1, ⟨st, P2, P3⟩, P4⟩ := pair_put HC.out HS.out.1 HS.out.2.1 HS.out.2.2 (who := wa) (n := (n : Int)) (n0 := X) HW1.out.1 HW1.out.2 (by omega) (by omega) hcm e10 e1f
        rw [e1v] at P4
        have o1 := TaskM.new_okn HC.out (who := wa) HW1.out.1 HW1.out.2 k1w
        have F1 := TaskM.runF_ok (n0 := X) (by omega) o1 hmw 100 (by omega)
        obtain ⟨G1, G2, G3⟩ := pair_get HC.out HS.out.1 HS.out.2.1 (who := wb) (n := (n : Int)) (n0 := X + 100) (slot := c.first wa) HW2.out.1 HW2.out.2 hfb.1 (by omega) P4 e20
        have o2 := TaskM.new_okn HC.out (who := wb) HW2.out.1 HW2.out.2 k2w
        have F2 := TaskM.runF_ok (n0 := X + 100) (by omega) o2 F1.wf 100 (by omega)
        have TN1 := fun w' (M : List SA) (h : sat E w' M) => TN wa k1 w' M h
        have TN2 := fun w' (M : List SA) (h : sat E w' M) => TN wb k2 w' M h
        have S1 := fun w' b bm j (M : List SA) (hj : j < 1000) (h : sat E w' (taskA b (TaskM.runF (TaskM.new c wa k1) m X j).1 :: memA bm (TaskM.runF (TaskM.new c wa k1) m X j).2 :: M)) => Lib.hid (runF_step (n0 := X) (by omega) o1 hmw (by omega) b bm j (by omega) h)
        have S2 := fun w' b bm j (M : List SA) (hj : j < 1000) (h : sat E w' (taskA b (TaskM.runF (TaskM.new c wb k2) (TaskM.runF (TaskM.new c wa k1) m X 100).2 (X + 100) j).1 :: memA bm (TaskM.runF (TaskM.new c wb k2) (TaskM.runF (TaskM.new c wa k1) m X 100).2 (X + 100) j).2 :: M)) => Lib.hid (runF_step (n0 := X + 100) (by omega) o2 F1.wf (by have := F1.log; omega) b bm j (by omega) h)
        have Z1 : TaskM.runF (TaskM.new c wa k1) m X 0 = (TaskM.new c wa k1, m) := rfl
        have Z2 : TaskM.runF (TaskM.new c wb k2) (TaskM.runF (TaskM.new c wa k1) m X 100).2 (X + 100) 0 = (TaskM.new c wb k2, (TaskM.runF (TaskM.new c wa k1) m X 100).2) := rfl
        have hlg : (TaskM.runF (TaskM.new c wb k2) (TaskM.runF (TaskM.new c wa k1) m X 100).2 (X + 100) 100).2.log.length ≤ 200 * (n + 1) := by have := F1.log; have := F2.log; omega
        have hw2 := F2.wf
        clear F1 F2 o1 o2 P4
        generalize TaskM.runF (TaskM.new c wb k2) (TaskM.runF (TaskM.new c wa k1) m X 100).2 (X + 100) = R2 at *
        generalize TaskM.runF (TaskM.new c wa k1) m X = R1 at *
        generalize TaskM.new c wa k1 = T1 at *
        generalize TaskM.new c wb k2 = T2 at *
        have HF := Lib.hid (And.intro hX (And.intro G3 (And.intro hw2 (And.intro hlg (And.intro Z1 Z2)))))
        have HP := Lib.hid (And.intro P2 (And.intro P3 G2))
        have hXb : 0 ≤ X ∧ X ≤ 2400 := by omega
        have hn12 : n < 12 := by omega
        obtain ⟨gq0, rfl⟩ : ∃ g', gk = g' + 1 := ⟨gk - 1, by omega⟩
        clear hcm hmw hml hn hv k1w k2w hk1 hk2 e10 e1f e1v e20 hfb hsl P1 P2 P3 G1 G2 G3 hX hlg hw2 Z1 Z2 MK TN
        go_wp2_with fail
        refine wp_region_noPanic ?_
        refine wp_region_held_drew (S := (fun w' => (∀ j, w'.cell? ⟨gc, j, none⟩ = ([.int .i64 c.th, .int .i64 c.sl, .int .i64 c.src, .int .i64 c.dl] : List Value)[j]?))) (by kernel_rfl) ?_ (fun hHeld => ?_)
        · ((try dsimp only); (first | exact sat.rd 1 (by repeat (with_reducible first | exact K.out | apply sat.alloc_any | apply sat.drew | apply sat.drewN)) rfl | exact sat.rd 2 (by repeat (with_reducible first | exact K.out | apply sat.alloc_any | apply sat.drew | apply sat.drewN)) rfl))
        refine tk 0 (some 52) ?_
        (try simp only [Act.put, p0, p1, p2])
        refine tk 1 (some 53) ?_
        (try simp only [Act.put, p0, p1, p2])
        refine tk 2 (some 54) ?_
        (try simp only [Act.put, p0, p1, p2])
        refine tk 3 (some 55) ?_
        (try simp only [Act.put, p0, p1, p2])
        refine wpAnyH_ready (rs := [4]) (by kernel_rfl) (by simp) ?_
        refine AllReadyH.cons (o := _) rfl (fun kC hkC => ?_) AllReadyH.nil
        go_simp
        (first | (go_at_call 48; (with_reducible refine ((MK1 _).out).mono ?_); rintro e w1 ⟨rfl, hb⟩; have K1 := sat.grown (show sat _ _ _ from by first | exact K.out | exact K.out.drew) hb; clear hb; have K2 := Lib.hid K1; clear K1 K; (try clear a0); (try clear l0); (try clear f0); (try clear a1); (try clear l1); (try clear f1); (try clear a2); (try clear l2); (try clear f2); (try clear a3); (try clear l3); (try clear f3); (try clear a4); (try clear l4); (try clear f4); (try clear a5); (try clear l5); (try clear f5); have K := K2; clear K2; (try have a0 := K.out.rd 0 rfl); (try have l0 := K.out.ltp 0 rfl); (try have f0 := K.out.fr 0 rfl); (try have a1 := K.out.rd 1 rfl); (try have l1 := K.out.ltp 1 rfl); (try have f1 := K.out.fr 1 rfl); (try have a2 := K.out.rd 2 rfl); (try have l2 := K.out.ltp 2 rfl); (try have f2 := K.out.fr 2 rfl); (try have a3 := K.out.rd 3 rfl); (try have l3 := K.out.ltp 3 rfl); (try have f3 := K.out.fr 3 rfl)) | (go_at_call 47; (with_reducible refine ((TN1 _ _ (show sat E _ _ from by first | exact K.out | exact K.out.drew)).out).mono ?_); rintro e w1 ⟨gp, rfl, K1⟩; have K2 := Lib.hid K1; clear K1 K; (try clear a0); (try clear l0); (try clear f0); (try clear a1); (try clear l1); (try clear f1); (try clear a2); (try clear l2); (try clear f2); (try clear a3); (try clear l3); (try clear f3); (try clear a4); (try clear l4); (try clear f4); (try clear a5); (try clear l5); (try clear f5); have K := K2; clear K2; (try have a0 := K.out.rd 0 rfl); (try have l0 := K.out.ltp 0 rfl); (try have f0 := K.out.fr 0 rfl); (try have a1 := K.out.rd 1 rfl); (try have l1 := K.out.ltp 1 rfl); (try have f1 := K.out.fr 1 rfl); (try have a2 := K.out.rd 2 rfl); (try have l2 := K.out.ltp 2 rfl); (try have f2 := K.out.fr 2 rfl); (try have a3 := K.out.rd 3 rfl); (try have l3 := K.out.ltp 3 rfl); (try have f3 := K.out.fr 3 rfl)))
        refine shown hkC _ _ (by (try dsimp only); (first | exact sat.rd 1 (by repeat (with_reducible first | exact K.out | apply sat.alloc_any | apply sat.drew | apply sat.drewN)) rfl | exact sat.rd 2 (by repeat (with_reducible first | exact K.out | apply sat.alloc_any | apply sat.drew | apply sat.drewN)) rfl)) ?_; clear hkC kC hHeld; intro hHeld
        (try simp only [Act.put, p0, p1, p2])
        refine wpAnyH_ready (rs := [5]) (by kernel_rfl) (by simp) ?_
        refine AllReadyH.cons (o := _) rfl (fun kC hkC => ?_) AllReadyH.nil
        go_simp
        (first | (go_at_call 48; (with_reducible refine ((MK1 _).out).mono ?_); rintro e w1 ⟨rfl, hb⟩; have K1 := sat.grown (show sat _ _ _ from by first | exact K.out | exact K.out.drew) hb; clear hb; have K2 := Lib.hid K1; clear K1 K; (try clear a0); (try clear l0); (try clear f0); (try clear a1); (try clear l1); (try clear f1); (try clear a2); (try clear l2); (try clear f2); (try clear a3); (try clear l3); (try clear f3); (try clear a4); (try clear l4); (try clear f4); (try clear a5); (try clear l5); (try clear f5); have K := K2; clear K2; (try have a0 := K.out.rd 0 rfl); (try have l0 := K.out.ltp 0 rfl); (try have f0 := K.out.fr 0 rfl); (try have a1 := K.out.rd 1 rfl); (try have l1 := K.out.ltp 1 rfl); (try have f1 := K.out.fr 1 rfl); (try have a2 := K.out.rd 2 rfl); (try have l2 := K.out.ltp 2 rfl); (try have f2 := K.out.fr 2 rfl); (try have a3 := K.out.rd 3 rfl); (try have l3 := K.out.ltp 3 rfl); (try have f3 := K.out.fr 3 rfl)) | (go_at_call 47; (with_reducible refine ((TN1 _ _ (show sat E _ _ from by first | exact K.out | exact K.out.drew)).out).mono ?_); rintro e w1 ⟨gp, rfl, K1⟩; have K2 := Lib.hid K1; clear K1 K; (try clear a0); (try clear l0); (try clear f0); (try clear a1); (try clear l1); (try clear f1); (try clear a2); (try clear l2); (try clear f2); (try clear a3); (try clear l3); (try clear f3); (try clear a4); (try clear l4); (try clear f4); (try clear a5); (try clear l5); (try clear f5); have K := K2; clear K2; (try have a0 := K.out.rd 0 rfl); (try have l0 := K.out.ltp 0 rfl); (try have f0 := K.out.fr 0 rfl); (try have a1 := K.out.rd 1 rfl); (try have l1 := K.out.ltp 1 rfl); (try have f1 := K.out.fr 1 rfl); (try have a2 := K.out.rd 2 rfl); (try have l2 := K.out.ltp 2 rfl); (try have f2 := K.out.fr 2 rfl); (try have a3 := K.out.rd 3 rfl); (try have l3 := K.out.ltp 3 rfl); (try have f3 := K.out.fr 3 rfl)))
        refine shown hkC _ _ (by (try dsimp only); (first | exact sat.rd 1 (by repeat (with_reducible first | exact K.out | apply sat.alloc_any | apply sat.drew | apply sat.drewN)) rfl | exact sat.rd 2 (by repeat (with_reducible first | exact K.out | apply sat.alloc_any | apply sat.drew | apply sat.drewN)) rfl)) ?_; clear hkC kC hHeld; intro hHeld
        (try simp only [Act.put, p0, p1, p2])
        refine tk 6 (some 18) ?_
        (try simp only [Act.put, p0, p1, p2])
        refine wpAnyH_done (by kernel_rfl) (NoPanic.normal ?_) _
        go_wp2_with fail
        clear hHeld
        refine wp_region_noPanic ?_
        refine wp_region_held_drew (S := (fun w' => (∀ j, w'.cell? ⟨gc, j, none⟩ = ([.int .i64 c.th, .int .i64 c.sl, .int .i64 c.src, .int .i64 c.dl] : List Value)[j]?))) (by kernel_rfl) ?_ (fun hHeld => ?_)
        · ((try dsimp only); (first | exact sat.rd 2 (by repeat (with_reducible first | exact K.out | apply sat.alloc_any | apply sat.drew | apply sat.drewN)) rfl | exact sat.rd 3 (by repeat (with_reducible first | exact K.out | apply sat.alloc_any | apply sat.drew | apply sat.drewN)) rfl))
        refine tk 0 (some 58) ?_
        (try simp only [Act.put, p0, p1, p2])
        refine tk 1 (some 59) ?_
        (try simp only [Act.put, p0, p1, p2])
        refine tk 2 (some 60) ?_
        (try simp only [Act.put, p0, p1, p2])
        refine tk 3 (some 61) ?_
        (try simp only [Act.put, p0, p1, p2])
        refine wpAnyH_ready (rs := [4]) (by kernel_rfl) (by simp) ?_
        refine AllReadyH.cons (o := _) rfl (fun kC hkC => ?_) AllReadyH.nil
        go_simp
        (first | (go_at_call 48; (with_reducible refine ((MK2 _).out).mono ?_); rintro e w1 ⟨rfl, hb⟩; have K1 := sat.grown (show sat _ _ _ from by first | exact K.out | exact K.out.drew) hb; clear hb; have K2 := Lib.hid K1; clear K1 K; (try clear a0); (try clear l0); (try clear f0); (try clear a1); (try clear l1); (try clear f1); (try clear a2); (try clear l2); (try clear f2); (try clear a3); (try clear l3); (try clear f3); (try clear a4); (try clear l4); (try clear f4); (try clear a5); (try clear l5); (try clear f5); have K := K2; clear K2; (try have a0 := K.out.rd 0 rfl); (try have l0 := K.out.ltp 0 rfl); (try have f0 := K.out.fr 0 rfl); (try have a1 := K.out.rd 1 rfl); (try have l1 := K.out.ltp 1 rfl); (try have f1 := K.out.fr 1 rfl); (try have a2 := K.out.rd 2 rfl); (try have l2 := K.out.ltp 2 rfl); (try have f2 := K.out.fr 2 rfl); (try have a3 := K.out.rd 3 rfl); (try have l3 := K.out.ltp 3 rfl); (try have f3 := K.out.fr 3 rfl)) | (go_at_call 47; (with_reducible refine ((TN2 _ _ (show sat E _ _ from by first | exact K.out | exact K.out.drew)).out).mono ?_); rintro e w1 ⟨gg, rfl, K1⟩; have K2 := Lib.hid K1; clear K1 K; (try clear a0); (try clear l0); (try clear f0); (try clear a1); (try clear l1); (try clear f1); (try clear a2); (try clear l2); (try clear f2); (try clear a3); (try clear l3); (try clear f3); (try clear a4); (try clear l4); (try clear f4); (try clear a5); (try clear l5); (try clear f5); have K := K2; clear K2; (try have a0 := K.out.rd 0 rfl); (try have l0 := K.out.ltp 0 rfl); (try have f0 := K.out.fr 0 rfl); (try have a1 := K.out.rd 1 rfl); (try have l1 := K.out.ltp 1 rfl); (try have f1 := K.out.fr 1 rfl); (try have a2 := K.out.rd 2 rfl); (try have l2 := K.out.ltp 2 rfl); (try have f2 := K.out.fr 2 rfl); (try have a3 := K.out.rd 3 rfl); (try have l3 := K.out.ltp 3 rfl); (try have f3 := K.out.fr 3 rfl)))
        refine shown hkC _ _ (by (try dsimp only); (first | exact sat.rd 2 (by repeat (with_reducible first | exact K.out | apply sat.alloc_any | apply sat.drew | apply sat.drewN)) rfl | exact sat.rd 3 (by repeat (with_reducible first | exact K.out | apply sat.alloc_any | apply sat.drew | apply sat.drewN)) rfl)) ?_; clear hkC kC hHeld; intro hHeld
        (try simp only [Act.put, p0, p1, p2])
        refine wpAnyH_ready (rs := [5]) (by kernel_rfl) (by simp) ?_
        refine AllReadyH.cons (o := _) rfl (fun kC hkC => ?_) AllReadyH.nil
        go_simp
        (first | (go_at_call 48; (with_reducible refine ((MK2 _).out).mono ?_); rintro e w1 ⟨rfl, hb⟩; have K1 := sat.grown (show sat _ _ _ from by first | exact K.out | exact K.out.drew) hb; clear hb; have K2 := Lib.hid K1; clear K1 K; (try clear a0); (try clear l0); (try clear f0); (try clear a1); (try clear l1); (try clear f1); (try clear a2); (try clear l2); (try clear f2); (try clear a3); (try clear l3); (try clear f3); (try clear a4); (try clear l4); (try clear f4); (try clear a5); (try clear l5); (try clear f5); have K := K2; clear K2; (try have a0 := K.out.rd 0 rfl); (try have l0 := K.out.ltp 0 rfl); (try have f0 := K.out.fr 0 rfl); (try have a1 := K.out.rd 1 rfl); (try have l1 := K.out.ltp 1 rfl); (try have f1 := K.out.fr 1 rfl); (try have a2 := K.out.rd 2 rfl); (try have l2 := K.out.ltp 2 rfl); (try have f2 := K.out.fr 2 rfl); (try have a3 := K.out.rd 3 rfl); (try have l3 := K.out.ltp 3 rfl); (try have f3 := K.out.fr 3 rfl)) | (go_at_call 47; (with_reducible refine ((TN2 _ _ (show sat E _ _ from by first | exact K.out | exact K.out.drew)).out).mono ?_); rintro e w1 ⟨gg, rfl, K1⟩; have K2 := Lib.hid K1; clear K1 K; (try clear a0); (try clear l0); (try clear f0); (try clear a1); (try clear l1); (try clear f1); (try clear a2); (try clear l2); (try clear f2); (try clear a3); (try clear l3); (try clear f3); (try clear a4); (try clear l4); (try clear f4); (try clear a5); (try clear l5); (try clear f5); have K := K2; clear K2; (try have a0 := K.out.rd 0 rfl); (try have l0 := K.out.ltp 0 rfl); (try have f0 := K.out.fr 0 rfl); (try have a1 := K.out.rd 1 rfl); (try have l1 := K.out.ltp 1 rfl); (try have f1 := K.out.fr 1 rfl); (try have a2 := K.out.rd 2 rfl); (try have l2 := K.out.ltp 2 rfl); (try have f2 := K.out.fr 2 rfl); (try have a3 := K.out.rd 3 rfl); (try have l3 := K.out.ltp 3 rfl); (try have f3 := K.out.fr 3 rfl)))
        refine shown hkC _ _ (by (try dsimp only); (first | exact sat.rd 2 (by repeat (with_reducible first | exact K.out | apply sat.alloc_any | apply sat.drew | apply sat.drewN)) rfl | exact sat.rd 3 (by repeat (with_reducible first | exact K.out | apply sat.alloc_any | apply sat.drew | apply sat.drewN)) rfl)) ?_; clear hkC kC hHeld; intro hHeld
        (try simp only [Act.put, p0, p1, p2])
        refine tk 6 (some 19) ?_
        (try simp only [Act.put, p0, p1, p2])
        refine wpAnyH_done (by kernel_rfl) (NoPanic.normal ?_) _
        go_wp2_with fail
        have ZZ := HF.out.2.2.2.2
        have K1 : sat E w1 [memA gm (R1 0).2, taskA gp (R1 0).1, taskA gg T2, confPT gc c] := by rw [ZZ.1]; exact (K.out.pick 1 rfl).pick 2 rfl
        clear K ZZ hHeld
        have K := Lib.hid K1
        clear K1
        go_loopg [20, 15] 100 (fun GG i xv w' => ∃ (j : Nat) (x : Int), j + GG = 100 ∧ i = .int .i64 j ∧ xv = .int .i64 x ∧ x = X + j ∧ sat E w' [memA gm (R1 j).2, taskA gp (R1 j).1, taskA gg T2, confPT gc c])
        case atStart => exact ⟨0, X, by simp, rfl, rfl, by simp, K.out⟩
        case round =>
          obtain ⟨j, x, hj, rfl, rfl, hxe, hs⟩ := hrel
          clear K
          have K := Lib.hid hs
          clear hs
          (try clear a1 l1 a2 l2 a3 l3 f1 f2 f3)
          have HJ := Lib.hid hj
          have HXE := Lib.hid hxe
          rcases Nat.lt_or_ge j 100 with q | q
          · have d1 : decide ((j : Int) < 100) = true := by simp; omega
            have Sj := fun w' (M : List SA) (h : sat E w' (taskA gp (R1 j).1 :: memA gm (R1 j).2 :: M)) => S1 w' gp gm j M (by omega) h
            rw [← hxe] at Sj
            have wx : wrap64 (x + 1) = x + 1 := w64 (by omega) (by omega)
            obtain ⟨gq, rfl⟩ : ∃ g', gk = g' + 1 := ⟨gk - 1, by omega⟩
            have hj3 : j < 1000 := by omega
            clear hj hxe
            go_wp2_with ((go_at_call 49; (with_reducible refine ((Sj _ _ ((show sat E _ _ from by iterate 6 (try (with_reducible first | exact K.out | apply sat.alloc_any | apply sat.drew | apply sat.drewN))).pick 1 rfl)).out).mono ?_); rintro e w1 ⟨rfl, K1⟩; replace K1 := (show sat E w1 [memA gm (R1 (j + 1)).2, taskA gp (R1 (j + 1)).1, taskA gg T2, confPT gc c] from K1.pick 1 rfl); have K2 := Lib.hid K1; clear K1 K; (try clear a0); (try clear l0); (try clear a1); (try clear l1); (try clear a2); (try clear l2); have K := K2; clear K2))
            go_roundg gq
            case measure => omega
            case rel => exact ⟨j + 1, x + 1, by have := HJ.out; omega, by first | (simp; done) | (simp; exact w64 (by omega) (by omega)), by rw [wx], by have := HXE.out; omega, K.out⟩
          · obtain rfl : j = 100 := by omega
            have d1 : decide (((100 : Nat) : Int) < 100) = false := by decide
            have ZZ := HF.out.2.2.2.2
            have K1 : sat E wr [memA gm (R2 0).2, taskA gp (R1 100).1, taskA gg (R2 0).1, confPT gc c] := by rw [ZZ.2]; exact K.out
            clear K ZZ hj
            have K := Lib.hid K1
            clear K1
            have hxb : x = X + 100 := by omega
            clear hxe
            go_wp2_with fail
            go_loopg [21, 15] 100 (fun GG i xv w' => ∃ (j : Nat) (x : Int), j + GG = 100 ∧ i = .int .i64 j ∧ xv = .int .i64 x ∧ x = X + 100 + j ∧ sat E w' [memA gm (R2 j).2, taskA gp (R1 100).1, taskA gg (R2 j).1, confPT gc c])
            case atStart => exact ⟨0, x, by simp, rfl, rfl, by simp; omega, K.out⟩
            case round =>
              obtain ⟨k, z, hk, rfl, rfl, hze, hs⟩ := hrel
              clear K
              have K := Lib.hid hs
              clear hs
              have HK := Lib.hid hk
              have HZE := Lib.hid hze
              rcases Nat.lt_or_ge k 100 with q2 | q2
              · have d2 : decide ((k : Int) < 100) = true := by simp; omega
                have Sk := fun w' (M : List SA) (h : sat E w' (taskA gg (R2 k).1 :: memA gm (R2 k).2 :: M)) => S2 w' gg gm k M (by omega) h
                rw [← hze] at Sk
                have wz : wrap64 (z + 1) = z + 1 := w64 (by omega) (by omega)
                obtain ⟨gq2, rfl⟩ : ∃ g', gk = g' + 1 := ⟨gk - 1, by omega⟩
                have hk3 : k < 1000 := by omega
                clear hk hze hxb
                go_wp2_with ((go_at_call 49; (with_reducible refine ((Sk _ _ ((show sat E _ _ from by iterate 6 (try (with_reducible first | exact K.out | apply sat.alloc_any | apply sat.drew | apply sat.drewN))).pick 2 rfl)).out).mono ?_); rintro e w1 ⟨rfl, K1⟩; replace K1 := (show sat E w1 [memA gm (R2 (k + 1)).2, taskA gp (R1 100).1, taskA gg (R2 (k + 1)).1, confPT gc c] from (K1.pick 2 rfl).pick 2 rfl); have K2 := Lib.hid K1; clear K1 K; (try clear a0); (try clear l0); (try clear a1); (try clear l1); (try clear a2); (try clear l2); have K := K2; clear K2))
                go_roundg gq2
                case measure => omega
                case rel => exact ⟨k + 1, z + 1, by have := HK.out; omega, by first | (simp; done) | (simp; exact w64 (by omega) (by omega)), by rw [wz], by have := HZE.out; omega, K.out⟩
              · obtain rfl : k = 100 := by omega
                have d2 : decide (((100 : Nat) : Int) < 100) = false := by decide
                have RPp := fun w' (M : List SA) (h : sat E w' (taskA gp (R1 100).1 :: M)) => Lib.hid (kreply_calls gp (R1 100).1 h)
                have RPg := fun w' (M : List SA) (h : sat E w' (taskA gg (R2 100).1 :: M)) => Lib.hid (kreply_calls gg (R2 100).1 h)
                have p2 := HP.out.2.1
                have p3 := HP.out.2.2
                simp only [p2] at RPp
                simp only [p3] at RPg
                have SR := fun w => Lib.hid (sright_calls st w)
                rw [HP.out.1] at SR
                have ev : (v != v) = false := by simp
                clear p2 p3 hk q q2 hxb
                have HZ : Hid (z = X + 200) := Lib.hid (by omega)
                clear hze
                generalize (R2 100).1 = tG at *
                generalize hM2 : (R2 100).2 = m2 at *
                generalize (R1 100).1 = tP at *
                go_wp2_with (first | (go_at_call 50; (with_reducible refine ((RPp _ _ ((show sat E _ _ from by iterate 6 (try (with_reducible first | exact K.out | apply sat.alloc_any | apply sat.drew | apply sat.drewN))).pick 1 rfl)).out).mono ?_); rintro e w1 ⟨rfl, K1⟩; replace K1 := (show sat E w1 [memA gm m2, taskA gp tP, taskA gg tG, confPT gc c] from K1.pick 1 rfl); have K2 := Lib.hid K1; clear K1 K; (try clear a0); (try clear l0); (try clear a1); (try clear l1); (try clear a2); (try clear l2); have K := K2; clear K2) | (go_at_call 50; (with_reducible refine ((RPg _ _ ((show sat E _ _ from by iterate 6 (try (with_reducible first | exact K.out | apply sat.alloc_any | apply sat.drew | apply sat.drewN))).pick 2 rfl)).out).mono ?_); rintro e w1 ⟨rfl, K1⟩; replace K1 := (show sat E w1 [memA gm m2, taskA gp tP, taskA gg tG, confPT gc c] from (K1.pick 2 rfl).pick 2 rfl); have K2 := Lib.hid K1; clear K1 K; (try clear a0); (try clear l0); (try clear a1); (try clear l1); (try clear a2); (try clear l2); have K := K2; clear K2) | (go_at_call 51; (with_reducible refine ((SR _).out).mono ?_); rintro e w1 ⟨rfl, hb⟩; have K1 := sat.grown (by repeat (with_reducible first | exact K.out | apply sat.alloc_any | apply sat.drew | apply sat.drewN)) hb; clear hb; have K2 := Lib.hid K1; clear K1 K; (try clear a0); (try clear l0); (try clear a1); (try clear l1); (try clear a2); (try clear l2); have K := K2; clear K2))
                go_roundg gq0
                case measure => omega
                case rel => exact ⟨n + 1, z, m2, by have := HN.out; omega, by first | (simp; done) | (simp; exact w64 (by omega) (by omega)), rfl, by have := HZ.out; have := HF.out.1; omega, by rw [show (((n + 1 : Nat)) : Int) = (n : Int) + 1 by omega]; exact HF.out.2.1, HF.out.2.2.1, HF.out.2.2.2.1, ((K.out.pick 1 rfl).drop.pick 1 rfl).drop⟩
      · have d0 : decide (n < l.length) = false := by simpa using hlt
        obtain ⟨k3, hk3⟩ : ∃ k, k = (⟨bitM true, bitM (!right), 0, 0⟩ : CallM) := ⟨_, rfl⟩
        have k3w : k3.wf := by rw [hk3]; exact ⟨by show (0 : Int) ≤ 0; decide, by show (0 : Int) < _; decide⟩
        have e30 : k3.kind ≠ 0 := by rw [hk3]; show bitM true ≠ 0; decide
        have MK3 := fun w => MK true (!right) 0 0 w
        rw [← hk3] at MK3
        obtain ⟨N1, N2⟩ := pair_none HC.out HS.out.1 HS.out.2.1 (who := wb) (n0 := 0) HW2.out.1 HW2.out.2 hcm e30
        have o3 := TaskM.new_okn HC.out (who := wb) HW2.out.1 HW2.out.2 k3w
        have F3 := TaskM.runF_ok (n0 := 0) (Int.le_refl _) o3 hmw
        have en : TaskM.new c wb k3 = ⟨k3, .get (GetM.new c wb k3.fin k3.start)⟩ := by unfold TaskM.new; rw [if_neg e30]
        have S3 := fun w' b bm j (M : List SA) (hj : j < 1000) (h : sat E w' (taskA b (TaskM.runF (TaskM.new c wb k3) m 0 j).1 :: memA bm (TaskM.runF (TaskM.new c wb k3) m 0 j).2 :: M)) => Lib.hid (kstep2_calls b bm _ _ X ((F3 j (by omega)).okn.work.ok (by omega)) (by have := (F3 j (by omega)).log; omega) h)
        have ST3 : ∀ j, (TaskM.runF (TaskM.new c wb k3) m 0 j).1.step (TaskM.runF (TaskM.new c wb k3) m 0 j).2 X = TaskM.runF (TaskM.new c wb k3) m 0 (j + 1) := fun j => by rw [en]; exact get_stepX k3 _ m 0 X j
        simp only [ST3] at S3
        have Z3 : TaskM.runF (TaskM.new c wb k3) m 0 0 = (TaskM.new c wb k3, m) := rfl
        have TN3 := fun w' (M : List SA) (h : sat E w' M) => TN wb k3 w' M h
        clear ST3 en F3 o3
        generalize TaskM.runF (TaskM.new c wb k3) m 0 = R3 at *
        generalize TaskM.new c wb k3 = T3 at *
        have HF := Lib.hid (And.intro N1 (And.intro N2 Z3))
        clear N1 N2 Z3 MK TN hcm hmw hml hX hk3 k3w e30 HW H hn
        go_wp2_with fail
        refine wp_region_noPanic ?_
        refine wp_region_held_drew (S := (fun w' => (∀ j, w'.cell? ⟨gc, j, none⟩ = ([.int .i64 c.th, .int .i64 c.sl, .int .i64 c.src, .int .i64 c.dl] : List Value)[j]?))) (by kernel_rfl) ?_ (fun hHeld => ?_)
        · ((try dsimp only); (first | exact sat.rd 1 (by repeat (with_reducible first | exact K.out | apply sat.alloc_any | apply sat.drew | apply sat.drewN)) rfl | exact sat.rd 2 (by repeat (with_reducible first | exact K.out | apply sat.alloc_any | apply sat.drew | apply sat.drewN)) rfl))
        refine tk 0 (some 109) ?_
        (try simp only [Act.put, p0, p1, p2])
        refine tk 1 (some 110) ?_
        (try simp only [Act.put, p0, p1, p2])
        refine tk 2 (some 111) ?_
        (try simp only [Act.put, p0, p1, p2])
        refine tk 3 (some 112) ?_
        (try simp only [Act.put, p0, p1, p2])
        refine wpAnyH_ready (rs := [4]) (by kernel_rfl) (by simp) ?_
        refine AllReadyH.cons (o := _) rfl (fun kC hkC => ?_) AllReadyH.nil
        go_simp
        (first | (go_at_call 48; (with_reducible refine ((MK3 _).out).mono ?_); rintro e w1 ⟨rfl, hb⟩; have K1 := sat.grown (show sat _ _ _ from by first | exact K.out | exact K.out.drew) hb; clear hb; have K2 := Lib.hid K1; clear K1 K; (try clear a0); (try clear l0); (try clear f0); (try clear a1); (try clear l1); (try clear f1); (try clear a2); (try clear l2); (try clear f2); (try clear a3); (try clear l3); (try clear f3); (try clear a4); (try clear l4); (try clear f4); (try clear a5); (try clear l5); (try clear f5); have K := K2; clear K2; (try have a0 := K.out.rd 0 rfl); (try have l0 := K.out.ltp 0 rfl); (try have f0 := K.out.fr 0 rfl); (try have a1 := K.out.rd 1 rfl); (try have l1 := K.out.ltp 1 rfl); (try have f1 := K.out.fr 1 rfl); (try have a2 := K.out.rd 2 rfl); (try have l2 := K.out.ltp 2 rfl); (try have f2 := K.out.fr 2 rfl); (try have a3 := K.out.rd 3 rfl); (try have l3 := K.out.ltp 3 rfl); (try have f3 := K.out.fr 3 rfl)) | (go_at_call 47; (with_reducible refine ((TN3 _ _ (show sat E _ _ from by first | exact K.out | exact K.out.drew)).out).mono ?_); rintro e w1 ⟨gz, rfl, K1⟩; have K2 := Lib.hid K1; clear K1 K; (try clear a0); (try clear l0); (try clear f0); (try clear a1); (try clear l1); (try clear f1); (try clear a2); (try clear l2); (try clear f2); (try clear a3); (try clear l3); (try clear f3); (try clear a4); (try clear l4); (try clear f4); (try clear a5); (try clear l5); (try clear f5); have K := K2; clear K2; (try have a0 := K.out.rd 0 rfl); (try have l0 := K.out.ltp 0 rfl); (try have f0 := K.out.fr 0 rfl); (try have a1 := K.out.rd 1 rfl); (try have l1 := K.out.ltp 1 rfl); (try have f1 := K.out.fr 1 rfl); (try have a2 := K.out.rd 2 rfl); (try have l2 := K.out.ltp 2 rfl); (try have f2 := K.out.fr 2 rfl); (try have a3 := K.out.rd 3 rfl); (try have l3 := K.out.ltp 3 rfl); (try have f3 := K.out.fr 3 rfl)))
        refine shown hkC _ _ (by (try dsimp only); (first | exact sat.rd 1 (by repeat (with_reducible first | exact K.out | apply sat.alloc_any | apply sat.drew | apply sat.drewN)) rfl | exact sat.rd 2 (by repeat (with_reducible first | exact K.out | apply sat.alloc_any | apply sat.drew | apply sat.drewN)) rfl)) ?_; clear hkC kC hHeld; intro hHeld
        (try simp only [Act.put, p0, p1, p2])
        refine wpAnyH_ready (rs := [5]) (by kernel_rfl) (by simp) ?_
        refine AllReadyH.cons (o := _) rfl (fun kC hkC => ?_) AllReadyH.nil
        go_simp
        (first | (go_at_call 48; (with_reducible refine ((MK3 _).out).mono ?_); rintro e w1 ⟨rfl, hb⟩; have K1 := sat.grown (show sat _ _ _ from by first | exact K.out | exact K.out.drew) hb; clear hb; have K2 := Lib.hid K1; clear K1 K; (try clear a0); (try clear l0); (try clear f0); (try clear a1); (try clear l1); (try clear f1); (try clear a2); (try clear l2); (try clear f2); (try clear a3); (try clear l3); (try clear f3); (try clear a4); (try clear l4); (try clear f4); (try clear a5); (try clear l5); (try clear f5); have K := K2; clear K2; (try have a0 := K.out.rd 0 rfl); (try have l0 := K.out.ltp 0 rfl); (try have f0 := K.out.fr 0 rfl); (try have a1 := K.out.rd 1 rfl); (try have l1 := K.out.ltp 1 rfl); (try have f1 := K.out.fr 1 rfl); (try have a2 := K.out.rd 2 rfl); (try have l2 := K.out.ltp 2 rfl); (try have f2 := K.out.fr 2 rfl); (try have a3 := K.out.rd 3 rfl); (try have l3 := K.out.ltp 3 rfl); (try have f3 := K.out.fr 3 rfl)) | (go_at_call 47; (with_reducible refine ((TN3 _ _ (show sat E _ _ from by first | exact K.out | exact K.out.drew)).out).mono ?_); rintro e w1 ⟨gz, rfl, K1⟩; have K2 := Lib.hid K1; clear K1 K; (try clear a0); (try clear l0); (try clear f0); (try clear a1); (try clear l1); (try clear f1); (try clear a2); (try clear l2); (try clear f2); (try clear a3); (try clear l3); (try clear f3); (try clear a4); (try clear l4); (try clear f4); (try clear a5); (try clear l5); (try clear f5); have K := K2; clear K2; (try have a0 := K.out.rd 0 rfl); (try have l0 := K.out.ltp 0 rfl); (try have f0 := K.out.fr 0 rfl); (try have a1 := K.out.rd 1 rfl); (try have l1 := K.out.ltp 1 rfl); (try have f1 := K.out.fr 1 rfl); (try have a2 := K.out.rd 2 rfl); (try have l2 := K.out.ltp 2 rfl); (try have f2 := K.out.fr 2 rfl); (try have a3 := K.out.rd 3 rfl); (try have l3 := K.out.ltp 3 rfl); (try have f3 := K.out.fr 3 rfl)))
        refine shown hkC _ _ (by (try dsimp only); (first | exact sat.rd 1 (by repeat (with_reducible first | exact K.out | apply sat.alloc_any | apply sat.drew | apply sat.drewN)) rfl | exact sat.rd 2 (by repeat (with_reducible first | exact K.out | apply sat.alloc_any | apply sat.drew | apply sat.drewN)) rfl)) ?_; clear hkC kC hHeld; intro hHeld
        (try simp only [Act.put, p0, p1, p2])
        refine tk 6 (some 22) ?_
        (try simp only [Act.put, p0, p1, p2])
        refine wpAnyH_done (by kernel_rfl) (NoPanic.normal ?_) _
        go_wp2_with fail
        have ZZ := HF.out.2.2
        have K1 : sat E w1 [taskA gz (R3 0).1, memA gm (R3 0).2, confPT gc c] := by rw [ZZ]; exact K.out
        clear K ZZ hHeld
        have K := Lib.hid K1
        clear K1
        go_loopg [23] 100 (fun GG i w' => ∃ (j : Nat), j + GG = 100 ∧ i = .int .i64 j ∧ sat E w' [taskA gz (R3 j).1, memA gm (R3 j).2, confPT gc c])
        case atStart => exact ⟨0, by simp, rfl, K.out⟩
        case round =>
          obtain ⟨j, hj, rfl, hs⟩ := hrel
          clear K
          have K := Lib.hid hs
          clear hs
          (try clear a1 l1 a2 l2 f1 f2)
          have HJ := Lib.hid hj
          rcases Nat.lt_or_ge j 100 with q | q
          · have d1 : decide ((j : Int) < 100) = true := by simp; omega
            have Sj := fun w' (M : List SA) (h : sat E w' (taskA gz (R3 j).1 :: memA gm (R3 j).2 :: M)) => S3 w' gz gm j M (by omega) h
            obtain ⟨gq, rfl⟩ : ∃ g', gk = g' + 1 := ⟨gk - 1, by omega⟩
            have hj3 : j < 1000 := by omega
            clear hj
            go_wp2_with ((go_at_call 49; (with_reducible refine ((Sj _ _ (show sat E _ _ from by iterate 6 (try (with_reducible first | exact K.out | apply sat.alloc_any | apply sat.drew | apply sat.drewN)))).out).mono ?_); rintro e w1 ⟨rfl, K1⟩; have K2 := Lib.hid K1; clear K1 K; (try clear a0); (try clear l0); (try clear a1); (try clear l1); (try clear a2); (try clear l2); have K := K2; clear K2))
            go_roundg gq
            case measure => omega
            case rel => exact ⟨j + 1, by have := HJ.out; omega, by first | (simp; done) | (simp; exact w64 (by omega) (by omega)), K.out⟩
          · obtain rfl : j = 100 := by omega
            have d1 : decide (((100 : Nat) : Int) < 100) = false := by decide
            have OV := fun w' (M : List SA) (h : sat E w' (taskA gz (R3 100).1 :: M)) => Lib.hid (kover_calls gz (R3 100).1 h)
            have RP := fun w' (M : List SA) (h : sat E w' (taskA gz (R3 100).1 :: M)) => Lib.hid (kreply_calls gz (R3 100).1 h)
            have p1 := HF.out.1
            have p2 := HF.out.2.1
            simp only [p1] at OV
            simp only [p2] at RP
            clear p1 p2 hj S3
            go_wp2_with (first | (go_at_call 52; (with_reducible refine (OV _ _ K.out).out.mono ?_); rintro e w1 ⟨rfl, rfl⟩) | (go_at_call 50; (with_reducible refine ((RP _ _ (show sat E _ _ from by iterate 6 (try (with_reducible first | exact K.out | apply sat.alloc_any | apply sat.drew | apply sat.drewN)))).out).mono ?_); rintro e w1 ⟨rfl, K1⟩; have K2 := Lib.hid K1; clear K1 K; (try clear a0); (try clear l0); (try clear a1); (try clear l1); (try clear a2); (try clear l2); have K := K2; clear K2))
            go_ret
            exact ⟨rfl, K.out.below⟩
theorem taskPairs_calls (W : World) (t : Int) (_ : (Lit.int .i64 t).wf = true) (r : Int) (_ : (Lit.int .i64 r).wf = true) (x : Int) (_ : (Lit.int .i64 x).wf = true) (y : Int) (_ : (Lit.int .i64 y).wf = true) (right : Bool) (a : Option Addr) (len cap : Nat) (rows : List (List Value)) (h : RowsAt W [.int .u64] a len cap rows) :
    Calls Try.prog 9 #[.int .i64 t, .int .i64 r, .int .i64 x, .int .i64 y, .bool right, .slice a len cap] W fun e W' => e = .returned (.bool true) ∧ Below W.heap.size W W' := by
  obtain ⟨l, rfl, hwf, ho⟩ := oldV_of h
  exact taskPairs_main t r x y right a l cap W hwf ho
end Go.Proofs.Ytlnfbfnccefcnaa
