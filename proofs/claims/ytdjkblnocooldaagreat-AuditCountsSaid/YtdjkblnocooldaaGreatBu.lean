/- Several texts in one: CountM YardX. Each says ahead of it what it shows. -/
import Derived.Test.YtdjkblnocooldaaGreatBd
import Derived.Test.YtdjkblnocooldaaGreatBc
import Derived.Test.YtdjkblnocooldaaGreatB1
set_option linter.unusedVariables false
set_option linter.unusedSimpArgs false
/- As many places are live as values were put in and not taken, or are being taken (the plain law of AuditCounts). -/
namespace Go.Proofs.YtdjkblnocooldaaGreat
def sumN {α : Type} (f : α → Int) : List α → Int
  | [] => 0
  | a :: l => f a + sumN f l
theorem sumN_append {α : Type} (f : α → Int) : ∀ (a b : List α), sumN f (a ++ b) = sumN f a + sumN f b
  | [], b => by simp [sumN]
  | x :: a, b => by
    show f x + sumN f (a ++ b) = f x + sumN f a + sumN f b
    rw [sumN_append f a b]; omega
theorem sumN_set {α : Type} (f : α → Int) : ∀ {l : List α} {i : Nat} {a : α} (h : l[i]? = some a) (x : α), sumN f (l.set i x) = sumN f l - f a + f x
  | [], i, a, h, x => by simp at h
  | b :: l, 0, a, h, x => by
    simp at h
    subst h
    show f x + sumN f l = f b + sumN f l - f b + f x
    omega
  | b :: l, i + 1, a, h, x => by
    show f b + sumN f (l.set i x) = f b + sumN f l - f a + f x
    rw [sumN_set f (l := l) (i := i) (by simpa using h) x]; omega
theorem sumN_modify {α : Type} (f : α → Int) (g : α → α) : ∀ {l : List α} {i : Nat} {a : α} (h : l[i]? = some a), sumN f (l.modify i g) = sumN f l - f a + f (g a)
  | [], i, a, h => by simp at h
  | b :: l, 0, a, h => by
    simp at h
    subst h
    show f (g b) + sumN f l = f b + sumN f l - f b + f (g b)
    omega
  | b :: l, i + 1, a, h => by
    show f b + sumN f (l.modify i g) = f b + sumN f l - f a + f (g a)
    rw [sumN_modify f g (l := l) (i := i) (by simpa using h)]; omega
theorem sumN_le {α : Type} {f g : α → Int} : ∀ {l : List α}, (∀ a ∈ l, f a ≤ g a) → sumN f l ≤ sumN g l
  | [], _ => Int.le_refl _
  | a :: l, h => by
    have h1 := h a (by simp)
    have h2 := sumN_le (f := f) (g := g) (l := l) (fun b hb => h b (by simp [hb]))
    show f a + sumN f l ≤ g a + sumN g l
    omega
theorem sumN_rep {α : Type} (f : α → Int) (a : α) (h : f a = 0) : ∀ n : Nat, sumN f (List.replicate n a) = 0
  | 0 => rfl
  | n + 1 => by
    show f a + sumN f (List.replicate n a) = 0
    rw [sumN_rep f a h n, h]; rfl
theorem set_at_self {α : Type} : ∀ {l : List α} {i : Nat} {a : α}, l[i]? = some a → l.set i a = l
  | [], i, a, h => by simp at h
  | b :: l, 0, a, h => by simp at h; subst h; rfl
  | b :: l, i + 1, a, h => by
    show b :: l.set i a = b :: l
    rw [set_at_self (l := l) (i := i) (by simpa using h)]
def livW (x : Int) : Int := if (unpack x).state = 1 then 1 else 0
def wordsC (c : ConfM) (m : MemM) : List Int := m.cells.take c.all.toNat
def livN (c : ConfM) (m : MemM) : Int := sumN livW (wordsC c m)
def fineN (c : ConfM) (m : MemM) : Prop := ∀ x ∈ wordsC c m, (unpack x).state ≠ 3
theorem wordsC_same {c : ConfM} {m m' : MemM} (e : m'.cells = m.cells) : wordsC c m' = wordsC c m := by unfold wordsC; rw [e]
theorem wordsC_ext {c : ConfM} (hc : c.ok) {m m' : MemM} (h : (m.cells.length : Int) = c.cells) (h' : (m'.cells.length : Int) = c.cells) (e : ∀ s, 0 ≤ s → s < c.all → getI m'.cells s = getI m.cells s) : wordsC c m' = wordsC c m := by
  have hal := hc.all_bd
  have hcl : c.all ≤ c.cells := by have := hc.th1; unfold ConfM.cells; omega
  unfold wordsC
  refine List.ext_getElem (by simp; omega) (fun i h1 h2 => ?_)
  simp only [List.length_take] at h1 h2
  rw [List.getElem_take, List.getElem_take]
  have := e i (by omega) (by omega)
  unfold getI at this
  rw [List.getD_eq_getElem?_getD, List.getD_eq_getElem?_getD, Int.toNat_natCast, List.getElem?_eq_getElem (by omega), List.getElem?_eq_getElem (by omega)] at this
  simpa using this
theorem wordsC_out {c : ConfM} {m : MemM} {w op cell old next : Int} (h0 : c.all ≤ cell) : wordsC c (m.touch w op cell old next) = wordsC c m := by
  unfold wordsC MemM.touch
  split
  · show (setI m.cells cell _).take _ = _
    unfold setI
    rw [List.take_set]
    exact List.set_eq_of_length_le (by simp; omega)
  · rfl
theorem wordsC_in {c : ConfM} {m : MemM} {w op cell old next : Int} (h0 : 0 ≤ cell) (h1 : cell < c.all) (hh : m.has cell) : wordsC c (m.touch w op cell old next) = (wordsC c m).set cell.toNat (opNew op (getI m.cells cell) old next) ∧ (wordsC c m)[cell.toNat]? = some (getI m.cells cell) := by
  constructor
  · unfold wordsC MemM.touch
    rw [if_pos hh]
    show (setI m.cells cell _).take _ = _
    unfold setI
    rw [List.take_set]
  · unfold wordsC
    rw [List.getElem?_take, if_pos (by omega)]
    unfold getI
    rw [List.getD_eq_getElem?_getD]
    have := hh.2
    rw [List.getElem?_eq_getElem (by omega)]
    rfl
def tookK (t : TaskM) : Int := match t.work with
  | .put _ => 0
  | .get g => match g.take with
    | none => 0
    | some a => if 4 ≤ a.steps ∧ a.lost = false then 1 else 0
def tookT : Option TaskM → Int
  | none => 0
  | some t => tookK t
def TaskM.isPut (t : TaskM) : Bool := match t.work with
  | .put _ => true
  | .get _ => false
def okG (t : TaskM) : Int := if t.over = true ∧ t.reply.ok = true ∧ t.isPut = false then 1 else 0
def okP (t : TaskM) : Int := if t.over = true ∧ t.reply.ok = true ∧ t.isPut = true then 1 else 0
/-- A step turns the sum of what is live, taken and had by what was put in. -/
structure Sums (c : ConfM) (m m' : MemM) (t t' : TaskM) : Prop where
  fine : fineN c m → fineN c m'
  sum : livN c m' + (if t'.over = true then 0 else tookK t') + okG t' = livN c m + tookK t + okP t'
section
variable {c : ConfM} {m : MemM} {ts : List (Option TaskM)} {w : Nat}
theorem sums_same {m' : MemM} {t t' : TaskM} (e : wordsC c m' = wordsC c m) (h : (if t'.over = true then 0 else tookK t') + okG t' = tookK t + okP t') : Sums c m m' t t' :=
  ⟨fun hf => by unfold fineN; rw [e]; exact hf, by unfold livN; rw [e]; omega⟩
theorem put_over {k : CallM} {p : PutM} (h : p.phase = 0 ∨ p.phase = 2) : (if (⟨k, .put p⟩ : TaskM).over = true then 0 else tookK ⟨k, .put p⟩) + okG ⟨k, .put p⟩ = 0 + okP ⟨k, .put p⟩ := by
  have e1 : okG ⟨k, .put p⟩ = 0 := if_neg (fun q => by cases q.2.2)
  have e2 : okP ⟨k, .put p⟩ = 0 := if_neg (fun q => by
    have q2 := q.2.1
    unfold TaskM.reply at q2
    rw [if_pos (by show p.phase ≠ 1; omega)] at q2
    cases q2)
  rw [e1, e2]
  split <;> rfl
theorem put_sums (h : Proto c m ts) {k : CallM} {p : PutM} (hat : ts[w]? = some (some ⟨k, .put p⟩)) {now : Int} (hnow : 0 ≤ now) : Sums c m (p.step m now).2 ⟨k, .put p⟩ ⟨k, .put (p.step m now).1⟩ := by
  have hI := h.put w k p hat
  have hw := at_th h.tl hat
  have hc := h.conf
  have hal := hc.all_bd
  obtain ⟨sl, b0, b1⟩ := hI.slot_bd hc (by omega) hw
  have hcc : c.all ≤ c.cells := by have := hc.th1; unfold ConfM.cells; omega
  have hpc := hI.own.conf
  show Sums c m (p.step m now).2 ⟨k, .put p⟩ ⟨k, .put (p.step m now).1⟩
  unfold PutM.step
  rw [if_neg (by have := hI.phase; omega)]
  by_cases hcp : p.claim.phase = 0
  · rw [if_pos hcp]
    have e : (p.claim.step m).2.cells = m.cells := by
      unfold ClaimM.step
      rw [if_neg (by omega)]
      split
      · exact load_cells _ _ _ _ _
      · exact load_cells _ _ _ _ _
    refine sums_same (wordsC_same e) (put_over ?_)
    show (if (p.claim.step m).1.phase = 2 then (2 : Int) else p.phase) = 0 ∨ (if (p.claim.step m).1.phase = 2 then (2 : Int) else p.phase) = 2
    split
    · exact .inr rfl
    · exact .inl hI.phase
  · rw [if_neg hcp]
    by_cases htp : p.tick.phase = 0
    · rw [if_pos htp]
      have T := tick_did h hw hI.tick hI.own.tick htp hnow
      refine sums_same (wordsC_ext hc h.logd.cl T.logd.cl T.words) (put_over ?_)
      show (if (p.tick.step m now).1.phase = 2 then (2 : Int) else p.phase) = 0 ∨ (if (p.tick.step m now).1.phase = 2 then (2 : Int) else p.phase) = 2
      split
      · exact .inr rfl
      · exact .inl hI.phase
    · rw [if_neg htp]
      by_cases hs : p.stored = false
      · rw [if_pos hs]
        exact sums_same (wordsC_out (by rw [hpc]; unfold ConfM.value; omega)) (put_over (.inl hI.phase))
      · rw [if_neg hs]
        have hp1 : p.claim.phase = 1 := by rcases hI.claim.ph with q | q <;> omega
        have ht1 : p.tick.phase = 1 := by rcases hI.tick.ph with q | q <;> omega
        obtain ⟨c1, c2, c3⟩ := hI.claim.cw (.inr hp1)
        have hst := hI.tick.st ht1
        have hst2 : 0 ≤ p.tick.stamp.lo ∧ p.tick.stamp.lo ≤ p.tick.stamp.hi ∧ p.tick.stamp.hi < 16777215 := by
          unfold StampM.right at hst
          simpa [Top, and_assoc] using hst
        have hg0 : 0 ≤ p.claim.word.gen := by rw [← c1]; exact unpack_gen0 _
        have hfin := hI.fin
        have hR : (p.claim.word.next p.fin p.tick.stamp).right = true := by
          unfold WordM.right WordM.next Top
          simp only [Bool.and_eq_true, Bool.or_eq_true, decide_eq_true_eq]
          omega
        have hU := unpack_pack _ hR
        have hh := h.logd.has b0 (by omega)
        obtain ⟨e1, e2⟩ := wordsC_in (c := c) (w := p.who) (op := 1) (old := 0) (next := (p.claim.word.next p.fin p.tick.stamp).pack) b0 b1 hh
        have hnew : opNew 1 (getI m.cells p.claim.slot) 0 (p.claim.word.next p.fin p.tick.stamp).pack = (p.claim.word.next p.fin p.tick.stamp).pack := rfl
        rw [hnew] at e1
        have hst1 : (unpack (p.claim.word.next p.fin p.tick.stamp).pack).state = 1 := by rw [hU]; rfl
        have hold : (unpack (getI m.cells p.claim.slot)).state ≠ 1 := by
          have : wdM m p.claim.slot = p.claim.word := c1
          unfold wdM at this
          rw [this]; exact c2
        refine ⟨fun hf => ?_, ?_⟩
        · unfold fineN
          rw [e1]
          intro x hx
          rcases List.mem_or_eq_of_mem_set hx with hx | rfl
          · exact hf x hx
          · omega
        · unfold livN
          rw [e1, sumN_set livW e2]
          have l0 : livW (getI m.cells p.claim.slot) = 0 := if_neg hold
          have l1 : livW (p.claim.word.next p.fin p.tick.stamp).pack = 1 := if_pos hst1
          rw [l0, l1]
          have q1 : ({ call := k, work := .put { p with phase := 1 } } : TaskM).over = true := rfl
          have q2 : okG { call := k, work := .put { p with phase := 1 } } = 0 := if_neg (fun q => by cases q.2.2)
          have q3 : okP { call := k, work := .put { p with phase := 1 } } = 1 := if_pos ⟨rfl, rfl, rfl⟩
          have q4 : tookK ⟨k, .put p⟩ = 0 := rfl
          rw [q2, q3, q4, if_pos q1]
          omega
theorem get_over {k : CallM} {g : GetM} {n : Int} (h : g.phase = 2 ∨ (g.phase = 0 ∧ tookK ⟨k, .get g⟩ = n)) (hn : g.phase = 2 → n = 0) : (if (⟨k, .get g⟩ : TaskM).over = true then 0 else tookK ⟨k, .get g⟩) + okG ⟨k, .get g⟩ = n + okP ⟨k, .get g⟩ := by
  have e1 : okP ⟨k, .get g⟩ = 0 := if_neg (fun q => by cases q.2.2)
  have e2 : okG ⟨k, .get g⟩ = 0 := if_neg (fun q => by
    have q2 := q.2.1
    unfold TaskM.reply at q2
    rw [if_pos (by show g.phase ≠ 1; omega)] at q2
    cases q2)
  rw [e1, e2]
  rcases h with h | ⟨h1, h2⟩
  · rw [if_pos (by show (!decide (g.phase = 0)) = true; rw [h]; rfl), hn h]
  · rw [if_neg (by show ¬ (!decide (g.phase = 0)) = true; rw [h1]; decide), h2]
theorem get_sums (h : Proto c m ts) {k : CallM} {g : GetM} (hat : ts[w]? = some (some ⟨k, .get g⟩)) : Sums c m (g.step m).2 ⟨k, .get g⟩ ⟨k, .get (g.step m).1⟩ := by
  have hI := h.get w k g hat
  have hw := at_th h.tl hat
  have hc := h.conf
  have hal := hc.all_bd
  have hth := hc.th1
  have hcc : c.all ≤ c.cells := by unfold ConfM.cells; omega
  have hp := hI.phase
  unfold GetM.step
  rw [if_neg (by omega)]
  cases ht : g.take with
  | none =>
    dsimp only
    have e : (g.snap.step m).2.cells = m.cells := by
      unfold SnapM.step
      split
      · rfl
      · exact load_cells _ _ _ _ _
    have e0 : tookK ⟨k, .get g⟩ = 0 := by unfold tookK; dsimp only; rw [ht]
    refine sums_same (wordsC_same e) ?_
    rw [e0]
    split
    · refine get_over ?_ (fun _ => rfl)
      unfold GetM.chosen
      dsimp only
      split
      · exact .inl rfl
      · refine .inr ⟨hp, ?_⟩
        unfold tookK
        dsimp only
        exact if_neg (fun q => by
          have : (4 : Int) ≤ 0 := q.1
          omega)
    · refine get_over (.inr ⟨hp, ?_⟩) (fun _ => rfl)
      unfold tookK
      dsimp only
      (try rw [ht])
  | some a =>
    dsimp only
    obtain ⟨hT, hap⟩ := hI.take a ht
    have hac := hT.own.conf
    have hawh := hT.own.who
    have haz : c.all ≤ a.conf.hazard a.who := by rw [hac, hawh]; unfold ConfM.hazard; omega
    have e0 : tookK ⟨k, .get g⟩ = if 4 ≤ a.steps ∧ a.lost = false then 1 else 0 := by unfold tookK; dsimp only; rw [ht]
    have gone : ∀ (m' : MemM) (b : TakeM), wordsC c m' = wordsC c m → b.phase = 0 → (if 4 ≤ b.steps ∧ b.lost = false then (1 : Int) else 0) = (if 4 ≤ a.steps ∧ a.lost = false then 1 else 0) →
        Sums c m m' ⟨k, .get g⟩ ⟨k, .get (if b.phase = 1 then { g with take := some b, value := b.get, phase := 1 } else if b.phase = 2 then { g with tries := g.tries + 1, take := none, snap := SnapM.new g.conf g.who g.start } else { g with take := some b })⟩ := by
      intro m' b em hb hs
      have eb : (if b.phase = 1 then { g with take := some b, value := b.get, phase := 1 } else if b.phase = 2 then { g with tries := g.tries + 1, take := none, snap := SnapM.new g.conf g.who g.start } else { g with take := some b } : GetM) = { g with take := some b } := by rw [if_neg (by omega), if_neg (by omega)]
      rw [eb]
      refine sums_same em ?_
      rw [e0, ← hs]
      refine get_over (.inr ⟨hp, rfl⟩) (fun q => ?_)
      have q' : g.phase = 2 := q
      omega
    unfold TakeM.step
    rw [if_neg (by omega)]
    by_cases hl : a.lost = true
    · rw [if_pos hl]
      unfold TakeM.fin
      rw [if_pos hl]
      dsimp only
      rw [if_neg (show ¬ ((2 : Int) = 1) by decide), if_pos (show (2 : Int) = 2 from rfl)]
      refine sums_same (wordsC_out haz) ?_
      rw [e0, show (if 4 ≤ a.steps ∧ a.lost = false then (1 : Int) else 0) = 0 from if_neg (by rw [hl]; rintro ⟨_, q⟩; cases q)]
      refine get_over (.inr ⟨hp, ?_⟩) (fun _ => rfl)
      rfl
    · rw [if_neg hl]
      have hl' : a.lost = false := by simpa using hl
      by_cases s0 : a.steps = 0
      · rw [if_pos s0]
        dsimp only
        exact gone _ { a with steps := a.steps + 1 } (wordsC_out haz) hap (by rw [if_neg (by rintro ⟨q, _⟩; have q' : 4 ≤ a.steps + 1 := q; omega), if_neg (by rintro ⟨q, _⟩; omega)])
      · rw [if_neg s0]
        by_cases s1 : a.steps = 1
        · rw [if_pos s1]
          dsimp only
          exact gone _ { a with lost := !decide (m.peek a.slot = a.word), steps := a.steps + 1 } (wordsC_same (load_cells _ _ _ _ _)) hap (by rw [if_neg (by rintro ⟨q, _⟩; have q' : 4 ≤ a.steps + 1 := q; omega), if_neg (by rintro ⟨q, _⟩; omega)])
        · rw [if_neg s1]
          by_cases s2 : a.steps = 2
          · rw [if_pos s2]
            dsimp only
            exact gone _ { a with value := m.peek (a.conf.value a.slot), steps := a.steps + 1 } (wordsC_same (load_cells _ _ _ _ _)) hap (by rw [if_neg (by rintro ⟨q, _⟩; have q' : 4 ≤ a.steps + 1 := q; omega), if_neg (by rintro ⟨q, _⟩; omega)])
          · rw [if_neg s2]
            by_cases s3 : a.steps = 3
            · rw [if_pos s3]
              dsimp only
              have hh := h.logd.has hT.s0 (show a.slot < c.cells by have := hT.s1; omega)
              obtain ⟨e1, e2⟩ := wordsC_in (c := c) (w := a.who) (op := 2) (old := a.word) (next := (unpack a.word).taken.pack) hT.s0 hT.s1 hh
              by_cases hok : getI m.cells a.slot = a.word
              · have ho : m.okOf 2 a.slot a.word = true := by
                  unfold MemM.okOf
                  rw [if_pos hh]
                  exact decide_eq_true hok
                have hn : opNew 2 (getI m.cells a.slot) a.word (unpack a.word).taken.pack = (unpack a.word).taken.pack := by
                  show (if getI m.cells a.slot = a.word then (unpack a.word).taken.pack else getI m.cells a.slot) = _
                  rw [if_pos hok]
                rw [hn] at e1
                have hT2 : (unpack a.word).taken.right = true := by
                  have := unpack_right a.word (by rw [hT.live]; decide)
                  unfold WordM.right at this ⊢
                  simp only [WordM.taken]
                  simp only [Bool.and_eq_true] at this ⊢
                  obtain ⟨⟨⟨⟨⟨⟨⟨⟨h1, h2⟩, h3⟩, h4⟩, h5⟩, h6⟩, h7⟩, h8⟩, h9⟩ := this
                  exact ⟨⟨⟨⟨⟨⟨⟨⟨rfl, rfl⟩, h3⟩, h4⟩, h5⟩, h6⟩, h7⟩, h8⟩, h9⟩
                have hst : (unpack (unpack a.word).taken.pack).state = 2 := by rw [unpack_pack _ hT2]; rfl
                rw [ho, if_neg (show ¬ (a.phase = 1) by omega), if_neg (show ¬ (a.phase = 2) by omega)]
                refine ⟨fun hf => ?_, ?_⟩
                · unfold fineN
                  rw [e1]
                  intro x hx
                  rcases List.mem_or_eq_of_mem_set hx with hx | rfl
                  · exact hf x hx
                  · omega
                · unfold livN
                  rw [e1, sumN_set livW e2]
                  have l0 : livW (getI m.cells a.slot) = 1 := if_pos (by rw [hok]; exact hT.live)
                  have l1 : livW (unpack a.word).taken.pack = 0 := if_neg (by omega)
                  have gv := get_over (k := k) (g := { g with take := some { a with lost := !true, steps := a.steps + 1 } }) (n := 1) (.inr ⟨hp, by
                    unfold tookK
                    dsimp only
                    exact if_pos ⟨by show 4 ≤ a.steps + 1; omega, rfl⟩⟩) (fun q => by
                    have q' : g.phase = 2 := q
                    omega)
                  rw [l0, l1, e0, show (if 4 ≤ a.steps ∧ a.lost = false then (1 : Int) else 0) = 0 from if_neg (by rintro ⟨q, _⟩; omega)]
                  have gv2 := gv
                  omega
              · have ho : m.okOf 2 a.slot a.word = false := by
                  unfold MemM.okOf
                  rw [if_pos hh]
                  exact decide_eq_false hok
                have hn : opNew 2 (getI m.cells a.slot) a.word (unpack a.word).taken.pack = getI m.cells a.slot := by
                  show (if getI m.cells a.slot = a.word then (unpack a.word).taken.pack else getI m.cells a.slot) = _
                  rw [if_neg hok]
                rw [hn, set_at_self e2] at e1
                rw [ho]
                exact gone _ { a with lost := !false, steps := a.steps + 1 } e1 hap (by rw [if_neg (by rintro ⟨_, q⟩; cases q), if_neg (by rintro ⟨q, _⟩; omega)])
            · rw [if_neg s3]
              unfold TakeM.fin
              rw [if_neg hl]
              dsimp only
              have hst := hT.st
              rw [if_pos (show (1 : Int) = 1 from rfl)]
              refine ⟨fun hf => by unfold fineN; rw [wordsC_out haz]; exact hf, ?_⟩
              unfold livN
              rw [wordsC_out haz, e0, show (if 4 ≤ a.steps ∧ a.lost = false then (1 : Int) else 0) = 1 from if_pos ⟨by omega, hl'⟩]
              have q1 : okP ⟨k, .get { g with take := some { a with phase := 1, steps := a.steps + 1 }, value := TakeM.get { a with phase := 1, steps := a.steps + 1 }, phase := 1 }⟩ = 0 := if_neg (fun q => by cases q.2.2)
              have q2 : okG ⟨k, .get { g with take := some { a with phase := 1, steps := a.steps + 1 }, value := TakeM.get { a with phase := 1, steps := a.steps + 1 }, phase := 1 }⟩ = 1 := if_pos ⟨rfl, rfl, rfl⟩
              have q0 : TaskM.over ⟨k, .get { g with take := some { a with phase := 1, steps := a.steps + 1 }, value := TakeM.get { a with phase := 1, steps := a.steps + 1 }, phase := 1 }⟩ = true := rfl
              have q3 : (if TaskM.over ⟨k, .get { g with take := some { a with phase := 1, steps := a.steps + 1 }, value := TakeM.get { a with phase := 1, steps := a.steps + 1 }, phase := 1 }⟩ = true then 0 else tookK ⟨k, .get { g with take := some { a with phase := 1, steps := a.steps + 1 }, value := TakeM.get { a with phase := 1, steps := a.steps + 1 }, phase := 1 }⟩) = 0 := if_pos q0
              omega
end
def getT : Option TaskM → Int
  | none => 0
  | some t => if t.isPut = true then 0 else 1
def okPD (d : DeedM) : Int := if d.reply.ok = true ∧ d.call.kind = 0 then 1 else 0
def okGD (d : DeedM) : Int := if d.reply.ok = true ∧ d.call.kind ≠ 0 then 1 else 0
def pendD (d : DeedM) : Int := if d.stop < 0 ∧ d.call.kind = 1 then 1 else 0
structure YardM.cinv (y : YardM) : Prop where
  h : y.hinv
  p : y.pinv
  kd : ∀ (w : Nat) t, y.tasks[w]? = some (some t) → (t.call.kind = 0 ↔ t.isPut = true)
  fine : fineN y.conf y.mem
  sum : livN y.conf y.mem + sumN tookT y.tasks + sumN okGD y.deeds = sumN okPD y.deeds
  pend : sumN getT y.tasks = sumN pendD y.deeds
theorem YardM.new_cinv {c : ConfM} (hc : c.ok) : (YardM.new c).cinv := by
  have e : wordsC c (YardM.new c).mem = List.replicate (min c.all.toNat c.cells.toNat) 0 := by
    unfold wordsC YardM.new MemM.new
    simp only [List.take_replicate]
  refine ⟨YardM.new_hinv hc, YardM.new_pinv hc, fun w t h => ?_, ?_, ?_, ?_⟩
  · simp [YardM.new, List.getElem?_replicate] at h
  · intro x hx
    have hx' : x ∈ wordsC c (YardM.new c).mem := hx
    rw [e] at hx'
    obtain ⟨_, rfl⟩ := List.mem_replicate.1 hx'
    decide
  · show sumN livW (wordsC c (YardM.new c).mem) + sumN tookT (List.replicate c.th.toNat none) + 0 = 0
    rw [e, sumN_rep livW 0 (by decide), sumN_rep tookT none rfl]
    rfl
  · show sumN getT (List.replicate c.th.toNat none) = 0
    exact sumN_rep getT none rfl _
theorem YardM.pass_cinv {y : YardM} (h : y.cinv) (n : Int) : (y.pass n).cinv := by
  refine ⟨YardM.pass_hinv h.h n, YardM.pass_pinv h.p n, ?_, ?_, ?_, ?_⟩ <;> unfold YardM.pass <;> split
  · exact h.kd
  · exact h.kd
  · exact h.fine
  · exact h.fine
  · exact h.sum
  · exact h.sum
  · exact h.pend
  · exact h.pend
theorem new_isPut (c : ConfM) (w : Int) (k : CallM) : (k.kind = 0 ↔ (TaskM.new c w k).isPut = true) ∧ tookK (TaskM.new c w k) = 0 ∧ (TaskM.new c w k).call = k := by
  unfold TaskM.new
  by_cases h : k.kind = 0
  · rw [if_pos h]; exact ⟨⟨fun _ => rfl, fun _ => h⟩, rfl, rfl⟩
  · rw [if_neg h]; exact ⟨⟨fun q => absurd q h, fun q => by cases q⟩, rfl, rfl⟩
theorem YardM.call_cinv {y : YardM} (h : y.cinv) (who : Int) {k : CallM} (hv : 0 ≤ k.value ∧ k.value < 18446744073709551616) : (y.call who k).1.cinv := by
  have h1 := YardM.call_hinv h.h who k
  have h2 := YardM.call_pinv h.p who hv
  by_cases hq : (!y.there who || !k.right) = true
  · have e : y.call who k = (y, 1) := by unfold YardM.call; rw [if_pos hq]
    rw [e]; exact h
  · by_cases ht : (y.task who).isSome = true
    · have e : y.call who k = (y, 2) := by unfold YardM.call; rw [if_neg hq, if_pos ht]
      rw [e]; exact h
    · have e : (y.call who k).1 = { y with tasks := y.tasks.set who.toNat (some (TaskM.new y.conf who k)), mine := y.mine.set who.toNat y.deeds.length, deeds := y.deeds ++ [⟨who, k, y.moves, -1, .zero⟩], moves := y.moves + 1 } := by
        unfold YardM.call; rw [if_neg hq, if_neg ht]
      rw [e] at h1 h2 ⊢
      have hth : y.there who = true := by
        cases q : y.there who with
        | true => rfl
        | false => rw [q] at hq; simp at hq
      have hkr : k.right = true := by
        cases q : k.right with
        | true => rfl
        | false => rw [q] at hq; simp at hq
      have hbd := YardM.there_bd hth
      have hlt : who.toNat < y.tasks.length := by have := h.h.tl; omega
      have hnone : y.tasks[who.toNat]? = some none := by
        rw [List.getElem?_eq_getElem hlt]
        unfold YardM.task at ht
        rw [List.getElem?_eq_getElem hlt] at ht
        cases q : y.tasks[who.toNat] with
        | none => rfl
        | some t => rw [q] at ht; simp at ht
      obtain ⟨n1, n2, n3⟩ := new_isPut y.conf who k
      refine ⟨h1, h2, fun w t hw => ?_, h.fine, ?_, ?_⟩
      · have hw' : (y.tasks.set who.toNat (some (TaskM.new y.conf who k)))[w]? = some (some t) := hw
        rw [List.getElem?_set] at hw'
        split at hw'
        · simp only [Option.some.injEq] at hw'
          rw [← hw', n3]; exact n1
        · exact h.kd w t hw'
      · show livN y.conf y.mem + sumN tookT (y.tasks.set who.toNat (some (TaskM.new y.conf who k))) + sumN okGD (y.deeds ++ [⟨who, k, y.moves, -1, .zero⟩]) = sumN okPD (y.deeds ++ [⟨who, k, y.moves, -1, .zero⟩])
        rw [sumN_set tookT hnone, sumN_append, sumN_append]
        have q1 : tookT (some (TaskM.new y.conf who k)) = 0 := n2
        have q2 : tookT none = 0 := rfl
        have q3 : sumN okGD [⟨who, k, y.moves, -1, .zero⟩] = 0 := by
          show (if _ ∧ _ then (1 : Int) else 0) + 0 = 0
          rw [if_neg (by rintro ⟨q, _⟩; cases q)]; rfl
        have q4 : sumN okPD [⟨who, k, y.moves, -1, .zero⟩] = 0 := by
          show (if _ ∧ _ then (1 : Int) else 0) + 0 = 0
          rw [if_neg (by rintro ⟨q, _⟩; cases q)]; rfl
        have := h.sum
        omega
      · show sumN getT (y.tasks.set who.toNat (some (TaskM.new y.conf who k))) = sumN pendD (y.deeds ++ [⟨who, k, y.moves, -1, .zero⟩])
        rw [sumN_set getT hnone, sumN_append]
        have q2 : getT none = 0 := rfl
        have := h.pend
        have hk01 : k.kind = 0 ∨ k.kind = 1 := by
          unfold CallM.right at hkr
          simp only [Bool.and_eq_true, Bool.or_eq_true, decide_eq_true_eq] at hkr
          exact hkr.1
        by_cases hk : k.kind = 0
        · have q1 : getT (some (TaskM.new y.conf who k)) = 0 := if_pos (n1.1 hk)
          have q3 : sumN pendD [⟨who, k, y.moves, -1, .zero⟩] = 0 := by
            show (if _ ∧ k.kind = 1 then (1 : Int) else 0) + 0 = 0
            rw [if_neg (by rintro ⟨_, q⟩; omega)]; rfl
          omega
        · have q1 : getT (some (TaskM.new y.conf who k)) = 1 := if_neg (fun q => hk (n1.2 q))
          have q3 : sumN pendD [⟨who, k, y.moves, -1, .zero⟩] = 1 := by
            show (if ((-1 : Int) < 0) ∧ k.kind = 1 then (1 : Int) else 0) + 0 = 1
            rw [if_pos ⟨by decide, by omega⟩]; rfl
          omega
theorem task_sums {y : YardM} (h : y.cinv) {w : Nat} {t : TaskM} (hat : y.tasks[w]? = some (some t)) : Sums y.conf y.mem (t.step y.mem y.now).2 t (t.step y.mem y.now).1 ∧ (t.step y.mem y.now).1.isPut = t.isPut := by
  obtain ⟨k, x⟩ := t
  cases x with
  | put p => exact ⟨put_sums h.p.proto hat h.p.now0, rfl⟩
  | get g => exact ⟨get_sums h.p.proto hat, rfl⟩
theorem YardM.step_cinv {y : YardM} (h : y.cinv) (who : Int) : (y.step who).1.cinv := by
  have h1 := YardM.step_hinv h.h who
  have h2 := YardM.step_pinv h.p who
  rcases YardM.step_eq (y := y) who with ⟨_, e⟩ | ⟨t, hb, ht, hk, e1, e2, e3, e4, e5, e6, e7⟩
  · rw [e]; exact h
  · have hbd := YardM.there_bd ht
    have hat := YardM.task_at' h.h.tl ht hk
    obtain ⟨S, hip⟩ := task_sums h hat
    have hca := TaskM.step_call t y.mem y.now
    obtain ⟨d, d0, d1, d2, d3⟩ := h.h.task _ t hat
    obtain ⟨t', b1, b2, b3⟩ := h.h.busy _ d d1 d3
    have htt : t' = t := by
      rw [d2] at b1
      rw [show ((who.toNat : Nat) : Int).toNat = who.toNat by omega, hat] at b1
      simp only [Option.some.injEq] at b1
      exact b1.symm
    subst htt
    have hkd := h.kd _ t' hat
    have hmine : (getI y.mine who.toNat).toNat = (getI y.mine who).toNat := by rw [show ((who.toNat : Nat) : Int) = who by omega]
    rw [hmine] at d1
    have hright := (h.h.each _ d d1).2.2.1
    have hd01 : d.call.kind = 0 ∨ d.call.kind = 1 := by
      unfold CallM.right at hright
      simp only [Bool.and_eq_true, Bool.or_eq_true, decide_eq_true_eq] at hright
      exact hright.1
    have hdr : d.reply = .zero := by
      rcases (h.h.each _ d d1).2.2.2.2.2 with q | q
      · exact q.2
      · have := (h.h.each _ d d1).1
        omega
    have hm0 := h.h.m0
    have hsum := h.sum
    have hpend := h.pend
    have hS := S.sum
    have hg0 : okGD d = 0 := if_neg (by rw [hdr]; rintro ⟨q, _⟩; cases q)
    have hp0 : okPD d = 0 := if_neg (by rw [hdr]; rintro ⟨q, _⟩; cases q)
    generalize hr : t'.step y.mem y.now = r at *
    refine ⟨h1, h2, fun w u hw => ?_, ?_, ?_, ?_⟩
    · rw [e3, List.getElem?_set] at hw
      split at hw
      · split at hw
        · simp only [Option.some.injEq] at hw
          unfold leftK at hw
          split at hw
          · cases hw
          · simp only [Option.some.injEq] at hw
            rw [← hw, hca, hip]; exact hkd
        · cases hw
      · exact h.kd w u hw
    · rw [e1, e2]; exact S.fine h.fine
    · rw [e1, e2, e3, e7, sumN_set tookT hat]
      have t0 : tookT (some t') = tookK t' := rfl
      by_cases ho : r.1.over = true
      · have l0 : tookT (leftK r.1) = 0 := by unfold leftK; rw [if_pos ho]; rfl
        rw [if_pos ho, sumN_modify okGD _ d1, sumN_modify okPD _ d1, l0, t0]
        rw [if_pos ho] at hS
        have x1 : okGD { d with stop := y.moves, reply := r.1.reply } = okG r.1 := by
          unfold okGD okG
          dsimp only
          by_cases q : r.1.reply.ok = true
          · by_cases qk : d.call.kind = 0
            · rw [if_neg (by rintro ⟨_, z⟩; exact z qk), if_neg (by rintro ⟨_, _, z⟩; rw [hip] at z; rw [hkd.1 (by rw [b3]; exact qk)] at z; cases z)]
            · rw [if_pos ⟨q, qk⟩, if_pos ⟨ho, q, by
                rw [hip]
                cases z : t'.isPut with
                | false => rfl
                | true => exact absurd (by rw [← b3]; exact hkd.2 z) qk⟩]
          · rw [if_neg (by rintro ⟨z, _⟩; exact q z), if_neg (by rintro ⟨_, z, _⟩; exact q z)]
        have x2 : okPD { d with stop := y.moves, reply := r.1.reply } = okP r.1 := by
          unfold okPD okP
          dsimp only
          by_cases q : r.1.reply.ok = true
          · by_cases qk : d.call.kind = 0
            · rw [if_pos ⟨q, qk⟩, if_pos ⟨ho, q, by rw [hip]; exact hkd.1 (by rw [b3]; exact qk)⟩]
            · rw [if_neg (by rintro ⟨_, z⟩; exact qk z), if_neg (by rintro ⟨_, _, z⟩; rw [hip] at z; exact qk (by rw [← b3]; exact hkd.2 z))]
          · rw [if_neg (by rintro ⟨z, _⟩; exact q z), if_neg (by rintro ⟨_, z, _⟩; exact q z)]
        rw [x1, x2, hg0, hp0]
        omega
      · have l0 : tookT (leftK r.1) = tookK r.1 := by unfold leftK; rw [if_neg ho]; rfl
        rw [if_neg ho, l0, t0]
        rw [if_neg ho] at hS
        have x1 : okG r.1 = 0 := if_neg (by rintro ⟨z, _⟩; exact ho z)
        have x2 : okP r.1 = 0 := if_neg (by rintro ⟨z, _⟩; exact ho z)
        omega
    · rw [e3, e7, sumN_set getT hat]
      have t0 : getT (some t') = if t'.isPut = true then 0 else 1 := rfl
      have p0 : pendD d = if t'.isPut = true then 0 else 1 := by
        unfold pendD
        by_cases z : t'.isPut = true
        · rw [if_pos z, if_neg (by rintro ⟨_, q⟩; have := hkd.2 z; rw [b3] at this; omega)]
        · rw [if_neg z, if_pos ⟨by omega, by
            rcases hd01 with q | q
            · exact absurd (hkd.1 (by rw [b3]; exact q)) z
            · exact q⟩]
      by_cases ho : r.1.over = true
      · have l0 : getT (leftK r.1) = 0 := by unfold leftK; rw [if_pos ho]; rfl
        rw [if_pos ho, sumN_modify pendD _ d1, l0, t0, p0]
        have x1 : pendD { d with stop := y.moves, reply := r.1.reply } = 0 := if_neg (by
          rintro ⟨q, _⟩
          have q' : y.moves < 0 := q
          omega)
        rw [x1]
        omega
      · have l0 : getT (leftK r.1) = if t'.isPut = true then 0 else 1 := by unfold leftK; rw [if_neg ho]; show (if r.1.isPut = true then (0 : Int) else 1) = _; rw [hip]
        rw [if_neg ho, l0, t0]
        omega
theorem MoveM.run_cinv {y : YardM} (h : y.cinv) (th : Int) {v : MoveM} (hv : v.wf) : (v.run th y).cinv := by
  unfold MoveM.run
  split
  · exact YardM.call_cinv h _ hv
  · split
    · exact YardM.pass_cinv h _
    · split
      · exact YardM.step_cinv h _
      · exact YardM.step_cinv h _
theorem runsM_cinv (th : Int) : ∀ (l : List MoveM) {y : YardM} (h : y.cinv), (∀ v ∈ l, v.wf) → (runsM th y l).cinv
  | [], y, h, _ => h
  | v :: l, y, h, hv => runsM_cinv th l (MoveM.run_cinv h th (hv v (by simp))) (fun u hu => hv u (by simp [hu]))
/-- How often a state stands in words. -/
def stN (s : Int) (ws : List Int) : Int := sumN (fun x => if (unpack x).state = s then 1 else 0) ws
theorem stN_all : ∀ (ws : List Int), (∀ x ∈ ws, (unpack x).state ≠ 3) → stN 0 ws + stN 1 ws + stN 2 ws = ws.length
  | [], _ => rfl
  | x :: ws, h => by
    have ih := stN_all ws (fun y hy => h y (by simp [hy]))
    have hx := h x (by simp)
    have hb : 0 ≤ (unpack x).state ∧ (unpack x).state < 4 := by
      show 0 ≤ x % 4 ∧ x % 4 < 4
      omega
    unfold stN at *
    simp only [sumN, List.length_cons]
    generalize (unpack x).state = st at *
    rcases (show st = 0 ∨ st = 1 ∨ st = 2 by omega) with q | q | q <;> subst q <;> simp <;> omega
theorem count_law {y : YardM} (h : y.cinv) : stN 0 (wordsC y.conf y.mem) + stN 1 (wordsC y.conf y.mem) + stN 2 (wordsC y.conf y.mem) = y.conf.all ∧
    stN 1 (wordsC y.conf y.mem) ≤ sumN okPD y.deeds - sumN okGD y.deeds ∧ sumN okPD y.deeds - sumN okGD y.deeds - sumN pendD y.deeds ≤ stN 1 (wordsC y.conf y.mem) := by
  have hal := h.p.proto.conf.all_bd
  have hth := h.p.proto.conf.th1
  have hl := h.p.proto.logd.cl
  have hlen : ((wordsC y.conf y.mem).length : Int) = y.conf.all := by
    unfold wordsC
    rw [List.length_take]
    unfold ConfM.cells at hl
    omega
  have e : stN 1 (wordsC y.conf y.mem) = livN y.conf y.mem := rfl
  have h0 : 0 ≤ sumN tookT y.tasks := by
    have := sumN_le (f := fun _ => 0) (g := tookT) (l := y.tasks) (fun a _ => by
      show 0 ≤ tookT a
      unfold tookT
      split
      · exact Int.le_refl _
      · unfold tookK
        (repeat' split) <;> omega)
    have z : ∀ l : List (Option TaskM), sumN (fun _ => 0) l = 0 := fun l => by
      induction l with
      | nil => rfl
      | cons a l ih => show 0 + sumN (fun _ => 0) l = 0; rw [ih]; rfl
    rw [z] at this
    exact this
  have h3 : sumN tookT y.tasks ≤ sumN getT y.tasks := sumN_le (fun a _ => by
    cases a with
    | none => exact Int.le_refl _
    | some t =>
      obtain ⟨k, x⟩ := t
      cases x with
      | put p => exact Int.le_refl _
      | get g =>
        show (match g.take with | none => (0 : Int) | some a => if 4 ≤ a.steps ∧ a.lost = false then 1 else 0) ≤ 1
        split
        · decide
        · split <;> decide)
  have hs := h.sum
  have hp := h.pend
  exact ⟨by rw [stN_all _ h.fine, hlen], by omega, by omega⟩
end Go.Proofs.YtdjkblnocooldaaGreat
/- Threads that share cells (package yard): all places' words, and what is in them (Words, Values). Conditions: as YardM.ok says. -/
namespace Go.Proofs.YtdjkblnocooldaaGreat
open Go.RowKit Go.SepYtdjkblnocooldaaGreat
set_option maxRecDepth 100000
set_option maxHeartbeats 4000000
theorem u64InfoY : ∃ q z, Tryz.prog.info? 32 = some q ∧ q.zero = some z ∧ q.size = 1 ∧ q.bytes = 8 ∧ z.cells.size = 1 := ⟨_, _, rfl, rfl, rfl, rfl, rfl⟩
abbrev boxY (g b : Nat) : SA := pt g (.cells #[.pointer (some ⟨b, 0, none⟩)] 28 (0, 0))
def peekN (f : Int → Int) (m : MemM) (n : Nat) : List Int := (List.range n).map (fun (i : Nat) => m.peek (f i))
theorem peekN_succ (f : Int → Int) (m : MemM) (n : Nat) : peekN f m (n + 1) = peekN f m n ++ [m.peek (f n)] := by simp [peekN, List.range_succ]
theorem peekN_len (f : Int → Int) (m : MemM) (n : Nat) : (peekN f m n).length = n := by simp [peekN]
section
variable {E w : World} {L : List SA}
theorem wordcl_calls (gb b : Nat) (y : YardM) (hc : y.conf.ok) (i : Int) (i0 : 0 ≤ i) (i1 : i < y.conf.all) (h : sat E w (boxY gb b :: yardA b y :: L)) :
    Calls Tryz.prog 77 #[.int .i64 i, .pointer (some ⟨gb, 0, none⟩)] w fun e w' => e = .returned (.int .u64 (y.mem.peek (i))) ∧ sat E w' (boxY gb b :: yardA b y :: L) := by
  obtain ⟨bm, gt, gm, p, n, c, vs, h⟩ := yardA_open (h.pick 1 rfl)
  have K := Lib.hid h
  clear h
  have a0 := K.out.rd 0 rfl; have l0 := K.out.ltp 0 rfl; have a6 := K.out.rd 6 rfl; have l6 := K.out.ltp 6 rfl
  have WC := fun w => Lib.hid (word_calls y.conf w i)
  have PK := fun w' (M : List SA) (h : sat E w' (memA bm y.mem :: M)) => Lib.hid (peek_calls bm y.mem (i) h)
  go_enter Tryz.func77, Tryz.ntmps77
  go_wp2_with fail
  refine wp_region_noPanic ?_
  refine wp_region_held_drew (S := (fun w' => (∀ j, w'.cell? ⟨b, j, none⟩ = (YardM.v y bm gt gm (.slice p n c))[j]?) ∧ (∀ j, w'.cell? ⟨gb, j, none⟩ = ([.pointer (some ⟨b, 0, none⟩)] : List Value)[j]?))) (by kernel_rfl) ?_ (fun hHeld => ?_)
  · ((try dsimp only); (exact ⟨sat.rd 0 (by repeat (with_reducible first | exact K.out | apply sat.alloc_any | apply sat.drew | apply sat.drewN)) rfl, sat.rd 6 (by repeat (with_reducible first | exact K.out | apply sat.alloc_any | apply sat.drew | apply sat.drewN)) rfl⟩))
  refine tk 0 (some 4) ?_
  (try simp only [Act.put, p0, p1, p2])
  refine tk 1 (some 5) ?_
  (try simp only [Act.put, p0, p1, p2])
  refine tk 2 (some 6) ?_
  (try simp only [Act.put, p0, p1, p2])
  refine tk 3 (some 7) ?_
  (try simp only [Act.put, p0, p1, p2])
  refine tk 4 (some 8) ?_
  (try simp only [Act.put, p0, p1, p2])
  refine tk 5 (some 9) ?_
  (try simp only [Act.put, p0, p1, p2])
  refine tk 6 (some 10) ?_
  (try simp only [Act.put, p0, p1, p2])
  refine tk 7 (some 11) ?_
  (try simp only [Act.put, p0, p1, p2])
  refine tk 8 (some 12) ?_
  (try simp only [Act.put, p0, p1, p2])
  refine wpAnyH_ready (rs := [9]) (by kernel_rfl) (by simp) ?_
  refine AllReadyH.cons (o := _) rfl (fun kC hkC => ?_) AllReadyH.nil
  go_simp
  (first | (go_at_call 39; (with_reducible refine ((WC _).out).mono ?_); rintro e w1 ⟨rfl, hb⟩; have K1 := sat.grown (show sat _ _ _ from by first | exact K.out | exact K.out.drew) hb; clear hb; have K2 := Lib.hid K1; clear K1 K; (try clear a0); (try clear l0); (try clear f0); (try clear a1); (try clear l1); (try clear f1); (try clear a2); (try clear l2); (try clear f2); (try clear a3); (try clear l3); (try clear f3); (try clear a4); (try clear l4); (try clear f4); (try clear a5); (try clear l5); (try clear f5); have K := K2; clear K2; (try have a0 := K.out.rd 0 rfl); (try have l0 := K.out.ltp 0 rfl); (try have f0 := K.out.fr 0 rfl); (try have a1 := K.out.rd 1 rfl); (try have l1 := K.out.ltp 1 rfl); (try have f1 := K.out.fr 1 rfl); (try have a2 := K.out.rd 2 rfl); (try have l2 := K.out.ltp 2 rfl); (try have f2 := K.out.fr 2 rfl); (try have a3 := K.out.rd 3 rfl); (try have l3 := K.out.ltp 3 rfl); (try have f3 := K.out.fr 3 rfl)) | (go_at_call 38; (with_reducible refine (PK _ _ ((show sat E _ _ from by first | exact K.out | exact K.out.drew).pick 1 rfl)).out.mono ?_); rintro e w1 ⟨rfl, rfl⟩))
  refine shown hkC _ _ (by (try dsimp only); (exact ⟨sat.rd 0 (by repeat (with_reducible first | exact K.out | apply sat.alloc_any | apply sat.drew | apply sat.drewN)) rfl, sat.rd 6 (by repeat (with_reducible first | exact K.out | apply sat.alloc_any | apply sat.drew | apply sat.drewN)) rfl⟩)) ?_; clear hkC kC hHeld; intro hHeld
  (try simp only [Act.put, p0, p1, p2])
  refine wpAnyH_ready (rs := [10]) (by kernel_rfl) (by simp) ?_
  refine AllReadyH.cons (o := _) rfl (fun kC hkC => ?_) AllReadyH.nil
  go_simp
  (first | (go_at_call 39; (with_reducible refine ((WC _).out).mono ?_); rintro e w1 ⟨rfl, hb⟩; have K1 := sat.grown (show sat _ _ _ from by first | exact K.out | exact K.out.drew) hb; clear hb; have K2 := Lib.hid K1; clear K1 K; (try clear a0); (try clear l0); (try clear f0); (try clear a1); (try clear l1); (try clear f1); (try clear a2); (try clear l2); (try clear f2); (try clear a3); (try clear l3); (try clear f3); (try clear a4); (try clear l4); (try clear f4); (try clear a5); (try clear l5); (try clear f5); have K := K2; clear K2; (try have a0 := K.out.rd 0 rfl); (try have l0 := K.out.ltp 0 rfl); (try have f0 := K.out.fr 0 rfl); (try have a1 := K.out.rd 1 rfl); (try have l1 := K.out.ltp 1 rfl); (try have f1 := K.out.fr 1 rfl); (try have a2 := K.out.rd 2 rfl); (try have l2 := K.out.ltp 2 rfl); (try have f2 := K.out.fr 2 rfl); (try have a3 := K.out.rd 3 rfl); (try have l3 := K.out.ltp 3 rfl); (try have f3 := K.out.fr 3 rfl)) | (go_at_call 38; (with_reducible refine (PK _ _ ((show sat E _ _ from by first | exact K.out | exact K.out.drew).pick 1 rfl)).out.mono ?_); rintro e w1 ⟨rfl, rfl⟩))
  refine shown hkC _ _ (by (try dsimp only); (exact ⟨sat.rd 0 (by repeat (with_reducible first | exact K.out | apply sat.alloc_any | apply sat.drew | apply sat.drewN)) rfl, sat.rd 6 (by repeat (with_reducible first | exact K.out | apply sat.alloc_any | apply sat.drew | apply sat.drewN)) rfl⟩)) ?_; clear hkC kC hHeld; intro hHeld
  (try simp only [Act.put, p0, p1, p2])
  refine tk 11 (some 3) ?_
  (try simp only [Act.put, p0, p1, p2])
  refine wpAnyH_done (by kernel_rfl) (NoPanic.normal ?_) _
  all_goals
    go_wp2_with fail
    go_ret
    exact ⟨rfl, (yardA_shut (y := y) (show sat E _ _ from by first | exact K.out | exact K.out.drew)).swap⟩
theorem eachwordcl_calls (gb b : Nat) (y : YardM) (hc : y.conf.ok) (h : sat E w (boxY gb b :: yardA b y :: L)) :
    Calls Tryz.prog 76 #[.int .i64 y.conf.all, .func (.func 77) #[] #[.pointer (some ⟨gb, 0, none⟩)]] w fun e w' => ∃ p1 c1, e = .returned (.slice p1 y.conf.all.toNat c1) ∧ sat E w' (rowA (.slice p1 y.conf.all.toNat c1) 32 1 y.conf.all.toNat (u64s (peekN (fun i => i) y.mem y.conf.all.toNat)) :: boxY gb b :: yardA b y :: L) := by
  have K := Lib.hid h
  clear h
  have CL := fun w' i i0 i1 (M : List SA) (h : sat E w' (boxY gb b :: yardA b y :: M)) => Lib.hid (wordcl_calls gb b y hc i i0 i1 h)
  obtain ⟨al0, al1⟩ := hc.all_bd
  go_enter Tryz.func76, Tryz.ntmps76
  have KE := sat.row_nil 32 1 K.out
  clear K
  have K := Lib.hid KE
  clear KE
  go_wp2_with fail
  go_loopg [8, 5] y.conf.all.toNat (fun gk i v w' => ∃ (n : Nat) (p1 : Option Addr) (c1 : Nat), n + gk = y.conf.all.toNat ∧ v = .slice p1 n c1 ∧ i = .int .i64 n ∧ sat E w' (rowA (.slice p1 n c1) 32 1 n (u64s (peekN (fun i => i) y.mem n)) :: boxY gb b :: yardA b y :: L))
  case atStart => exact ⟨0, _, _, by simp, rfl, rfl, K.out⟩
  case round =>
    obtain ⟨n, p1, c1, hn, rfl, rfl, hs⟩ := hrel
    clear K
    have K := Lib.hid hs
    clear hs
    have HN := Lib.hid hn
    by_cases h1 : (n : Int) < y.conf.all
    · have d1 : decide ((n : Int) < y.conf.all) = true := by simpa using h1
      have CN := fun w' (M : List SA) (h : sat E w' (boxY gb b :: yardA b y :: M)) => CL w' n (by omega) h1 M h
      obtain ⟨gk', rfl⟩ : ∃ g', gk = g' + 1 := ⟨gk - 1, by omega⟩
      have EN := Lib.hid (show u64s (peekN (fun i => i) y.mem (n + 1)) = u64s (peekN (fun i => i) y.mem n) ++ [.int .u64 (y.mem.peek ((n : Int)))] by rw [peekN_succ]; simp [u64s])
      generalize y.mem.peek ((n : Int)) = x at *
      have hn4 : n < 4096 := by omega
      clear hn h1 CL
      go_wp2_with (first | (go_at_call 77; (with_reducible refine (CN _ _ ((K.out.pick 2 rfl).pick 2 rfl)).out.mono ?_); rintro e w1 ⟨rfl, K1⟩; replace K1 := (K1.pick 2 rfl); have K2 := Lib.hid K1; clear K1 K; (try clear a0); (try clear l0); (try clear a1); (try clear l1); (try clear a2); (try clear l2); have K := K2; clear K2) | ((with_reducible refine at_append ?_); refine st_append_new 0 32 1 8 Tryz.underlying71 u64InfoY K.out rfl rfl rfl rfl ?_ Nat.one_pos ?_ ?_ ?_; (· simp [Value.oneCell']); (· simp only [maxLen]; omega); (· omega); intro p2 n2 c2 w1 K1; simp only [List.set] at K1; have K2 := Lib.hid K1; clear K1 K; (try clear a0); (try clear l0); (try clear a1); (try clear l1); (try clear a2); (try clear l2); have K := K2; clear K2))
      go_roundg gk'
      case measure => omega
      case rel => exact ⟨n + 1, p2, c2, by have := HN.out; omega, by obtain ⟨q, _⟩ := Go.SepYtdjkblnocooldaaGreat.row_len (show sat E _ (rowA (.slice p2 n2 c2) _ _ _ _ :: _) from K.out); subst q; rfl, by first | (simp; done) | (simp; exact w64 (by omega) (by omega)), by rw [EN.out]; obtain ⟨q, _⟩ := Go.SepYtdjkblnocooldaaGreat.row_len (show sat E _ (rowA (.slice p2 n2 c2) _ _ _ _ :: _) from K.out); subst q; exact K.out⟩
    · have d1 : decide ((n : Int) < y.conf.all) = false := by simpa using h1
      have E1 := Lib.hid (show n = y.conf.all.toNat by omega)
      clear hn h1
      go_wp2_with fail
      go_ret
      have q := E1.out
      subst q
      exact ⟨p1, c1, rfl, K.out⟩
theorem yWords_calls (b : Nat) (y : YardM) (hc : y.conf.ok) (h : sat E w (yardA b y :: L)) :
    Calls Tryz.prog 35 #[.pointer (some ⟨b, 0, none⟩)] w fun e w' => ∃ p1 c1, e = .returned (.slice p1 y.conf.all.toNat c1) ∧ sat E w' (rowA (.slice p1 y.conf.all.toNat c1) 32 1 y.conf.all.toNat (u64s (peekN (fun i => i) y.mem y.conf.all.toNat)) :: yardA b y :: L) := by
  have K := Lib.hid h
  clear h
  have CF := fun w' (M : List SA) (h : sat E w' (yardA b y :: M)) => Lib.hid (yconf_calls b y h)
  have AL := fun w => Lib.hid (all_calls y.conf w hc)
  have EC := fun w' gb (M : List SA) (h : sat E w' (boxY gb b :: yardA b y :: M)) => Lib.hid (eachwordcl_calls gb b y hc h)
  go_enter Tryz.func35, Tryz.ntmps35
  go_wp2_with (first | ((with_reducible refine at_box ?_); refine st_boxf K.out rfl rfl (fun _ => rfl) ?_; intro gb w1 K1; have K2 := Lib.hid K1; clear K1 K; (try clear a0); (try clear l0); (try clear a1); (try clear l1); (try clear a2); (try clear l2); have K := K2; clear K2; have a0 := K.out.rd 0 rfl; have l0 := K.out.ltp 0 rfl) | (go_at_call 24; (with_reducible refine ((CF _ _ ((show sat E _ _ from by iterate 6 (try (with_reducible first | exact K.out | apply sat.alloc_any | apply sat.drew | apply sat.drewN))).pick 1 rfl)).out).mono ?_); rintro e w1 ⟨rfl, K1⟩; replace K1 := (show sat E w1 (boxY gb b :: yardA b y :: L) from K1.pick 1 rfl); have K2 := Lib.hid K1; clear K1 K; (try clear a0); (try clear l0); (try clear a1); (try clear l1); (try clear a2); (try clear l2); have K := K2; clear K2; have a0 := K.out.rd 0 rfl; have l0 := K.out.ltp 0 rfl) | (go_at_call 37; (with_reducible refine ((AL _).out).mono ?_); rintro e w1 ⟨rfl, hb⟩; have K1 := sat.grown (by repeat (with_reducible first | exact K.out | apply sat.alloc_any | apply sat.drew | apply sat.drewN)) hb; clear hb; have K2 := Lib.hid K1; clear K1 K; (try clear a0); (try clear l0); (try clear a1); (try clear l1); (try clear a2); (try clear l2); have K := K2; clear K2; have a0 := K.out.rd 0 rfl; have l0 := K.out.ltp 0 rfl) | (go_at_call 76; (with_reducible refine ((EC _ _ _ (show sat E _ _ from by iterate 6 (try (with_reducible first | exact K.out | apply sat.alloc_any | apply sat.drew | apply sat.drewN)))).out).mono ?_); rintro e w1 ⟨p1, c1, rfl, K1⟩; have K2 := Lib.hid K1; clear K1 K; (try clear a0); (try clear l0); (try clear a1); (try clear l1); (try clear a2); (try clear l2); have K := K2; clear K2; have a1 := K.out.rd 1 rfl; have l1 := K.out.ltp 1 rfl))
  go_ret
  exact ⟨p1, c1, rfl, (show sat E _ (rowA _ _ _ _ _ :: yardA b y :: L) from (K.out.pick 1 rfl).drop)⟩
theorem valcl_calls (gb b : Nat) (y : YardM) (hc : y.conf.ok) (i : Int) (i0 : 0 ≤ i) (i1 : i < y.conf.all) (h : sat E w (boxY gb b :: yardA b y :: L)) :
    Calls Tryz.prog 78 #[.int .i64 i, .pointer (some ⟨gb, 0, none⟩)] w fun e w' => e = .returned (.int .u64 (y.mem.peek (y.conf.value i))) ∧ sat E w' (boxY gb b :: yardA b y :: L) := by
  obtain ⟨bm, gt, gm, p, n, c, vs, h⟩ := yardA_open (h.pick 1 rfl)
  have K := Lib.hid h
  clear h
  have a0 := K.out.rd 0 rfl; have l0 := K.out.ltp 0 rfl; have a6 := K.out.rd 6 rfl; have l6 := K.out.ltp 6 rfl
  have WC := fun w => Lib.hid (value_calls y.conf w hc i i0 i1)
  have PK := fun w' (M : List SA) (h : sat E w' (memA bm y.mem :: M)) => Lib.hid (peek_calls bm y.mem (y.conf.value i) h)
  go_enter Tryz.func78, Tryz.ntmps78
  go_wp2_with fail
  refine wp_region_noPanic ?_
  refine wp_region_held_drew (S := (fun w' => (∀ j, w'.cell? ⟨b, j, none⟩ = (YardM.v y bm gt gm (.slice p n c))[j]?) ∧ (∀ j, w'.cell? ⟨gb, j, none⟩ = ([.pointer (some ⟨b, 0, none⟩)] : List Value)[j]?))) (by kernel_rfl) ?_ (fun hHeld => ?_)
  · ((try dsimp only); (exact ⟨sat.rd 0 (by repeat (with_reducible first | exact K.out | apply sat.alloc_any | apply sat.drew | apply sat.drewN)) rfl, sat.rd 6 (by repeat (with_reducible first | exact K.out | apply sat.alloc_any | apply sat.drew | apply sat.drewN)) rfl⟩))
  refine tk 0 (some 4) ?_
  (try simp only [Act.put, p0, p1, p2])
  refine tk 1 (some 5) ?_
  (try simp only [Act.put, p0, p1, p2])
  refine tk 2 (some 6) ?_
  (try simp only [Act.put, p0, p1, p2])
  refine tk 3 (some 7) ?_
  (try simp only [Act.put, p0, p1, p2])
  refine tk 4 (some 8) ?_
  (try simp only [Act.put, p0, p1, p2])
  refine tk 5 (some 9) ?_
  (try simp only [Act.put, p0, p1, p2])
  refine tk 6 (some 10) ?_
  (try simp only [Act.put, p0, p1, p2])
  refine tk 7 (some 11) ?_
  (try simp only [Act.put, p0, p1, p2])
  refine tk 8 (some 12) ?_
  (try simp only [Act.put, p0, p1, p2])
  refine wpAnyH_ready (rs := [9]) (by kernel_rfl) (by simp) ?_
  refine AllReadyH.cons (o := _) rfl (fun kC hkC => ?_) AllReadyH.nil
  go_simp
  (first | (go_at_call 40; (with_reducible refine ((WC _).out).mono ?_); rintro e w1 ⟨rfl, hb⟩; have K1 := sat.grown (show sat _ _ _ from by first | exact K.out | exact K.out.drew) hb; clear hb; have K2 := Lib.hid K1; clear K1 K; (try clear a0); (try clear l0); (try clear f0); (try clear a1); (try clear l1); (try clear f1); (try clear a2); (try clear l2); (try clear f2); (try clear a3); (try clear l3); (try clear f3); (try clear a4); (try clear l4); (try clear f4); (try clear a5); (try clear l5); (try clear f5); have K := K2; clear K2; (try have a0 := K.out.rd 0 rfl); (try have l0 := K.out.ltp 0 rfl); (try have f0 := K.out.fr 0 rfl); (try have a1 := K.out.rd 1 rfl); (try have l1 := K.out.ltp 1 rfl); (try have f1 := K.out.fr 1 rfl); (try have a2 := K.out.rd 2 rfl); (try have l2 := K.out.ltp 2 rfl); (try have f2 := K.out.fr 2 rfl); (try have a3 := K.out.rd 3 rfl); (try have l3 := K.out.ltp 3 rfl); (try have f3 := K.out.fr 3 rfl)) | (go_at_call 38; (with_reducible refine (PK _ _ ((show sat E _ _ from by first | exact K.out | exact K.out.drew).pick 1 rfl)).out.mono ?_); rintro e w1 ⟨rfl, rfl⟩))
  refine shown hkC _ _ (by (try dsimp only); (exact ⟨sat.rd 0 (by repeat (with_reducible first | exact K.out | apply sat.alloc_any | apply sat.drew | apply sat.drewN)) rfl, sat.rd 6 (by repeat (with_reducible first | exact K.out | apply sat.alloc_any | apply sat.drew | apply sat.drewN)) rfl⟩)) ?_; clear hkC kC hHeld; intro hHeld
  (try simp only [Act.put, p0, p1, p2])
  refine wpAnyH_ready (rs := [10]) (by kernel_rfl) (by simp) ?_
  refine AllReadyH.cons (o := _) rfl (fun kC hkC => ?_) AllReadyH.nil
  go_simp
  (first | (go_at_call 40; (with_reducible refine ((WC _).out).mono ?_); rintro e w1 ⟨rfl, hb⟩; have K1 := sat.grown (show sat _ _ _ from by first | exact K.out | exact K.out.drew) hb; clear hb; have K2 := Lib.hid K1; clear K1 K; (try clear a0); (try clear l0); (try clear f0); (try clear a1); (try clear l1); (try clear f1); (try clear a2); (try clear l2); (try clear f2); (try clear a3); (try clear l3); (try clear f3); (try clear a4); (try clear l4); (try clear f4); (try clear a5); (try clear l5); (try clear f5); have K := K2; clear K2; (try have a0 := K.out.rd 0 rfl); (try have l0 := K.out.ltp 0 rfl); (try have f0 := K.out.fr 0 rfl); (try have a1 := K.out.rd 1 rfl); (try have l1 := K.out.ltp 1 rfl); (try have f1 := K.out.fr 1 rfl); (try have a2 := K.out.rd 2 rfl); (try have l2 := K.out.ltp 2 rfl); (try have f2 := K.out.fr 2 rfl); (try have a3 := K.out.rd 3 rfl); (try have l3 := K.out.ltp 3 rfl); (try have f3 := K.out.fr 3 rfl)) | (go_at_call 38; (with_reducible refine (PK _ _ ((show sat E _ _ from by first | exact K.out | exact K.out.drew).pick 1 rfl)).out.mono ?_); rintro e w1 ⟨rfl, rfl⟩))
  refine shown hkC _ _ (by (try dsimp only); (exact ⟨sat.rd 0 (by repeat (with_reducible first | exact K.out | apply sat.alloc_any | apply sat.drew | apply sat.drewN)) rfl, sat.rd 6 (by repeat (with_reducible first | exact K.out | apply sat.alloc_any | apply sat.drew | apply sat.drewN)) rfl⟩)) ?_; clear hkC kC hHeld; intro hHeld
  (try simp only [Act.put, p0, p1, p2])
  refine tk 11 (some 3) ?_
  (try simp only [Act.put, p0, p1, p2])
  refine wpAnyH_done (by kernel_rfl) (NoPanic.normal ?_) _
  all_goals
    go_wp2_with fail
    go_ret
    exact ⟨rfl, (yardA_shut (y := y) (show sat E _ _ from by first | exact K.out | exact K.out.drew)).swap⟩
theorem eachvalcl_calls (gb b : Nat) (y : YardM) (hc : y.conf.ok) (h : sat E w (boxY gb b :: yardA b y :: L)) :
    Calls Tryz.prog 76 #[.int .i64 y.conf.all, .func (.func 78) #[] #[.pointer (some ⟨gb, 0, none⟩)]] w fun e w' => ∃ p1 c1, e = .returned (.slice p1 y.conf.all.toNat c1) ∧ sat E w' (rowA (.slice p1 y.conf.all.toNat c1) 32 1 y.conf.all.toNat (u64s (peekN y.conf.value y.mem y.conf.all.toNat)) :: boxY gb b :: yardA b y :: L) := by
  have K := Lib.hid h
  clear h
  have CL := fun w' i i0 i1 (M : List SA) (h : sat E w' (boxY gb b :: yardA b y :: M)) => Lib.hid (valcl_calls gb b y hc i i0 i1 h)
  obtain ⟨al0, al1⟩ := hc.all_bd
  go_enter Tryz.func76, Tryz.ntmps76
  have KE := sat.row_nil 32 1 K.out
  clear K
  have K := Lib.hid KE
  clear KE
  go_wp2_with fail
  go_loopg [8, 5] y.conf.all.toNat (fun gk i v w' => ∃ (n : Nat) (p1 : Option Addr) (c1 : Nat), n + gk = y.conf.all.toNat ∧ v = .slice p1 n c1 ∧ i = .int .i64 n ∧ sat E w' (rowA (.slice p1 n c1) 32 1 n (u64s (peekN y.conf.value y.mem n)) :: boxY gb b :: yardA b y :: L))
  case atStart => exact ⟨0, _, _, by simp, rfl, rfl, K.out⟩
  case round =>
    obtain ⟨n, p1, c1, hn, rfl, rfl, hs⟩ := hrel
    clear K
    have K := Lib.hid hs
    clear hs
    have HN := Lib.hid hn
    by_cases h1 : (n : Int) < y.conf.all
    · have d1 : decide ((n : Int) < y.conf.all) = true := by simpa using h1
      have CN := fun w' (M : List SA) (h : sat E w' (boxY gb b :: yardA b y :: M)) => CL w' n (by omega) h1 M h
      obtain ⟨gk', rfl⟩ : ∃ g', gk = g' + 1 := ⟨gk - 1, by omega⟩
      have EN := Lib.hid (show u64s (peekN y.conf.value y.mem (n + 1)) = u64s (peekN y.conf.value y.mem n) ++ [.int .u64 (y.mem.peek (y.conf.value (n : Int)))] by rw [peekN_succ]; simp [u64s])
      generalize y.mem.peek (y.conf.value (n : Int)) = x at *
      have hn4 : n < 4096 := by omega
      clear hn h1 CL
      go_wp2_with (first | (go_at_call 78; (with_reducible refine (CN _ _ ((K.out.pick 2 rfl).pick 2 rfl)).out.mono ?_); rintro e w1 ⟨rfl, K1⟩; replace K1 := (K1.pick 2 rfl); have K2 := Lib.hid K1; clear K1 K; (try clear a0); (try clear l0); (try clear a1); (try clear l1); (try clear a2); (try clear l2); have K := K2; clear K2) | ((with_reducible refine at_append ?_); refine st_append_new 0 32 1 8 Tryz.underlying71 u64InfoY K.out rfl rfl rfl rfl ?_ Nat.one_pos ?_ ?_ ?_; (· simp [Value.oneCell']); (· simp only [maxLen]; omega); (· omega); intro p2 n2 c2 w1 K1; simp only [List.set] at K1; have K2 := Lib.hid K1; clear K1 K; (try clear a0); (try clear l0); (try clear a1); (try clear l1); (try clear a2); (try clear l2); have K := K2; clear K2))
      go_roundg gk'
      case measure => omega
      case rel => exact ⟨n + 1, p2, c2, by have := HN.out; omega, by obtain ⟨q, _⟩ := Go.SepYtdjkblnocooldaaGreat.row_len (show sat E _ (rowA (.slice p2 n2 c2) _ _ _ _ :: _) from K.out); subst q; rfl, by first | (simp; done) | (simp; exact w64 (by omega) (by omega)), by rw [EN.out]; obtain ⟨q, _⟩ := Go.SepYtdjkblnocooldaaGreat.row_len (show sat E _ (rowA (.slice p2 n2 c2) _ _ _ _ :: _) from K.out); subst q; exact K.out⟩
    · have d1 : decide ((n : Int) < y.conf.all) = false := by simpa using h1
      have E1 := Lib.hid (show n = y.conf.all.toNat by omega)
      clear hn h1
      go_wp2_with fail
      go_ret
      have q := E1.out
      subst q
      exact ⟨p1, c1, rfl, K.out⟩
theorem yValues_calls (b : Nat) (y : YardM) (hc : y.conf.ok) (h : sat E w (yardA b y :: L)) :
    Calls Tryz.prog 36 #[.pointer (some ⟨b, 0, none⟩)] w fun e w' => ∃ p1 c1, e = .returned (.slice p1 y.conf.all.toNat c1) ∧ sat E w' (rowA (.slice p1 y.conf.all.toNat c1) 32 1 y.conf.all.toNat (u64s (peekN y.conf.value y.mem y.conf.all.toNat)) :: yardA b y :: L) := by
  have K := Lib.hid h
  clear h
  have CF := fun w' (M : List SA) (h : sat E w' (yardA b y :: M)) => Lib.hid (yconf_calls b y h)
  have AL := fun w => Lib.hid (all_calls y.conf w hc)
  have EC := fun w' gb (M : List SA) (h : sat E w' (boxY gb b :: yardA b y :: M)) => Lib.hid (eachvalcl_calls gb b y hc h)
  go_enter Tryz.func36, Tryz.ntmps36
  go_wp2_with (first | ((with_reducible refine at_box ?_); refine st_boxf K.out rfl rfl (fun _ => rfl) ?_; intro gb w1 K1; have K2 := Lib.hid K1; clear K1 K; (try clear a0); (try clear l0); (try clear a1); (try clear l1); (try clear a2); (try clear l2); have K := K2; clear K2; have a0 := K.out.rd 0 rfl; have l0 := K.out.ltp 0 rfl) | (go_at_call 24; (with_reducible refine ((CF _ _ ((show sat E _ _ from by iterate 6 (try (with_reducible first | exact K.out | apply sat.alloc_any | apply sat.drew | apply sat.drewN))).pick 1 rfl)).out).mono ?_); rintro e w1 ⟨rfl, K1⟩; replace K1 := (show sat E w1 (boxY gb b :: yardA b y :: L) from K1.pick 1 rfl); have K2 := Lib.hid K1; clear K1 K; (try clear a0); (try clear l0); (try clear a1); (try clear l1); (try clear a2); (try clear l2); have K := K2; clear K2; have a0 := K.out.rd 0 rfl; have l0 := K.out.ltp 0 rfl) | (go_at_call 37; (with_reducible refine ((AL _).out).mono ?_); rintro e w1 ⟨rfl, hb⟩; have K1 := sat.grown (by repeat (with_reducible first | exact K.out | apply sat.alloc_any | apply sat.drew | apply sat.drewN)) hb; clear hb; have K2 := Lib.hid K1; clear K1 K; (try clear a0); (try clear l0); (try clear a1); (try clear l1); (try clear a2); (try clear l2); have K := K2; clear K2; have a0 := K.out.rd 0 rfl; have l0 := K.out.ltp 0 rfl) | (go_at_call 76; (with_reducible refine ((EC _ _ _ (show sat E _ _ from by iterate 6 (try (with_reducible first | exact K.out | apply sat.alloc_any | apply sat.drew | apply sat.drewN)))).out).mono ?_); rintro e w1 ⟨p1, c1, rfl, K1⟩; have K2 := Lib.hid K1; clear K1 K; (try clear a0); (try clear l0); (try clear a1); (try clear l1); (try clear a2); (try clear l2); have K := K2; clear K2; have a1 := K.out.rd 1 rfl; have l1 := K.out.ltp 1 rfl))
  go_ret
  exact ⟨p1, c1, rfl, (show sat E _ (rowA _ _ _ _ _ :: yardA b y :: L) from (K.out.pick 1 rfl).drop)⟩
end
end Go.Proofs.YtdjkblnocooldaaGreat
