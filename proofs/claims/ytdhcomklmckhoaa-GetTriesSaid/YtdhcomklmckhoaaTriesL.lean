/- A Get of which what it looks at is taken by others, so many times (the plain law of GetTries). Plain lemmas on the model. -/
import Derived.Test.YtdhcomklmckhoaaGetRowL
import Derived.Test.YtdhcomklmckhoaaTaskR
namespace Go.Proofs.Ytdhcomklmckhoaa
open Go.RowKit Go.SepYtdhcomklmckhoaa
set_option linter.unusedSimpArgs false
set_option linter.unusedVariables false
structure TryM where
  g : GetM
  m : MemM
  k : Nat
/-- The place that it looks at (below 0: none). -/
def TryM.at_ (c : ConfM) (m : MemM) : Int := wrap64 (wrap64 (m.peek (c.hazard 0)) - 1)
theorem at_of {c : ConfM} {m : MemM} {x : Int} (h : m.peek (c.hazard 0) = x) (h0 : 0 ≤ x) (h1 : x ≤ 1000000) : TryM.at_ c m = x - 1 := by
  unfold TryM.at_
  rw [h, w64 (x := x) (by omega) (by omega), w64 (by omega) (by omega)]
def TryM.hits (c : ConfM) (m : MemM) (k : Nat) : Bool := decide (0 ≤ TryM.at_ c m) && decide (TryM.at_ c m < c.all) && decide (0 < k) && decide ((unpack (m.peek (TryM.at_ c m))).state = 1)
def TryM.goneM (c : ConfM) (m : MemM) : MemM := m.touch (-1) 1 (TryM.at_ c m) 0 (unpack (m.peek (TryM.at_ c m))).taken.pack
def TryM.after (c : ConfM) (g : GetM) (m : MemM) (k : Nat) : TryM := if TryM.hits c m k = true then ⟨g, TryM.goneM c m, k - 1⟩ else ⟨g, m, k⟩
def TryM.step (c : ConfM) (t : TryM) : TryM := TryM.after c (t.g.step t.m).1 (t.g.step t.m).2 t.k
def TryM.run (c : ConfM) (t : TryM) : Nat → TryM
  | 0 => t
  | n + 1 => (TryM.run c t n).step c
theorem TryM.run_add (c : ConfM) (t : TryM) (i : Nat) : ∀ j : Nat, TryM.run c t (i + j) = TryM.run c (TryM.run c t i) j
  | 0 => rfl
  | j + 1 => by
    show (TryM.run c t (i + j)).step c = _
    rw [TryM.run_add c t i j]; rfl
/-- What each step keeps. -/
structure TryOk (c : ConfM) (n : Nat) (t : TryM) : Prop where
  conf : t.g.conf = c
  who : t.g.who = 0
  okn : t.g.okn n
  wf : t.m.wf
  clen : (t.m.cells.length : Int) = c.cells
  log : t.m.log.length ≤ 200 + 2 * n
theorem TryOk.step {c : ConfM} (hc : c.ok) {n : Nat} (hn : n < 100000) {t : TryM} (h : TryOk c n t) : TryOk c (n + 1) (t.step c) := by
  have k := GetM.step_kept (m := t.m) h.okn (by omega) (by omega) h.wf
  have e := GetM.step_near h.okn.ok t.m
  have e1 := e.len
  have e2 := e.wf h.wf
  have e3 := e.log
  have hcl := h.clen
  have hlog := h.log
  unfold TryM.step TryM.after
  split
  · refine ⟨k.conf.trans h.conf, k.who.trans h.who, k.okn, ?_, ?_, ?_⟩
    · exact MemM.touch_wf e2 _ _ _ _ _ (pack_bd _)
    · show ((TryM.goneM c _).cells.length : Int) = _
      unfold TryM.goneM
      rw [MemM.touch_length, e1]; exact hcl
    · show (TryM.goneM c _).log.length ≤ _
      have := MemM.touch_log (t.g.step t.m).2 (-1) 1 (TryM.at_ c (t.g.step t.m).2) 0 (unpack ((t.g.step t.m).2.peek (TryM.at_ c (t.g.step t.m).2))).taken.pack
      unfold TryM.goneM
      omega
  · refine ⟨k.conf.trans h.conf, k.who.trans h.who, k.okn, e2, ?_, ?_⟩
    · show ((t.g.step t.m).2.cells.length : Int) = _
      rw [e1]; exact hcl
    · show (t.g.step t.m).2.log.length ≤ _; omega
theorem TryOk.run {c : ConfM} (hc : c.ok) {t : TryM} (h : TryOk c 0 t) : ∀ n : Nat, n ≤ 100000 → TryOk c n (TryM.run c t n)
  | 0, _ => h
  | n + 1, hn => (TryOk.run hc h n (by omega)).step hc (by omega)
theorem hits_zero {c : ConfM} {m : MemM} : TryM.hits c m 0 = false := by simp [TryM.hits]
theorem hits_none {c : ConfM} {m : MemM} {k : Nat} (h : m.peek (c.hazard 0) = 0) : TryM.hits c m k = false := by
  unfold TryM.hits
  rw [at_of h (by omega) (by omega)]
  simp
/-- Where nothing is taken by others it is a Get alone. -/
theorem try_alone {c : ConfM} {g : GetM} {m : MemM} {k : Nat} : ∀ n : Nat, (∀ j, j ≤ n → TryM.hits c (GetM.run g m j).2 k = false) → TryM.run c ⟨g, m, k⟩ n = ⟨(GetM.run g m n).1, (GetM.run g m n).2, k⟩
  | 0, _ => rfl
  | n + 1, h => by
    show (TryM.run c ⟨g, m, k⟩ n).step c = _
    rw [try_alone n (fun j hj => h j (by omega))]
    unfold TryM.step TryM.after
    have := h (n + 1) (Nat.le_refl _)
    have e : (GetM.run g m (n + 1)) = (GetM.run g m n).1.step (GetM.run g m n).2 := rfl
    rw [e] at this ⊢
    dsimp only
    rw [if_neg (by rw [this]; decide)]
/-- The end of it: nothing is left, or what stands at the end is had. -/
structure TryEnd (c : ConfM) (R : List Int) (fin : Int) (T : Nat) (t : TryM) : Prop where
  none : R.length = T → t.g.phase = 2 ∧ t.g.value = 0
  some : T < R.length → ∃ slot, R[if fin = 0 then T else R.length - 1 - T]? = some slot ∧ 0 ≤ slot ∧ slot < c.all ∧ t.g.phase = 1 ∧ t.g.value = t.m.peek (c.value slot)
  left : t.k = 0
theorem snap_hz {c : ConfM} (hc : c.ok) {g : GetM} (hg : g.conf = c) (hf : g.fresh) {m : MemM} (hl : (m.cells.length : Int) = c.cells) (w0 : 0 ≤ g.who) (w1 : g.who < c.th) (j : Nat) (hj : j < 2 * c.all.toNat) :
    (GetM.run g m j).2.cells = m.cells ∧ (GetM.run g m j).1.phase = 0 ∧ GetM.run g m j = ({ g with snap := (SnapM.run g.snap m j).1 }, (SnapM.run g.snap m j).2) ∧ (SnapM.run g.snap m j).1.phase = 0 := by
  subst hg
  have hal := hc.all_bd
  have b0 : 0 ≤ g.start % 18446744073709551616 % g.conf.all := Int.emod_nonneg _ (by omega)
  have b1 : g.start % 18446744073709551616 % g.conf.all < g.conf.all := Int.emod_lt_of_pos _ (by omega)
  have hs1 := snap_new1 (c := g.conf) g.who g.start m
  rw [← hf.snap] at hs1
  have hph := snap_phase hc b0 b1 hs1
  have hrun := get_snap hf.phase hf.take j (fun i hi => (hph i (by omega)).1)
  rw [hrun]
  exact ⟨(hph j hj).2, hf.phase, rfl, (hph j hj).1⟩
/-- Behind both rounds: what it chose. -/
theorem get_chose {c : ConfM} (hc : c.ok) {g : GetM} (hg : g.conf = c) (hf : g.fresh) {m : MemM} (hl : (m.cells.length : Int) = c.cells) (w0 : 0 ≤ g.who) (w1 : g.who < c.th) (hn : 0 ≤ atM (wordsM c m) g.fin) :
    ∃ sn, (GetM.run g m (2 * c.all.toNat)).1 = { g with snap := sn, take := some (TakeM.new c g.who (atM (wordsM c m) g.fin) (m.peek (atM (wordsM c m) g.fin))) } ∧ (GetM.run g m (2 * c.all.toNat)).2.cells = m.cells ∧ atM (wordsM c m) g.fin < c.all := by
  have hal := hc.all_bd
  have hz := snap_hz hc hg hf hl w0 w1
  subst hg
  have b0 : 0 ≤ g.start % 18446744073709551616 % g.conf.all := Int.emod_nonneg _ (by omega)
  have b1 : g.start % 18446744073709551616 % g.conf.all < g.conf.all := Int.emod_lt_of_pos _ (by omega)
  have hs1 := snap_new1 (c := g.conf) g.who g.start m
  rw [← hf.snap] at hs1
  have h3 := snap_run3 hc b0 b1 hs1
  obtain ⟨N, hN⟩ : ∃ N, 2 * g.conf.all.toNat = N + 1 := ⟨2 * g.conf.all.toNat - 1, by omega⟩
  have hlast : GetM.run g m (2 * g.conf.all.toNat) = (({ g with snap := (SnapM.run g.snap m (2 * g.conf.all.toNat)).1 } : GetM).chosen, (SnapM.run g.snap m (2 * g.conf.all.toNat)).2) := by
    rw [hN] at h3 ⊢
    show (GetM.run g m N).1.step (GetM.run g m N).2 = _
    rw [(hz N (by omega)).2.2.1, GetM.step_none (by exact hf.phase) (by exact hf.take)]
    have e : (SnapM.run g.snap m (N + 1)) = (SnapM.run g.snap m N).1.step (SnapM.run g.snap m N).2 := rfl
    rw [e] at h3 ⊢
    dsimp only
    rw [if_pos h3.phase]
  have hsl : atM (wordsM g.conf m) g.fin < g.conf.all := by
    rcases atM_range (wordsM g.conf m) g.fin with ⟨_, e⟩ | ⟨_, _, e, _⟩
    · omega
    · rw [wordsM_len] at e; omega
  refine ⟨(SnapM.run g.snap m (2 * g.conf.all.toNat)).1, ?_, ?_, hsl⟩
  · rw [hlast]
    unfold GetM.chosen
    dsimp only
    rw [h3.words, if_neg (by omega), getI_words g.conf m _ hn hsl]
  · rw [hlast]; exact h3.cells
/-- One try of which what it chose is taken by another one. -/
theorem try_lost {c : ConfM} (hc : c.ok) {g : GetM} (hg : g.conf = c) (hwho : g.who = 0) (hf : g.fresh) {m : MemM} (hl : (m.cells.length : Int) = c.cells) (hz : m.peek (c.hazard 0) = 0) {k : Nat} (hO : orderM (wordsM c m) ≠ []) :
    ∃ g' m', TryM.run c ⟨g, m, k + 1⟩ (2 * c.all.toNat + 3) = ⟨g', m', k⟩ ∧ (∀ j, j < 2 * c.all.toNat + 3 → (TryM.run c ⟨g, m, k + 1⟩ j).g.phase = 0) ∧ g'.fresh ∧ g'.conf = c ∧ g'.who = 0 ∧ g'.fin = g.fin ∧ g'.value = g.value ∧ g'.tries = g.tries + 1 ∧
      (m'.cells.length : Int) = c.cells ∧ m'.peek (c.hazard 0) = 0 ∧ wordsM c m' = setI (wordsM c m) (atM (wordsM c m) g.fin) (unpack (m.peek (atM (wordsM c m) g.fin))).taken.pack := by
  have hal := hc.all_bd
  have hth := hc.th1
  rcases atM_range (wordsM c m) g.fin with ⟨e, _⟩ | ⟨_, r1, r2, r3⟩
  · exact (hO e).elim
  rw [wordsM_len] at r2
  have s1 : atM (wordsM c m) g.fin < c.all := by omega
  rw [getI_words c m _ r1 s1] at r3
  have hhz : ∀ j, j < 2 * c.all.toNat → TryM.hits c (GetM.run g m j).2 (k + 1) = false := fun j hj => hits_none (by
    rw [peek_of_cells (snap_hz hc hg hf hl (by omega) (by omega) j hj).1]; exact hz)
  obtain ⟨sn, c1, c2, _⟩ := get_chose hc hg hf hl (by omega) (by omega) r1
  have hh2 : TryM.hits c (GetM.run g m (2 * c.all.toNat)).2 (k + 1) = false := hits_none (by rw [peek_of_cells c2]; exact hz)
  have hA := try_alone (c := c) (g := g) (m := m) (k := k + 1) (2 * c.all.toNat) (fun j hj => by
    rcases Nat.lt_or_ge j (2 * c.all.toNat) with q | q
    · exact hhz j q
    · rw [show j = 2 * c.all.toNat by omega]; exact hh2)
  have c1' : (GetM.run g m (2 * c.all.toNat)).1 = { g with snap := sn, take := some (TakeM.new c 0 (atM (wordsM c m) g.fin) (m.peek (atM (wordsM c m) g.fin))) } := by rw [c1, hwho]
  rw [c1'] at hA
  clear c1 c1'
  generalize hS : atM (wordsM c m) g.fin = slot at *
  generalize hx : m.peek slot = x at *
  generalize (GetM.run g m (2 * c.all.toNat)).2 = m2 at *
  have hl2 : (m2.cells.length : Int) = c.cells := by rw [c2]; exact hl
  have hp2 : ∀ i, m2.peek i = m.peek i := fun i => peek_of_cells c2 i
  have hb := cellBd hc
  have bs := hb.slot slot r1 s1
  have bh := hb.hazard 0 (Int.le_refl _) (by omega)
  have hne : slot ≠ c.hazard 0 := by unfold ConfM.hazard; omega
  -- the first step of the take
  have e1 : TryM.run c ⟨g, m, k + 1⟩ (2 * c.all.toNat + 1) = ⟨{ g with snap := sn, take := some ⟨c, 0, slot, x, 1, false, 0, 0⟩ }, (m2.touch 0 1 (c.hazard 0) 0 (slot + 1)).touch (-1) 1 slot 0 (unpack x).taken.pack, k⟩ := by
    show (TryM.run c ⟨g, m, k + 1⟩ (2 * c.all.toNat)).step c = _
    rw [hA]
    have e : ({ g with snap := sn, take := some (TakeM.new c 0 slot x) } : GetM).step m2 = ({ g with snap := sn, take := some ⟨c, 0, slot, x, 1, false, 0, 0⟩ }, m2.touch 0 1 (c.hazard 0) 0 (slot + 1)) := by
      rw [GetM.step_some (t := TakeM.new c 0 slot x) (by exact hf.phase) rfl]
      simp [TakeM.step, TakeM.new]
    unfold TryM.step
    dsimp only
    rw [e]
    dsimp only
    have d1 : (m2.touch 0 1 (c.hazard 0) 0 (slot + 1)).cells = setI m2.cells (c.hazard 0) (slot + 1) := touch_in_cells (has_of hl2 bh.1 bh.2) _ _ _ _
    have dl : ((m2.touch 0 1 (c.hazard 0) 0 (slot + 1)).cells.length : Int) = c.cells := by rw [d1, setI_length]; exact hl2
    have dh : (m2.touch 0 1 (c.hazard 0) 0 (slot + 1)).peek (c.hazard 0) = slot + 1 := by rw [peek_in (has_of dl bh.1 bh.2), d1, getI_setI_of _ _ _ bh.1 (by omega)]
    have ds : (m2.touch 0 1 (c.hazard 0) 0 (slot + 1)).peek slot = x := by rw [peek_in (has_of dl bs.1 bs.2), d1, getI_setI_ne _ _ _ _ bh.1 bs.1 hne, ← peek_in (has_of hl2 bs.1 bs.2), hp2, hx]
    have da : TryM.at_ c (m2.touch 0 1 (c.hazard 0) 0 (slot + 1)) = slot := by rw [at_of dh (by omega) (by omega)]; omega
    unfold TryM.after
    rw [if_pos (by unfold TryM.hits; rw [da, ds]; simp [r1, s1, r3])]
    unfold TryM.goneM
    rw [da, ds]
    simp
  have d1 : (m2.touch 0 1 (c.hazard 0) 0 (slot + 1)).cells = setI m2.cells (c.hazard 0) (slot + 1) := touch_in_cells (has_of hl2 bh.1 bh.2) _ _ _ _
  generalize m2.touch 0 1 (c.hazard 0) 0 (slot + 1) = ma at *
  have la : (ma.cells.length : Int) = c.cells := by rw [d1, setI_length]; exact hl2
  have d2 : (ma.touch (-1) 1 slot 0 (unpack x).taken.pack).cells = setI ma.cells slot (unpack x).taken.pack := touch_in_cells (has_of la bs.1 bs.2) _ _ _ _
  generalize ma.touch (-1) 1 slot 0 (unpack x).taken.pack = mb at *
  have lb : (mb.cells.length : Int) = c.cells := by rw [d2, setI_length]; exact la
  have pbs : mb.peek slot = (unpack x).taken.pack := by rw [peek_in (has_of lb bs.1 bs.2), d2, getI_setI_of _ _ _ bs.1 (by omega)]
  have pbh : mb.peek (c.hazard 0) = slot + 1 := by rw [peek_in (has_of lb bh.1 bh.2), d2, getI_setI_ne _ _ _ _ bs.1 bh.1 (fun q => hne q.symm), d1, getI_setI_of _ _ _ bh.1 (by omega)]
  have hoff := taken_off x r3
  have hxne : (unpack x).taken.pack ≠ x := fun q => by rw [q] at hoff; exact hoff r3
  -- the second
  have e2 : TryM.run c ⟨g, m, k + 1⟩ (2 * c.all.toNat + 2) = ⟨{ g with snap := sn, take := some ⟨c, 0, slot, x, 2, true, 0, 0⟩ }, mb.touch 0 0 slot 0 0, k⟩ := by
    show (TryM.run c ⟨g, m, k + 1⟩ (2 * c.all.toNat + 1)).step c = _
    rw [e1]
    have e : ({ g with snap := sn, take := some ⟨c, 0, slot, x, 1, false, 0, 0⟩ } : GetM).step mb = ({ g with snap := sn, take := some ⟨c, 0, slot, x, 2, true, 0, 0⟩ }, mb.touch 0 0 slot 0 0) := by
      rw [GetM.step_some (t := ⟨c, 0, slot, x, 1, false, 0, 0⟩) (by exact hf.phase) rfl]
      simp [TakeM.step, pbs, hxne]
    unfold TryM.step
    dsimp only
    rw [e]
    dsimp only
    have dc : (mb.touch 0 0 slot 0 0).cells = mb.cells := load_cells _ _ _ _ _
    unfold TryM.after
    rw [if_neg (by unfold TryM.hits; rw [at_of (show (mb.touch 0 0 slot 0 0).peek (c.hazard 0) = slot + 1 by rw [peek_of_cells dc, pbh]) (by omega) (by omega), show slot + 1 - 1 = slot by omega, peek_of_cells dc, pbs]; simp [hoff])]
  have dc : (mb.touch 0 0 slot 0 0).cells = mb.cells := load_cells _ _ _ _ _
  generalize mb.touch 0 0 slot 0 0 = mc at *
  have lc : (mc.cells.length : Int) = c.cells := by rw [dc]; exact lb
  -- the third
  have e3 : TryM.run c ⟨g, m, k + 1⟩ (2 * c.all.toNat + 3) = ⟨{ g with snap := SnapM.new g.conf g.who g.start, take := none, tries := g.tries + 1 }, mc.touch 0 1 (c.hazard 0) 0 0, k⟩ := by
    show (TryM.run c ⟨g, m, k + 1⟩ (2 * c.all.toNat + 2)).step c = _
    rw [e2]
    have e : ({ g with snap := sn, take := some ⟨c, 0, slot, x, 2, true, 0, 0⟩ } : GetM).step mc = ({ g with snap := SnapM.new g.conf g.who g.start, take := none, tries := g.tries + 1 }, mc.touch 0 1 (c.hazard 0) 0 0) := by
      rw [GetM.step_some (t := ⟨c, 0, slot, x, 2, true, 0, 0⟩) (by exact hf.phase) rfl]
      simp [TakeM.step, TakeM.fin]
    unfold TryM.step
    dsimp only
    rw [e]
    dsimp only
    have dd : (mc.touch 0 1 (c.hazard 0) 0 0).cells = setI mc.cells (c.hazard 0) 0 := touch_in_cells (has_of lc bh.1 bh.2) _ _ _ _
    have dl : ((mc.touch 0 1 (c.hazard 0) 0 0).cells.length : Int) = c.cells := by rw [dd, setI_length]; exact lc
    unfold TryM.after
    rw [if_neg (by rw [hits_none (by rw [peek_in (has_of dl bh.1 bh.2), dd, getI_setI_of _ _ _ bh.1 (by omega)])]; decide)]
  have dd : (mc.touch 0 1 (c.hazard 0) 0 0).cells = setI mc.cells (c.hazard 0) 0 := touch_in_cells (has_of lc bh.1 bh.2) _ _ _ _
  have ld : ((mc.touch 0 1 (c.hazard 0) 0 0).cells.length : Int) = c.cells := by rw [dd, setI_length]; exact lc
  refine ⟨_, _, e3, fun j hj => ?_, ⟨hf.phase, rfl, rfl⟩, hg, hwho, rfl, rfl, rfl, ld, ?_, ?_⟩
  · rcases Nat.lt_or_ge j (2 * c.all.toNat) with q | q
    · rw [try_alone j (fun i hi => hhz i (by omega))]
      exact (snap_hz hc hg hf hl (by omega) (by omega) j q).2.1
    · obtain h | h | h : j = 2 * c.all.toNat ∨ j = 2 * c.all.toNat + 1 ∨ j = 2 * c.all.toNat + 2 := by omega
      · rw [h, hA]; exact hf.phase
      · rw [h, e1]; exact hf.phase
      · rw [h, e2]; exact hf.phase
  · rw [peek_in (has_of ld bh.1 bh.2), dd, getI_setI_of _ _ _ bh.1 (by omega)]
  · refine getI_ext (by rw [setI_length, wordsM_len, wordsM_len]) (fun i i0 i1 => ?_)
    rw [wordsM_len] at i1
    have bi := hb.slot i i0 (by omega)
    have hni : i ≠ c.hazard 0 := by unfold ConfM.hazard; omega
    rw [getI_words c _ i i0 (by omega), peek_in (has_of ld bi.1 bi.2), dd, getI_setI_ne _ _ _ _ bh.1 i0 hni, dc, d2]
    by_cases q : i = slot
    · rw [q, getI_setI_of _ _ _ bs.1 (by omega), getI_setI_of _ _ _ bs.1 (by rw [wordsM_len]; omega)]
    · rw [getI_setI_ne _ _ _ _ bs.1 i0 q, getI_setI_ne _ _ _ _ bs.1 i0 q, d1, getI_setI_ne _ _ _ _ bh.1 i0 hni, ← peek_in (has_of hl2 bi.1 bi.2), hp2, getI_words c m i i0 (by omega)]
/-- All tries. -/
theorem tries_end {c : ConfM} (hc : c.ok) (R0 : List Int) (fin : Int) (T0 : Nat) : ∀ (k d : Nat) {g : GetM} {m : MemM}, g.conf = c → g.who = 0 → g.fin = fin → g.fresh → g.value = 0 → (m.cells.length : Int) = c.cells → m.peek (c.hazard 0) = 0 →
    d + k = T0 → T0 ≤ R0.length → orderM (wordsM c m) = (R0.drop (if fin = 0 then d else 0)).take (R0.length - d) →
    ∃ N, N ≤ (k + 1) * (2 * c.all.toNat + 5) ∧ (∀ j, j < N → (TryM.run c ⟨g, m, k⟩ j).g.phase = 0) ∧ TryEnd c R0 fin T0 (TryM.run c ⟨g, m, k⟩ N) ∧ (TryM.run c ⟨g, m, k⟩ N).g.tries = g.tries + k ∧ 0 < N
  | 0, d, g, m, hg, hwho, hfin, hf, hv, hl, hz, hd, hT, hO => by
    have hal := hc.all_bd
    have hth := hc.th1
    have A := get_alone hc hg (by omega) (by omega) hf hl
    have hd' : d = T0 := by omega
    subst hd'
    have hrun := fun n => try_alone (c := c) (g := g) (m := m) (k := 0) n (fun j hj => hits_zero)
    have hlen : (orderM (wordsM c m)).length = R0.length - d := by
      rw [hO, List.length_take, List.length_drop]; split <;> omega
    rcases Nat.lt_or_ge d R0.length with q | q
    · have hne : orderM (wordsM c m) ≠ [] := by intro e; rw [e] at hlen; simp at hlen; omega
      rcases atM_range (wordsM c m) g.fin with ⟨e, _⟩ | ⟨_, r1, r2, r3⟩
      · exact (hne e).elim
      · obtain ⟨a1, a2, a3, a4, a5⟩ := A.some r1
        rw [wordsM_len] at r2
        refine ⟨2 * c.all.toNat + 5, by omega, fun j hj => by rw [hrun]; exact a1 j hj, ⟨fun e => by omega, fun _ => ⟨atM (wordsM c m) g.fin, ?_, r1, by omega, by rw [hrun]; exact a2, ?_⟩, by rw [hrun]⟩, by rw [hrun]; show _ = g.tries + 0; rw [Int.add_zero]; exact a4, by omega⟩
        · have hk := atM_take (W := wordsM c m) (R := R0) (a := if fin = 0 then d else 0) (k := R0.length - d - 1) (by rw [hO]; congr 1; omega) (by split <;> omega) g.fin
          rw [← hk, hfin]
          congr 1
          split <;> omega
        · rw [hrun]
          show (GetM.run g m (2 * c.all.toNat + 5)).1.value = (GetM.run g m (2 * c.all.toNat + 5)).2.peek _
          have hbv := (cellBd hc).value _ r1 (by omega : atM (wordsM c m) g.fin < c.all)
          rw [a3, took_peek hc (by omega) (by omega) r1 (by omega) hl a5 _ hbv.1 hbv.2, if_neg (by unfold ConfM.value ConfM.hazard; omega), if_neg (by unfold ConfM.value; omega)]
    · have hOn : orderM (wordsM c m) = [] := List.eq_nil_of_length_eq_zero (by omega)
      have hn : atM (wordsM c m) g.fin < 0 := by rw [atM_nil g.fin hOn]; decide
      obtain ⟨a1, a2, a3, a4, a5⟩ := A.none hn
      exact ⟨2 * c.all.toNat, by omega, fun j hj => by rw [hrun]; exact a1 j hj, ⟨fun _ => ⟨by rw [hrun]; exact a2, by rw [hrun]; exact a3.trans hv⟩, fun e => by omega, by rw [hrun]⟩, by rw [hrun]; show _ = g.tries + 0; rw [Int.add_zero]; exact a4, by omega⟩
  | k + 1, d, g, m, hg, hwho, hfin, hf, hv, hl, hz, hd, hT, hO => by
    have hal := hc.all_bd
    have hlen : (orderM (wordsM c m)).length = R0.length - d := by
      rw [hO, List.length_take, List.length_drop]; split <;> omega
    have hne : orderM (wordsM c m) ≠ [] := by intro e; rw [e] at hlen; simp at hlen; omega
    obtain ⟨g', m', e1, e2, f1, f2, f3, f4, f5, f6, f7, f8, f9⟩ := try_lost hc hg hwho hf hl hz (k := k) hne
    have hO' : orderM (wordsM c m') = (R0.drop (if fin = 0 then d + 1 else 0)).take (R0.length - (d + 1)) := by
      rcases atM_range (wordsM c m) g.fin with ⟨e, _⟩ | ⟨_, r1, r2, r3⟩
      · exact (hne e).elim
      · rw [wordsM_len] at r2
        rw [getI_words c m _ r1 (by omega)] at r3
        rw [f9, orderM_less _ g.fin _ hne (taken_off _ r3), hO, hfin]
        by_cases q : fin = 0
        · rw [if_pos q, if_pos q, if_pos q, List.drop_take, List.drop_drop]; congr 1
        · rw [if_neg q, if_neg q, if_neg q, List.dropLast_eq_take, List.length_take, List.length_drop, List.take_take]; congr 1; omega
    obtain ⟨N, n1, n2, n3, n4, n5⟩ := tries_end hc R0 fin T0 k (d + 1) f2 f3 (f4.trans hfin) f1 (f5.trans hv) f7 f8 (by omega) hT hO'
    refine ⟨2 * c.all.toNat + 3 + N, ?_, fun j hj => ?_, ?_, ?_, by omega⟩
    · have e : (k + 1 + 1) * (2 * c.all.toNat + 5) = (k + 1) * (2 * c.all.toNat + 5) + (2 * c.all.toNat + 5) := by rw [Nat.add_mul (k + 1), Nat.one_mul]
      rw [e]; omega
    · rcases Nat.lt_or_ge j (2 * c.all.toNat + 3) with q | q
      · exact e2 j q
      · have := n2 (j - (2 * c.all.toNat + 3)) (by omega)
        rw [← e1, ← TryM.run_add, show 2 * c.all.toNat + 3 + (j - (2 * c.all.toNat + 3)) = j by omega] at this
        exact this
    · rw [TryM.run_add, e1]; exact n3
    · rw [TryM.run_add, e1, n4, f6]; omega
theorem TryM.run_le (c : ConfM) (t : TryM) : ∀ n, (TryM.run c t n).k ≤ t.k
  | 0 => Nat.le_refl _
  | n + 1 => by
    have := TryM.run_le c t n
    show ((TryM.run c t n).step c).k ≤ _
    unfold TryM.step TryM.after
    split
    · show (TryM.run c t n).k - 1 ≤ _; omega
    · exact this
theorem after_hit {c : ConfM} {g : GetM} {m : MemM} {k : Nat} (h0 : 0 ≤ TryM.at_ c m) (h1 : TryM.at_ c m < c.all) (hk : 0 < k) (hs : (unpack (m.peek (TryM.at_ c m))).state = 1) : TryM.after c g m k = ⟨g, TryM.goneM c m, k - 1⟩ := by
  unfold TryM.after TryM.hits
  rw [if_pos (by simp [h0, h1, hk, hs])]
theorem after_no {c : ConfM} {g : GetM} {m : MemM} {k : Nat} (h : ¬ (0 ≤ TryM.at_ c m ∧ TryM.at_ c m < c.all ∧ 0 < k ∧ (unpack (m.peek (TryM.at_ c m))).state = 1)) : TryM.after c g m k = ⟨g, m, k⟩ := by
  unfold TryM.after TryM.hits
  rw [if_neg]
  intro q
  apply h
  simp only [Bool.and_eq_true, decide_eq_true_eq] at q
  exact ⟨q.1.1.1, q.1.1.2, q.1.2, q.2⟩
end Go.Proofs.Ytdhcomklmckhoaa
