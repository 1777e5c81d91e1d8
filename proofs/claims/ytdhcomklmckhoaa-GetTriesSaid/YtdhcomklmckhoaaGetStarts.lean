/- From wherever it begins to read, the same comes of it (GetStarts answers true at every input). No condition beyond the row's own. -/
import Derived.Test.YtdhcomklmckhoaaGetAlone
namespace Go.Proofs.Ytdhcomklmckhoaa
open Go.RowKit Go.SepYtdhcomklmckhoaa
set_option linter.unusedSimpArgs false
set_option linter.unusedVariables false
set_option maxRecDepth 100000
set_option maxHeartbeats 4000000
/-- What comes of a get by itself, behind as many steps as it may take. -/
structure AtEnd (c : ConfM) (wh : Int) (m : MemM) (fin : Int) (r : GetM × MemM) : Prop where
  phase : r.1.phase = if atM (wordsM c m) fin < 0 then 2 else 1
  value : r.1.value = if atM (wordsM c m) fin < 0 then 0 else m.peek (c.value (atM (wordsM c m) fin))
  cells : r.2.cells = if atM (wordsM c m) fin < 0 then m.cells else tookM c wh (atM (wordsM c m) fin) m.cells
  words : wordsM c r.2 = if atM (wordsM c m) fin < 0 then wordsM c m else setI (wordsM c m) (atM (wordsM c m) fin) (unpack (m.peek (atM (wordsM c m) fin))).taken.pack
theorem alone_atEnd {c : ConfM} (hc : c.ok) {wh fin st : Int} (w0 : 0 ≤ wh) (w1 : wh < c.th) {m : MemM} (hl : (m.cells.length : Int) = c.cells) : AtEnd c wh m fin (GetM.run (GetM.new c wh fin st) m (2 * c.all.toNat + 5)) := by
  have h := get_alone hc (g := GetM.new c wh fin st) rfl w0 w1 (GetM.new_fresh _ _ _ _) hl
  have e : (GetM.new c wh fin st).fin = fin := rfl
  have ew : (GetM.new c wh fin st).who = wh := rfl
  rcases Int.lt_or_le (atM (wordsM c m) fin) 0 with hn | hn
  · obtain ⟨h1, h2, h3, h4, h5⟩ := h.none (by rw [e]; exact hn)
    have hs := GetM.run_stop (g := GetM.new c wh fin st) (m := m) (n := 2 * c.all.toNat) (by rw [h2]; decide) 5
    rw [hs]
    constructor
    · rw [if_pos hn]; exact h2
    · rw [if_pos hn]; exact h3
    · rw [if_pos hn]; exact h5
    · rw [if_pos hn]; exact wordsM_cells c h5
  · obtain ⟨h1, h2, h3, h4, h5⟩ := h.some (by rw [e]; exact hn)
    rw [e] at h3
    rw [e, ew] at h5
    have hlt : atM (wordsM c m) fin < c.all := by
      rcases atM_range (wordsM c m) fin with ⟨_, q⟩ | ⟨_, _, q, _⟩
      · omega
      · rw [wordsM_len] at q; omega
    constructor
    · rw [if_neg (by omega)]; exact h2
    · rw [if_neg (by omega)]; exact h3
    · rw [if_neg (by omega)]; exact h5
    · rw [if_neg (by omega)]; exact took_words hc w0 w1 hn hlt hl h5
section
variable {E w : World} {L : List SA}
theorem run_step {g : GetM} {m : MemM} (h : g.all 0 m) (hl : m.log.length ≤ 100000) (b bm j : Nat) (hj : j ≤ 100000) (hs : sat E w (getA b (GetM.run g m j).1 :: memA bm (GetM.run g m j).2 :: L)) :
    Calls Try.prog 18 #[.pointer (some ⟨b, 0, none⟩), .pointer (some ⟨bm, 0, none⟩)] w fun e w' => e = .returned (.int .i64 (GetM.run g m (j + 1)).1.phase) ∧ sat E w' (getA b (GetM.run g m (j + 1)).1 :: memA bm (GetM.run g m (j + 1)).2 :: L) := by
  have a := GetM.all_run h (Int.le_refl _) j (by omega)
  have b' := GetM.run_log_le h (Int.le_refl _) j (by omega)
  have c := a.okn.pass
  have d := a.okn.tries
  exact gstep_calls b bm _ _ a.okn.ok (by omega) (by omega) (by omega) hs
end
end Go.Proofs.Ytdhcomklmckhoaa
