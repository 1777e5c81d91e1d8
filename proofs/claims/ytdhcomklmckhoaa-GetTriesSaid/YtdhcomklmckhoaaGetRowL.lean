/- Gets one behind the other: what stands at the ends is gone, the rest stands (the plain law of GetRow). No condition. -/
import Derived.Test.YtdhcomklmckhoaaGetStarts
namespace Go.Proofs.Ytdhcomklmckhoaa
open Go.RowKit Go.SepYtdhcomklmckhoaa
set_option linter.unusedSimpArgs false
set_option linter.unusedVariables false
set_option maxRecDepth 100000
set_option maxHeartbeats 4000000
/-- What is left of a row behind `n` gets: `len` places from the one at `a`. -/
structure RowS (c : ConfM) (R : List Int) (n : Nat) (m : MemM) (a len : Nat) : Prop where
  wf : m.wf
  clen : (m.cells.length : Int) = c.cells
  log : m.log.length ≤ 200 + n * 37
  row : orderM (wordsM c m) = (R.drop a).take len
  bd : a + len ≤ R.length
theorem RowS.row_len {c : ConfM} {R : List Int} {n : Nat} {m : MemM} {a k : Nat} (h : RowS c R n m a k) : (orderM (wordsM c m)).length = k := by
  have := h.bd
  rw [h.row, List.length_take, List.length_drop]; omega
theorem taken_off (x : Int) (h : (unpack x).state = 1) : (unpack (unpack x).taken.pack).state ≠ 1 := by
  have hT : (unpack x).taken.right = true := by
    have := unpack_right x (by omega)
    unfold WordM.right at this ⊢
    simp only [WordM.taken]
    simp only [Bool.and_eq_true] at this ⊢
    obtain ⟨⟨⟨⟨⟨⟨⟨⟨h1, h2⟩, h3⟩, h4⟩, h5⟩, h6⟩, h7⟩, h8⟩, h9⟩ := this
    exact ⟨⟨⟨⟨⟨⟨⟨⟨rfl, rfl⟩, h3⟩, h4⟩, h5⟩, h6⟩, h7⟩, h8⟩, h9⟩
  rw [unpack_pack _ hT]
  show (2 : Int) ≠ 1
  decide
theorem atM_take {W R : List Int} {a k : Nat} (h : orderM W = (R.drop a).take (k + 1)) (hb : a + (k + 1) ≤ R.length) (fin : Int) : R[if fin = 0 then a else a + k]? = some (atM W fin) := by
  split
  · rename_i e
    subst e
    have ha : a < R.length := by omega
    rw [List.drop_eq_getElem_cons ha, List.take_succ_cons] at h
    rw [atM_left h, List.getElem?_eq_getElem ha]
  · rename_i e
    have ha : a + k < R.length := by omega
    have h2 : orderM W = (R.drop a).take k ++ [R[a + k]] := by
      rw [h, List.take_add_one, List.getElem?_drop, List.getElem?_eq_getElem ha]; rfl
    rw [atM_right e h2, List.getElem?_eq_getElem ha]
theorem rowS_next {c : ConfM} (hc : c.ok) (hsm : c.all ≤ 16) {R : List Int} {n : Nat} {m : MemM} {a k : Nat} (h : RowS c R n m a k) (hn : n ≤ 1000) {wh : Int} (w0 : 0 ≤ wh) (w1 : wh < c.th) (fin st : Int) :
    (k = 0 → (GetM.run (GetM.new c wh fin st) m (2 * c.all.toNat + 5)).1.phase = 2 ∧ RowS c R (n + 1) (GetM.run (GetM.new c wh fin st) m (2 * c.all.toNat + 5)).2 a 0) ∧
    (∀ k', k = k' + 1 → ∃ slot, R[if fin = 0 then a else a + k']? = some slot ∧ 0 ≤ slot ∧ slot < c.all ∧ (GetM.run (GetM.new c wh fin st) m (2 * c.all.toNat + 5)).1.phase = 1 ∧
      (GetM.run (GetM.new c wh fin st) m (2 * c.all.toNat + 5)).1.value = (GetM.run (GetM.new c wh fin st) m (2 * c.all.toNat + 5)).2.peek (c.value slot) ∧
      RowS c R (n + 1) (GetM.run (GetM.new c wh fin st) m (2 * c.all.toNat + 5)).2 (if fin = 0 then a + 1 else a) k') := by
  have A := GetM.new_all hc w0 w1 fin st h.wf h.clen
  have AE := alone_atEnd hc (fin := fin) (st := st) w0 w1 h.clen
  have AR := GetM.all_run A (Int.le_refl _) (2 * c.all.toNat + 5) (by omega)
  have RL := GetM.run_log_le A (Int.le_refl _) (2 * c.all.toNat + 5) (by omega)
  have hlog : (GetM.run (GetM.new c wh fin st) m (2 * c.all.toNat + 5)).2.log.length ≤ 200 + (n + 1) * 37 := by have := h.log; omega
  have hrl := h.row_len
  have hbd := h.bd
  have hal := hc.all_bd
  have hwf := AR.wf
  have p1 := AE.phase
  have p2 := AE.value
  have p3 := AE.cells
  have p4 := AE.words
  generalize GetM.run (GetM.new c wh fin st) m (2 * c.all.toNat + 5) = r at *
  constructor
  · rintro rfl
    have hO : orderM (wordsM c m) = [] := List.eq_nil_of_length_eq_zero hrl
    rw [atM_nil fin hO] at p1 p2 p3 p4
    simp only [show ((-1 : Int) < 0) = True from by decide, if_true] at p1 p2 p3 p4
    exact ⟨p1, hwf, by rw [p3]; exact h.clen, hlog, by rw [p4]; exact h.row, h.bd⟩
  · rintro k' rfl
    have hne : orderM (wordsM c m) ≠ [] := by intro e; rw [e] at hrl; simp at hrl
    rcases atM_range (wordsM c m) fin with ⟨e, _⟩ | ⟨_, r1, r2, r3⟩
    · exact (hne e).elim
    · have hat := atM_take h.row hbd fin
      rw [wordsM_len] at r2
      have hlt : atM (wordsM c m) fin < c.all := by omega
      rw [if_neg (by omega)] at p1 p2 p3 p4
      rw [getI_words c m _ r1 (by omega)] at r3
      have hbv := (cellBd hc).value _ r1 hlt
      refine ⟨_, hat, r1, hlt, p1, ?_, hwf, ?_, hlog, ?_, by split <;> omega⟩
      · rw [p2, took_peek hc w0 w1 r1 hlt h.clen p3 _ hbv.1 hbv.2, if_neg (by unfold ConfM.value ConfM.hazard; omega), if_neg (by unfold ConfM.value; omega)]
      · rw [p3]; unfold tookM; rw [setI_length, setI_length, setI_length]; exact h.clen
      · rw [p4, orderM_less _ fin _ hne (taken_off _ r3), h.row]
        split
        · rw [List.drop_take, List.drop_drop]; simp
        · rw [List.dropLast_eq_take, List.length_take, List.length_drop, List.take_take]; congr 1; omega
end Go.Proofs.Ytdhcomklmckhoaa
