/- What Decode answers to a script's bytes with something behind them, and where bytes are cut off. Plain Lean; no program. -/
import Derived.Test.YtiladkalijonbaaCodeLD
namespace Go.Proofs.Ytiladkalijonbaa
open Go.RowKit Go.Proofs.YtiladkalijonbaaW.PrintWords Go.Proofs.YtiladkalijonbaaW.PrintLast Go.Proofs.YtiladkalijonbaaW.PrintMore
open Go.Proofs.Ytiladkalijonbaa.PCodeCuts
set_option linter.unusedSimpArgs false
set_option linter.unusedVariables false
set_option maxRecDepth 100000
/-- Decode goes over whole moves. -/
theorem dec_skip (a b c d : Int) (r : List Int) : ∀ (ms : List S40) (pre : List Int) (acc : List S40) (k : Nat), (∀ m ∈ ms, rightM m = true ∧ okV m) → isB (pre ++ movesB ms ++ r) → acc.length + ms.length ≤ 65536 → pre.length + (movesB ms).length + r.length ≤ 100000000 → 25 ≤ k →
    code_Decode.l0 (ms.length + k) (pre ++ movesB ms ++ r) (pre.length : Int) a b c d acc = code_Decode.l0 k (pre ++ movesB ms ++ r) ((pre ++ movesB ms).length : Int) a b c d (acc ++ ms) := by
  intro ms
  induction ms with
  | nil =>
    intro pre acc k _ _ _ _ _
    simp [movesB]
  | cons m ms ih =>
    intro pre acc k hall hb hacc hlen hk
    obtain ⟨hr, hv⟩ := hall m List.mem_cons_self
    have hp := bytesM_pos m
    have hle := bytesM_len m
    simp only [List.length_cons] at hacc ⊢
    rw [show ms.length + 1 + k = (ms.length + k) + 1 by omega]
    conv => lhs; unfold code_Decode.l0
    rw [movesB_cons] at hb hlen ⊢
    rw [List.length_append] at hlen
    have e0 : pre ++ (bytesM m ++ movesB ms) ++ r = pre ++ (bytesM m ++ (movesB ms ++ r)) := by simp only [List.append_assoc]
    rw [e0] at hb ⊢
    rw [if_pos (by simp; omega), if_pos (by omega), if_pos (by simp; omega), Int.toNat_natCast, List.drop_left, one_f _ (fun x hx => hb x (List.mem_append_right _ hx)) (by omega), Option.bind_some, one_complete m hr hv]
    have hne : ¬ (oneT m ((bytesM m).length : Int)).2.2.2.2.2.2.2 = 0 := by show ¬ ((bytesM m).length : Int) = 0; omega
    rw [if_neg hne, if_neg (by omega), if_pos (by omega)]
    have hnn : (oneT m ((bytesM m).length : Int)).2.2.2.2.2.2.2 = ((bytesM m).length : Int) := rfl
    have e1 : ((⟨(oneT m ((bytesM m).length : Int)).1, (oneT m ((bytesM m).length : Int)).2.1, (⟨(oneT m ((bytesM m).length : Int)).2.2.1, (oneT m ((bytesM m).length : Int)).2.2.2.1, (oneT m ((bytesM m).length : Int)).2.2.2.2.1, (oneT m ((bytesM m).length : Int)).2.2.2.2.2.1⟩ : S38), (oneT m ((bytesM m).length : Int)).2.2.2.2.2.2.1⟩ : S40)) = m := rfl
    rw [hnn, e1, w64e (by omega) (by omega)]
    have := ih (pre ++ bytesM m) (acc ++ [m]) k (fun y hy => hall y (List.mem_cons_of_mem _ hy)) (by simp only [List.append_assoc] at hb ⊢; exact hb) (by simp; omega) (by simp; omega) hk
    have e2 : ((pre ++ bytesM m).length : Int) = (pre.length : Int) + ((bytesM m).length : Int) := by simp
    rw [← e2]
    simp only [List.append_assoc, List.singleton_append] at this ⊢
    exact this
theorem l0_stop (a b c d : Int) (x : List Int) (n : Nat) (acc : List S40) (k : Nat) (hk : 25 ≤ k) (hb : isB x) (hn : n < x.length) (hx : x.length ≤ 100000000) (h8 : oneM (x.drop n) = none8) :
    code_Decode.l0 k x (n : Int) a b c d acc = some (0, 0, 0, 0, [], (n : Int), 3) := by
  obtain ⟨j, rfl⟩ : ∃ j, k = j + 1 := ⟨k - 1, by omega⟩
  unfold code_Decode.l0
  rw [if_pos (by omega), if_pos (by omega), if_pos (by omega), Int.toNat_natCast, one_f _ (isB_drop hb n) (by omega), Option.bind_some, h8, if_pos (by rfl)]
theorem l0_end (a b c d : Int) (x : List Int) (acc : List S40) (k : Nat) (hk : 25 ≤ k) :
    code_Decode.l0 k x (x.length : Int) a b c d acc = some (a, b, c, d, acc, (x.length : Int), 0) := by
  obtain ⟨j, rfl⟩ : ∃ j, k = j + 1 := ⟨k - 1, by omega⟩
  unfold code_Decode.l0
  rw [if_neg (by omega)]
theorem l0_many (a b c d : Int) (x : List Int) (n : Nat) (acc : List S40) (k : Nat) (hk : 25 ≤ k) (hb : isB x) (hn : n < x.length) (hx : x.length ≤ 100000000) (m : S40) (t : Nat) (t0 : 0 < t) (h8 : oneM (x.drop n) = oneT m t) (ha : acc.length = 65536) :
    code_Decode.l0 k x (n : Int) a b c d acc = some (0, 0, 0, 0, [], (n : Int), 7) := by
  obtain ⟨j, rfl⟩ : ∃ j, k = j + 1 := ⟨k - 1, by omega⟩
  unfold code_Decode.l0
  have hne : ¬ (oneT m (t : Int)).2.2.2.2.2.2.2 = 0 := by show ¬ (t : Int) = 0; omega
  rw [if_pos (by omega), if_pos (by omega), if_pos (by omega), Int.toNat_natCast, one_f _ (isB_drop hb n) (by omega), Option.bind_some, h8, if_neg hne, if_pos (by omega)]
/-- A beginning of a move's bytes is no move. -/
theorem one_part (m : S40) (hr : rightM m = true) (hv : okV m) (k : Nat) (hk : k < (bytesM m).length) : oneM ((bytesM m).take k) = none8 := by
  have hb := bytesM_isB m hr
  rcases one_sound ((bytesM m).take k) (isB_take hb k) with he | ⟨m', n, n0, nl, he, hr', hv', ht⟩
  · exact he
  · exfalso
    rw [List.length_take] at nl
    rw [List.take_take, Nat.min_eq_left (by omega)] at ht
    have h1 := one_complete m' hr' hv' ((bytesM m).drop n)
    rw [← ht, List.take_append_drop, List.length_take] at h1
    have h2 := one_complete m hr hv []
    rw [List.append_nil, h1] at h2
    have h3 := congrArg (fun x => x.2.2.2.2.2.2.2) h2
    simp only [oneT] at h3
    omega
theorem f_l0 (c0 c1 c2 c3 : Int) (h0 : 0 ≤ c0 ∧ c0 < 256) (h1 : 0 ≤ c1 ∧ c1 < 256) (h2 : 0 ≤ c2 ∧ c2 < 256) (h3 : 0 ≤ c3 ∧ c3 < 256) (hc : confR c0 c1 c2 c3 = true) (y : List Int) (k : Nat) :
    code_Decode.f k ([c0, c1, c2, c3] ++ y) = code_Decode.l0 k ([c0, c1, c2, c3] ++ y) (([c0, c1, c2, c3] : List Int).length : Int) c0 c1 c2 c3 [] := by
  unfold code_Decode.f
  rw [if_neg (by simp; omega), if_pos (by simp; omega), if_pos (by simp; omega), if_pos (by simp; omega), if_pos (by simp; omega)]
  have r0 : rd ([c0, c1, c2, c3] ++ y) 0 = c0 := rfl
  have r1 : rd ([c0, c1, c2, c3] ++ y) 1 = c1 := rfl
  have r2 : rd ([c0, c1, c2, c3] ++ y) 2 = c2 := rfl
  have r3 : rd ([c0, c1, c2, c3] ++ y) 3 = c3 := rfl
  rw [r0, r1, r2, r3, w64e (x := c0) (by omega) (by omega), w64e (x := c1) (by omega) (by omega), w64e (x := c2) (by omega) (by omega), w64e (x := c3) (by omega) (by omega), conf_f, hc, Option.bind_some, if_pos rfl]
  rfl
/-- Where a move begins. -/
def startM (ms : List S40) (j : Nat) : Nat := 4 + (movesB (ms.take j)).length
theorem movesB_split (ms : List S40) (j : Nat) (h : j < ms.length) : movesB ms = movesB (ms.take j) ++ (bytesM ms[j] ++ movesB (ms.drop (j + 1))) := by
  conv => lhs; rw [← List.take_append_drop j ms, List.drop_eq_getElem_cons h]
  unfold movesB
  rw [List.flatMap_append, List.flatMap_cons]
theorem startM_succ (ms : List S40) (j : Nat) (h : j < ms.length) : startM ms (j + 1) = startM ms j + (bytesM ms[j]).length := by
  unfold startM movesB
  rw [List.take_succ_eq_append_getElem h, List.flatMap_append]
  simp
  omega
theorem startM_all (ms : List S40) : startM ms ms.length = 4 + (movesB ms).length := by unfold startM; rw [List.take_length]
theorem dec_within (c0 c1 c2 c3 : Int) (h0 : 0 ≤ c0 ∧ c0 < 256) (h1 : 0 ≤ c1 ∧ c1 < 256) (h2 : 0 ≤ c2 ∧ c2 < 256) (h3 : 0 ≤ c3 ∧ c3 < 256) (hc : confR c0 c1 c2 c3 = true) (ms : List S40) (hall : ∀ m ∈ ms, rightM m = true ∧ okV m) (hm : ms.length ≤ 100) (j cut : Nat) (hj : j < ms.length) (hlo : startM ms j < cut) (hhi : cut < startM ms (j + 1)) :
    code_Decode.f 400 (([c0, c1, c2, c3] ++ movesB ms).take cut) = some (0, 0, 0, 0, [], (startM ms j : Int), 3) := by
  have hs := startM_succ ms j hj
  have hmem := hall ms[j] (List.getElem_mem hj)
  obtain ⟨i, hi⟩ : ∃ i, cut = startM ms j + i := ⟨cut - startM ms j, by omega⟩
  have hil : i < (bytesM ms[j]).length := by omega
  have ht : ([c0, c1, c2, c3] ++ movesB ms).take cut = [c0, c1, c2, c3] ++ (movesB (ms.take j) ++ (bytesM ms[j]).take i) := by
    rw [movesB_split ms j hj, List.take_append, List.take_append, List.take_append]
    unfold startM at hi
    rw [List.take_of_length_le (by simp; omega), List.take_of_length_le (by simp; omega)]
    simp only [List.length_cons, List.length_nil]
    rw [show cut - (0 + 1 + 1 + 1 + 1) - (movesB (ms.take j)).length = i by omega, show i - (bytesM ms[j]).length = 0 by omega, List.take_zero, List.append_nil]
  have hl := movesB_len (ms.take j)
  have hb4 : isB ([c0, c1, c2, c3] ++ movesB (ms.take j) ++ (bytesM ms[j]).take i) := fun x hx => by
    rcases List.mem_append.1 hx with hx | hx
    · rcases List.mem_append.1 hx with h | h
      · simp at h; rcases h with rfl | rfl | rfl | rfl <;> assumption
      · exact movesB_isB (ms.take j) (fun m hm => (hall m (List.mem_of_mem_take hm)).1) x h
    · exact isB_take (bytesM_isB ms[j] hmem.1) i x hx
  have hle := bytesM_len ms[j]
  have hlt : (ms.take j).length = j := by rw [List.length_take]; omega
  rw [ht, f_l0 c0 c1 c2 c3 h0 h1 h2 h3 hc, ← List.append_assoc, show (400 : Nat) = (ms.take j).length + (400 - j) by omega, dec_skip c0 c1 c2 c3 ((bytesM ms[j]).take i) (ms.take j) [c0, c1, c2, c3] [] (400 - j) (fun m hm => hall m (List.mem_of_mem_take hm)) hb4 (by simp; omega) (by simp; omega) (by omega)]
  have hd : ([c0, c1, c2, c3] ++ movesB (ms.take j) ++ (bytesM ms[j]).take i).drop ([c0, c1, c2, c3] ++ movesB (ms.take j)).length = (bytesM ms[j]).take i := List.drop_left
  rw [l0_stop _ _ _ _ _ _ _ _ (by omega) hb4 (by simp; omega) (by simp; omega) (by rw [hd]; exact one_part _ hmem.1 hmem.2 i (by omega))]
  unfold startM
  simp
  omega
theorem dec_whole (c0 c1 c2 c3 : Int) (h0 : 0 ≤ c0 ∧ c0 < 256) (h1 : 0 ≤ c1 ∧ c1 < 256) (h2 : 0 ≤ c2 ∧ c2 < 256) (h3 : 0 ≤ c3 ∧ c3 < 256) (hc : confR c0 c1 c2 c3 = true) (ms : List S40) (hall : ∀ m ∈ ms, rightM m = true ∧ okV m) (hm : ms.length ≤ 100) (j : Nat) (hj : j ≤ ms.length) :
    code_Decode.f 400 (([c0, c1, c2, c3] ++ movesB ms).take (startM ms j)) = some (c0, c1, c2, c3, ms.take j, (startM ms j : Int), 0) := by
  have ht : ([c0, c1, c2, c3] ++ movesB ms).take (startM ms j) = [c0, c1, c2, c3] ++ movesB (ms.take j) := by
    have e : movesB ms = movesB (ms.take j) ++ movesB (ms.drop j) := by
      conv => lhs; rw [← List.take_append_drop j ms]
      unfold movesB
      rw [List.flatMap_append]
    rw [e, List.take_append, List.take_append]
    unfold startM
    rw [List.take_of_length_le (by simp), List.take_of_length_le (by simp)]
    simp
  rw [ht, dec_complete_f c0 c1 c2 c3 h0 h1 h2 h3 hc (ms.take j) (fun m hm => hall m (List.mem_of_mem_take hm)) (movesB_isB _ (fun m hm => (hall m (List.mem_of_mem_take hm)).1)) (by rw [List.length_take]; omega) (by rw [List.length_take]; omega)]
  unfold startM
  simp
  omega
/-- Is the cut the end, or one of the first n beginnings? -/
def whole (ms : List S40) (cut size : Int) : Nat → Bool
  | 0 => cut == size
  | n + 1 => whole ms cut size n || ((startM ms n : Int) == cut)
/-- The last of the first n beginnings ahead of the cut. -/
def from' (ms : List S40) (cut : Int) : Nat → Int
  | 0 => 0
  | n + 1 => if (startM ms n : Int) < cut then (startM ms n : Int) else from' ms cut n
theorem whole_iff (ms : List S40) (cut size : Int) : ∀ n, whole ms cut size n = true ↔ cut = size ∨ ∃ j, j < n ∧ (startM ms j : Int) = cut
  | 0 => by simp [whole]
  | n + 1 => by
    simp only [whole, Bool.or_eq_true, whole_iff ms cut size n, beq_iff_eq]
    constructor
    · rintro ((h | ⟨j, h1, h2⟩) | h)
      · exact .inl h
      · exact .inr ⟨j, by omega, h2⟩
      · exact .inr ⟨n, by omega, h⟩
    · rintro (h | ⟨j, h1, h2⟩)
      · exact .inl (.inl h)
      · rcases Nat.lt_or_ge j n with h3 | h3
        · exact .inl (.inr ⟨j, h3, h2⟩)
        · obtain rfl : j = n := by omega
          exact .inr h2
theorem start_le (ms : List S40) : ∀ (n j : Nat), j ≤ n → n ≤ ms.length → startM ms j ≤ startM ms n
  | 0, j, h, _ => by obtain rfl : j = 0 := by omega
                     exact Nat.le_refl _
  | n + 1, j, h, hn => by
    rcases Nat.lt_or_ge n j with h1 | h1
    · obtain rfl : j = n + 1 := by omega
      exact Nat.le_refl _
    · have := start_le ms n j h1 (by omega)
      rw [startM_succ ms n (by omega)]
      omega
theorem from_eq (ms : List S40) (cut j : Nat) (h : startM ms j < cut) (h' : cut < startM ms (j + 1)) : ∀ n, j < n → n ≤ ms.length → from' ms cut n = startM ms j
  | n + 1, hj, hn => by
    unfold from'
    rcases Nat.lt_or_ge j n with h1 | h1
    · have := start_le ms n (j + 1) (by omega) (by omega)
      rw [if_neg (by omega), from_eq ms cut j h h' n h1 (by omega)]
    · obtain rfl : n = j := by omega
      rw [if_pos (by omega)]
theorem find_start (ms : List S40) (cut : Nat) : ∀ n, n ≤ ms.length → 4 ≤ cut → cut < startM ms n → ∃ j, j < n ∧ startM ms j ≤ cut ∧ cut < startM ms (j + 1)
  | 0, _, h, h' => by simp [startM, movesB] at h'; omega
  | n + 1, hn, h, h' => by
    rcases Nat.lt_or_ge cut (startM ms n) with h1 | h1
    · obtain ⟨j, h2, h3⟩ := find_start ms cut n (by omega) h h1
      exact ⟨j, by omega, h3⟩
    · exact ⟨n, by omega, h1, h'⟩
theorem cut_dec (c0 c1 c2 c3 : Int) (h0 : 0 ≤ c0 ∧ c0 < 256) (h1 : 0 ≤ c1 ∧ c1 < 256) (h2 : 0 ≤ c2 ∧ c2 < 256) (h3 : 0 ≤ c3 ∧ c3 < 256) (hc : confR c0 c1 c2 c3 = true) (ms : List S40) (hall : ∀ m ∈ ms, rightM m = true ∧ okV m) (hm : ms.length ≤ 100) (cut : Nat) (h4 : 4 ≤ cut) (hs : cut ≤ startM ms ms.length) :
    (whole ms cut (startM ms ms.length) ms.length = true ∧ ∃ ms', code_Decode.f 400 (([c0, c1, c2, c3] ++ movesB ms).take cut) = some (c0, c1, c2, c3, ms', (cut : Int), 0)) ∨
    (whole ms cut (startM ms ms.length) ms.length = false ∧ code_Decode.f 400 (([c0, c1, c2, c3] ++ movesB ms).take cut) = some (0, 0, 0, 0, [], from' ms cut ms.length, 3)) := by
  cases hw : whole ms cut (startM ms ms.length) ms.length with
  | true =>
    refine .inl ⟨rfl, ?_⟩
    rcases (whole_iff _ _ _ _).1 hw with h | ⟨j, hj, h⟩
    · have : cut = startM ms ms.length := by omega
      subst this
      exact ⟨_, dec_whole c0 c1 c2 c3 h0 h1 h2 h3 hc ms hall hm _ (Nat.le_refl _)⟩
    · have : cut = startM ms j := by omega
      subst this
      exact ⟨_, dec_whole c0 c1 c2 c3 h0 h1 h2 h3 hc ms hall hm _ (by omega)⟩
  | false =>
    refine .inr ⟨rfl, ?_⟩
    have hn : ∀ j, j < ms.length → startM ms j ≠ cut := fun j hj he => by
      have := (whole_iff ms cut (startM ms ms.length) ms.length).2 (.inr ⟨j, hj, by omega⟩)
      rw [hw] at this
      simp at this
    have he : cut ≠ startM ms ms.length := fun he => by
      have := (whole_iff ms cut (startM ms ms.length) ms.length).2 (.inl (by omega))
      rw [hw] at this
      simp at this
    obtain ⟨j, hj, hlo, hhi⟩ := find_start ms cut ms.length (Nat.le_refl _) h4 (by omega)
    have hlo' : startM ms j < cut := by have := hn j hj; omega
    rw [dec_within c0 c1 c2 c3 h0 h1 h2 h3 hc ms hall hm j cut hj hlo' hhi, from_eq ms cut j hlo' hhi ms.length hj (Nat.le_refl _)]
end Go.Proofs.Ytiladkalijonbaa
