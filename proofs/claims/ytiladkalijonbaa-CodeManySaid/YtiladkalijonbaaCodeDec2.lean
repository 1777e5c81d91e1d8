/- A script out of bytes (Decode), in plain Lean: what is written is read again, and what is read was written so. No program; bytes within their kind. -/
import Derived.Test.YtiladkalijonbaaCodeDec
namespace Go.Proofs.Ytiladkalijonbaa
open Go.RowKit Go.Proofs.YtiladkalijonbaaW.PrintWords Go.Proofs.YtiladkalijonbaaW.PrintLast Go.Proofs.YtiladkalijonbaaW.PrintMore
open Go.Proofs.Ytiladkalijonbaa.PCodeCuts
set_option linter.unusedSimpArgs false
set_option linter.unusedVariables false
set_option maxRecDepth 100000
def isB (l : List Int) : Prop := ∀ x ∈ l, 0 ≤ x ∧ x < 256
def okV (m : S40) : Prop := 0 ≤ m.f2.f2 ∧ m.f2.f2 < 18446744073709551616
theorem flags_eq (ck ce : Int) (hk : ck = 0 ∨ ck = 1) (he : ce = 0 ∨ ce = 1) : Go.bits .or .u8 (ck % 256) (((ce % 256) * 2) % 256) = ck + 2 * ce := by
  rcases hk with rfl | rfl <;> rcases he with rfl | rfl <;> decide
theorem take2 (l : List Int) (h : 2 ≤ l.length) : l.take 2 = [rd l 0, rd l 1] := by
  match l, h with
  | a :: b :: t, _ => simp [rd]
theorem take3 (l : List Int) (h : 3 ≤ l.length) : l.take 3 = [rd l 0, rd l 1, rd l 2] := by
  match l, h with
  | a :: b :: c :: t, _ => simp [rd]
theorem take4 (l : List Int) (h : 4 ≤ l.length) : l.take 4 = [rd l 0, rd l 1, rd l 2, rd l 3] := by
  match l, h with
  | a :: b :: c :: d :: t, _ => simp [rd]
theorem take11 (l : List Int) (h : 11 ≤ l.length) : l.take 11 = [rd l 0, rd l 1, rd l 2, rd l 3, rd l 4, rd l 5, rd l 6, rd l 7, rd l 8, rd l 9, rd l 10] := by
  match l, h with
  | a :: b :: c :: d0 :: d1 :: d2 :: d3 :: d4 :: d5 :: d6 :: d7 :: t, _ => simp [rd]
theorem num8_bd (l : List Int) (hb : isB l) : 0 ≤ num8 l ∧ num8 l < 18446744073709551616 := by
  have b3 := rd_bd l hb 3
  have b4 := rd_bd l hb 4
  have b5 := rd_bd l hb 5
  have b6 := rd_bd l hb 6
  have b7 := rd_bd l hb 7
  have b8 := rd_bd l hb 8
  have b9 := rd_bd l hb 9
  have b10 := rd_bd l hb 10
  unfold num8 numM
  omega
/-- What bytes begin with was written so. -/
theorem one_sound (l : List Int) (hb : isB l) : oneM l = none8 ∨ ∃ (m : S40) (n : Nat), 0 < n ∧ n ≤ l.length ∧ oneM l = oneT m n ∧ rightM m = true ∧ okV m ∧ l.take n = bytesM m := by
  have b0 := rd_bd l hb 0
  have b1 := rd_bd l hb 1
  have b2 := rd_bd l hb 2
  have b3 := rd_bd l hb 3
  unfold oneM
  by_cases c1 : 2 ≤ l.length ∧ rd l 0 = 1
  · rw [if_pos c1]
    unfold fin1
    rw [if_neg (by omega)]
    by_cases hr : rightM ⟨1, rd l 1, ⟨0, 0, 0, 0⟩, 0⟩ = true
    · rw [if_pos hr]
      refine .inr ⟨_, 2, by omega, c1.1, rfl, hr, (by unfold okV; dsimp only; omega), ?_⟩
      rw [take2 l c1.1, c1.2]
      unfold bytesM
      dsimp only
      rw [if_pos rfl]
      simp; omega
    · rw [if_neg hr]; exact .inl rfl
  rw [if_neg c1]
  by_cases c2 : 3 ≤ l.length ∧ rd l 0 = 2
  · rw [if_pos c2]
    unfold fin1
    rw [if_neg (by omega)]
    by_cases hr : rightM ⟨2, 0, ⟨0, 0, 0, 0⟩, rd l 1 + rd l 2 * 256⟩ = true
    · rw [if_pos hr]
      refine .inr ⟨_, 3, by omega, c2.1, rfl, hr, (by unfold okV; dsimp only; omega), ?_⟩
      rw [take3 l c2.1, c2.2]
      unfold bytesM
      dsimp only
      rw [if_neg (by decide), if_pos rfl]
      simp; omega
    · rw [if_neg hr]; exact .inl rfl
  rw [if_neg c2]
  by_cases c3 : 4 ≤ l.length ∧ rd l 0 = 0 ∧ rd l 2 % 2 = 1
  · rw [if_pos c3]
    unfold fin1
    rw [if_pos (by omega)]
    by_cases h3 : rd l 2 > 3
    · rw [if_pos h3]; exact .inl rfl
    · rw [if_neg h3]
      by_cases hr : rightM ⟨0, rd l 1, ⟨1, rd l 2 / 2, 0, rd l 3⟩, 0⟩ = true
      · rw [if_pos hr]
        refine .inr ⟨_, 4, by omega, c3.1, rfl, hr, (by unfold okV; dsimp only; omega), ?_⟩
        rw [take4 l c3.1, c3.2.1]
        unfold bytesM flagsM
        dsimp only
        rw [if_neg (by decide), if_neg (by decide), if_neg (by decide), flags_eq 1 _ (.inr rfl) (by omega)]
        simp
        refine ⟨?_, ?_, ?_⟩ <;> omega
      · rw [if_neg hr]; exact .inl rfl
  rw [if_neg c3]
  by_cases c4 : 11 ≤ l.length ∧ rd l 0 = 0
  · rw [if_pos c4]
    unfold fin1
    rw [if_pos (by omega)]
    by_cases h3 : rd l 2 > 3
    · rw [if_pos h3]; exact .inl rfl
    · rw [if_neg h3]
      by_cases hr : rightM ⟨0, rd l 1, ⟨0, rd l 2 / 2, num8 l, 0⟩, 0⟩ = true
      · rw [if_pos hr]
        refine .inr ⟨_, 11, by omega, c4.1, rfl, hr, num8_bd l hb, ?_⟩
        have hev : rd l 2 % 2 = 0 := by have : ¬ rd l 2 % 2 = 1 := fun h => c3 ⟨by omega, c4.2, h⟩; omega
        rw [take11 l c4.1, c4.2]
        unfold bytesM flagsM
        dsimp only
        rw [if_neg (by decide), if_neg (by decide), if_pos rfl, flags_eq 0 _ (.inl rfl) (by omega)]
        unfold num8
        rw [val_num _ _ _ _ _ _ _ _ (rd_bd l hb 3) (rd_bd l hb 4) (rd_bd l hb 5) (rd_bd l hb 6) (rd_bd l hb 7) (rd_bd l hb 8) (rd_bd l hb 9) (rd_bd l hb 10)]
        simp
        refine ⟨?_, ?_⟩ <;> omega
      · rw [if_neg hr]; exact .inl rfl
  · rw [if_neg c4]; exact .inl rfl
/-- What is written is read again. -/
theorem one_complete (m : S40) (hr : rightM m = true) (hv : okV m) (rest : List Int) : oneM (bytesM m ++ rest) = oneT m (bytesM m).length := by
  obtain ⟨k, who, ⟨ck, ce, cv, cs⟩, n⟩ := m
  have hf := right_facts _ hr
  simp only [S38.mk.injEq] at hf
  unfold okV at hv
  dsimp only at hv
  rcases hf with ⟨rfl, h1, h2, rfl, he, h4⟩ | ⟨rfl, h1, h2, rfl, rfl, rfl, rfl, rfl⟩ | ⟨rfl, rfl, ⟨rfl, rfl, rfl, rfl⟩, h1, h2⟩
  · rcases h4 with ⟨rfl, rfl⟩ | ⟨rfl, rfl, h5, h6⟩
    · have e : bytesM ⟨0, who, ⟨0, ce, cv, 0⟩, 0⟩ = [0, who, 2 * ce] ++ valB cv 8 := by
        unfold bytesM flagsM
        dsimp only
        rw [if_neg (by decide), if_neg (by decide), if_pos rfl, flags_eq 0 _ (.inl rfl) he, Int.emod_eq_of_lt (by omega) (by omega)]
        simp
      rw [e, valB_eq]
      have hn : num8 (([0, who, 2 * ce] ++ [cv % 256, cv / 256 % 256, cv / 65536 % 256, cv / 16777216 % 256, cv / 4294967296 % 256, cv / 1099511627776 % 256, cv / 281474976710656 % 256, cv / 72057594037927936 % 256]) ++ rest) = cv := by
        unfold num8
        simp only [rd, List.cons_append, List.nil_append]
        exact num_val cv hv
      unfold oneM
      rw [if_neg (by simp [rd]), if_neg (by simp [rd]), if_neg (by simp [rd]), if_pos (by first | (simp [rd]; done) | (simp [rd]; omega)), hn]
      unfold fin1
      have r2 : rd (([0, who, 2 * ce] ++ [cv % 256, cv / 256 % 256, cv / 65536 % 256, cv / 16777216 % 256, cv / 4294967296 % 256, cv / 1099511627776 % 256, cv / 281474976710656 % 256, cv / 72057594037927936 % 256]) ++ rest) 2 = 2 * ce := rfl
      have r1 : rd (([0, who, 2 * ce] ++ [cv % 256, cv / 256 % 256, cv / 65536 % 256, cv / 16777216 % 256, cv / 4294967296 % 256, cv / 1099511627776 % 256, cv / 281474976710656 % 256, cv / 72057594037927936 % 256]) ++ rest) 1 = who := rfl
      rw [if_pos (by omega), r2, r1, if_neg (by omega), show 2 * ce / 2 = ce by omega]
      dsimp only
      rw [if_pos hr]
      rfl
    · have e : bytesM ⟨0, who, ⟨1, ce, 0, cs⟩, 0⟩ = [0, who, 1 + 2 * ce, cs] := by
        unfold bytesM flagsM
        dsimp only
        rw [if_neg (by decide), if_neg (by decide), if_neg (by decide), flags_eq 1 _ (.inr rfl) he, Int.emod_eq_of_lt (by omega) (by omega), Int.emod_eq_of_lt (by omega) (by omega)]
      rw [e]
      have r0 : rd ([0, who, 1 + 2 * ce, cs] ++ rest) 0 = 0 := rfl
      have r1 : rd ([0, who, 1 + 2 * ce, cs] ++ rest) 1 = who := rfl
      have r2 : rd ([0, who, 1 + 2 * ce, cs] ++ rest) 2 = 1 + 2 * ce := rfl
      have r3 : rd ([0, who, 1 + 2 * ce, cs] ++ rest) 3 = cs := rfl
      unfold oneM fin1
      rw [r0, r1, r2, r3, if_neg (by omega), if_neg (by omega), if_pos ⟨by simp, rfl, by omega⟩, if_pos (by omega), if_neg (by omega), show (1 + 2 * ce) / 2 = ce by omega]
      dsimp only
      rw [if_pos hr]
      rfl
  · have e : bytesM ⟨1, who, ⟨0, 0, 0, 0⟩, 0⟩ = [1, who] := by
      unfold bytesM
      dsimp only
      rw [if_pos rfl, Int.emod_eq_of_lt (by omega) (by omega)]
    rw [e]
    have r0 : rd ([1, who] ++ rest) 0 = 1 := rfl
    have r1 : rd ([1, who] ++ rest) 1 = who := rfl
    unfold oneM fin1
    rw [r0, r1, if_pos ⟨by simp, rfl⟩, if_neg (by omega), if_pos hr]
    rfl
  · have e : bytesM ⟨2, 0, ⟨0, 0, 0, 0⟩, n⟩ = [2, n % 256, n / 256] := by
      unfold bytesM
      dsimp only
      rw [if_neg (by decide), if_pos rfl, Int.emod_eq_of_lt (a := n / 256) (by omega) (by omega)]
    rw [e]
    have r0 : rd ([2, n % 256, n / 256] ++ rest) 0 = 2 := rfl
    have r1 : rd ([2, n % 256, n / 256] ++ rest) 1 = n % 256 := rfl
    have r2 : rd ([2, n % 256, n / 256] ++ rest) 2 = n / 256 := rfl
    unfold oneM fin1
    rw [r0, r1, r2, if_neg (by omega), if_pos ⟨by simp, rfl⟩, if_neg (by omega), show n % 256 + n / 256 * 256 = n by omega, if_pos hr]
    rfl
theorem isB_drop {l : List Int} (h : isB l) (n : Nat) : isB (l.drop n) := fun x hx => h x (List.mem_of_mem_drop hx)
theorem isB_take {l : List Int} (h : isB l) (n : Nat) : isB (l.take n) := fun x hx => h x (List.mem_of_mem_take hx)
theorem movesB_cons (m : S40) (ms : List S40) : movesB (m :: ms) = bytesM m ++ movesB ms := rfl
/-- What is read was written so, up to where nothing more can be read. -/
theorem dec_sound (x0 : List Int) (hb : isB x0) (a b c d : Int) (hx : x0.length ≤ 50000) : ∀ (N at' : Nat) (acc : List S40) (k : Nat), x0.length - at' ≤ N → at' ≤ x0.length → acc.length + (x0.length - at') ≤ 50000 → N + 30 ≤ k →
    ∃ (ms : List S40) (r : List Int), (∀ m ∈ ms, rightM m = true ∧ okV m) ∧ x0.drop at' = movesB ms ++ r ∧
      ((r = [] ∧ code_Decode.l0 k x0 at' a b c d acc = some (a, b, c, d, acc ++ ms, (x0.length : Int), 0)) ∨
       (r ≠ [] ∧ code_Decode.l0 k x0 at' a b c d acc = some (0, 0, 0, 0, [], ((at' + (movesB ms).length : Nat) : Int), 3)))
  | N, at', acc, k, hN, hat, hacc, hk => by
    obtain ⟨j, rfl⟩ : ∃ j, k = j + 1 := ⟨k - 1, by omega⟩
    by_cases h : at' < x0.length
    · unfold code_Decode.l0
      rw [if_pos (by omega), if_pos (by omega), if_pos (by omega), Int.toNat_natCast, one_f _ (isB_drop hb at') (by omega), Option.bind_some]
      rcases one_sound (x0.drop at') (isB_drop hb at') with he | ⟨m, n, n0, nl, he, hr, hv, ht⟩
      · rw [he]
        refine ⟨[], x0.drop at', by simp, rfl, .inr ⟨?_, ?_⟩⟩
        · intro hd
          have := congrArg List.length hd
          simp at this
          omega
        · rw [if_pos (by rfl)]
          simp [movesB]
      · rw [he]
        rw [List.length_drop] at nl
        have hne : ¬ (oneT m n).2.2.2.2.2.2.2 = 0 := by show ¬ (n : Int) = 0; omega
        rw [if_neg hne, if_neg (by omega), if_pos (by omega)]
        have hnn : (oneT m n).2.2.2.2.2.2.2 = (n : Int) := rfl
        have e1 : ((⟨(oneT m n).1, (oneT m n).2.1, (⟨(oneT m n).2.2.1, (oneT m n).2.2.2.1, (oneT m n).2.2.2.2.1, (oneT m n).2.2.2.2.2.1⟩ : S38), (oneT m n).2.2.2.2.2.2.1⟩ : S40)) = m := rfl
        rw [hnn, e1, w64e (by omega) (by omega), show (at' : Int) + (n : Int) = ((at' + n : Nat) : Int) by omega]
        match N, hN with
        | 0, hN => omega
        | N + 1, hN =>
          obtain ⟨ms, r, h1, h2, h3⟩ := dec_sound x0 hb a b c d hx N (at' + n) (acc ++ [m]) j (by omega) (by omega) (by simp; omega) (by omega)
          have hbl : (bytesM m).length = n := by rw [← ht, List.length_take, List.length_drop]; omega
          refine ⟨m :: ms, r, ?_, ?_, ?_⟩
          · intro y hy
            rcases List.mem_cons.1 hy with rfl | hy
            · exact ⟨hr, hv⟩
            · exact h1 y hy
          · rw [movesB_cons, List.append_assoc, ← h2, ← ht, ← List.drop_drop, List.take_append_drop]
          · rcases h3 with ⟨hr0, h3⟩ | ⟨hr0, h3⟩
            · refine .inl ⟨hr0, ?_⟩
              rw [h3]
              simp
            · refine .inr ⟨hr0, ?_⟩
              rw [h3, movesB_cons, List.length_append, hbl, Nat.add_assoc]
    · have e : at' = x0.length := by omega
      subst e
      refine ⟨[], [], by simp, by simp [movesB], .inl ⟨rfl, ?_⟩⟩
      unfold code_Decode.l0
      rw [if_neg (by omega)]
      simp
/-- What is written is read again. -/
theorem dec_complete (pre : List Int) (a b c d : Int) : ∀ (ms : List S40) (at' : List Int) (acc : List S40) (k : Nat), (∀ m ∈ ms, rightM m = true ∧ okV m) → isB (pre ++ movesB ms) → acc.length + ms.length ≤ 65536 → pre.length + (movesB ms).length ≤ 100000000 → at' = pre → ms.length + 25 ≤ k →
    code_Decode.l0 k (pre ++ movesB ms) (pre.length : Int) a b c d acc = some (a, b, c, d, acc ++ ms, ((pre ++ movesB ms).length : Int), 0) := by
  intro ms
  induction ms generalizing pre with
  | nil =>
    intro at' acc k _ _ _ _ _ hk
    obtain ⟨j, rfl⟩ : ∃ j, k = j + 1 := ⟨k - 1, by omega⟩
    unfold code_Decode.l0
    rw [if_neg (by simp [movesB])]
    simp
  | cons m ms ih =>
    intro at' acc k hall hb hacc hlen hat hk
    obtain ⟨j, rfl⟩ : ∃ j, k = j + 1 := ⟨k - 1, by omega⟩
    obtain ⟨hr, hv⟩ := hall m List.mem_cons_self
    have hp := bytesM_pos m
    have hle := bytesM_len m
    simp only [List.length_cons] at hacc hk
    unfold code_Decode.l0
    rw [movesB_cons] at hb hlen ⊢
    rw [List.length_append] at hlen
    rw [if_pos (by simp; omega), if_pos (by omega), if_pos (by simp; omega), Int.toNat_natCast, List.drop_left, one_f _ (fun x hx => hb x (List.mem_append_right _ hx)) (by omega), Option.bind_some, one_complete m hr hv]
    have hne : ¬ (oneT m ((bytesM m).length : Int)).2.2.2.2.2.2.2 = 0 := by show ¬ ((bytesM m).length : Int) = 0; omega
    rw [if_neg hne, if_neg (by omega), if_pos (by omega)]
    have hnn : (oneT m ((bytesM m).length : Int)).2.2.2.2.2.2.2 = ((bytesM m).length : Int) := rfl
    have e1 : ((⟨(oneT m ((bytesM m).length : Int)).1, (oneT m ((bytesM m).length : Int)).2.1, (⟨(oneT m ((bytesM m).length : Int)).2.2.1, (oneT m ((bytesM m).length : Int)).2.2.2.1, (oneT m ((bytesM m).length : Int)).2.2.2.2.1, (oneT m ((bytesM m).length : Int)).2.2.2.2.2.1⟩ : S38), (oneT m ((bytesM m).length : Int)).2.2.2.2.2.2.1⟩ : S40)) = m := rfl
    rw [hnn, e1, w64e (by omega) (by omega)]
    have := ih (pre ++ bytesM m) (pre ++ bytesM m) (acc ++ [m]) j (fun y hy => hall y (List.mem_cons_of_mem _ hy)) (by rw [List.append_assoc]; exact hb) (by simp; omega) (by simp; omega) rfl (by omega)
    have e2 : ((pre ++ bytesM m).length : Int) = (pre.length : Int) + ((bytesM m).length : Int) := by simp
    simp only [List.append_assoc] at this
    rw [e2] at this
    rw [this]
    simp
/-- The four bytes of a layout. -/
theorem head4 (b : List Int) (h : 4 ≤ b.length) : b = [rd b 0, rd b 1, rd b 2, rd b 3] ++ b.drop 4 := by
  match b, h with
  | x :: y :: z :: u :: t, _ => simp [rd]
theorem dec_complete_f (c0 c1 c2 c3 : Int) (h0 : 0 ≤ c0 ∧ c0 < 256) (h1 : 0 ≤ c1 ∧ c1 < 256) (h2 : 0 ≤ c2 ∧ c2 < 256) (h3 : 0 ≤ c3 ∧ c3 < 256) (hc : confR c0 c1 c2 c3 = true) (ms : List S40) (hall : ∀ m ∈ ms, rightM m = true ∧ okV m) (hb : isB (movesB ms)) (hm : ms.length ≤ 65536) {k : Nat} (hk : ms.length + 25 ≤ k) :
    code_Decode.f k ([c0, c1, c2, c3] ++ movesB ms) = some (c0, c1, c2, c3, ms, (([c0, c1, c2, c3] ++ movesB ms).length : Int), 0) := by
  have hl := movesB_len ms
  unfold code_Decode.f
  rw [if_neg (by simp; omega), if_pos (by simp; omega), if_pos (by simp; omega), if_pos (by simp; omega), if_pos (by simp; omega)]
  have r0 : rd ([c0, c1, c2, c3] ++ movesB ms) 0 = c0 := rfl
  have r1 : rd ([c0, c1, c2, c3] ++ movesB ms) 1 = c1 := rfl
  have r2 : rd ([c0, c1, c2, c3] ++ movesB ms) 2 = c2 := rfl
  have r3 : rd ([c0, c1, c2, c3] ++ movesB ms) 3 = c3 := rfl
  rw [r0, r1, r2, r3, w64e (x := c0) (by omega) (by omega), w64e (x := c1) (by omega) (by omega), w64e (x := c2) (by omega) (by omega), w64e (x := c3) (by omega) (by omega), conf_f, hc, Option.bind_some, if_pos rfl]
  have := dec_complete [c0, c1, c2, c3] c0 c1 c2 c3 ms _ [] k hall (fun x hx => by
    rcases List.mem_append.1 hx with h | h
    · simp at h; rcases h with rfl | rfl | rfl | rfl <;> assumption
    · exact hb x h) (by simpa using hm) (by simp; omega) rfl hk
  exact this
theorem dec_f (b : List Int) (hb : isB b) (hl : b.length ≤ 300) {k : Nat} (hk : 400 ≤ k) :
    (b.length < 4 ∧ code_Decode.f k b = some (0, 0, 0, 0, [], (b.length : Int), 3)) ∨
    (4 ≤ b.length ∧ confR (rd b 0) (rd b 1) (rd b 2) (rd b 3) = false ∧ code_Decode.f k b = some (0, 0, 0, 0, [], 0, 1)) ∨
    (4 ≤ b.length ∧ confR (rd b 0) (rd b 1) (rd b 2) (rd b 3) = true ∧ ∃ ms, (∀ m ∈ ms, rightM m = true ∧ okV m) ∧ ms.length ≤ 300 ∧ b = [rd b 0, rd b 1, rd b 2, rd b 3] ++ movesB ms ∧ code_Decode.f k b = some (rd b 0, rd b 1, rd b 2, rd b 3, ms, (b.length : Int), 0)) ∨
    (4 ≤ b.length ∧ confR (rd b 0) (rd b 1) (rd b 2) (rd b 3) = true ∧ ∃ (ms : List S40) (n : Nat), (∀ m ∈ ms, rightM m = true ∧ okV m) ∧ ms.length ≤ 300 ∧ 4 ≤ n ∧ n < b.length ∧ b.take n = [rd b 0, rd b 1, rd b 2, rd b 3] ++ movesB ms ∧ code_Decode.f k b = some (0, 0, 0, 0, [], (n : Int), 3)) := by
  by_cases h4 : b.length < 4
  · refine .inl ⟨h4, ?_⟩
    unfold code_Decode.f
    rw [if_pos (by omega)]
  · have b0 := rd_bd b hb 0
    have b1 := rd_bd b hb 1
    have b2 := rd_bd b hb 2
    have b3 := rd_bd b hb 3
    have ef : code_Decode.f k b = if confR (rd b 0) (rd b 1) (rd b 2) (rd b 3) = true then code_Decode.l0 k b ((4 : Nat) : Int) (rd b 0) (rd b 1) (rd b 2) (rd b 3) [] else some (0, 0, 0, 0, [], 0, 1) := by
      unfold code_Decode.f
      rw [if_neg (by omega), if_pos (by omega), if_pos (by omega), if_pos (by omega), if_pos (by omega), w64e (x := rd b 0) (by omega) (by omega), w64e (x := rd b 1) (by omega) (by omega), w64e (x := rd b 2) (by omega) (by omega), w64e (x := rd b 3) (by omega) (by omega), conf_f, Option.bind_some]
      rfl
    cases hc : confR (rd b 0) (rd b 1) (rd b 2) (rd b 3) with
    | false =>
      rw [hc] at ef
      exact .inr (.inl ⟨by omega, rfl, by rw [ef]; rfl⟩)
    | true =>
      rw [hc, if_pos rfl] at ef
      obtain ⟨ms, r, h1, h2, h3⟩ := dec_sound b hb (rd b 0) (rd b 1) (rd b 2) (rd b 3) (by omega) b.length 4 [] k (by omega) (by omega) (by simp; omega) (by omega)
      have hh := head4 b (by omega)
      have hmm : ∀ ms : List S40, ms.length ≤ (movesB ms).length := fun ms => by
        induction ms with
        | nil => simp
        | cons m ms ih => rw [movesB_cons]; have := bytesM_pos m; simp; omega
      have hml := hmm ms
      have hdl := congrArg List.length h2
      rw [List.length_drop, List.length_append] at hdl
      rcases h3 with ⟨rfl, h3⟩ | ⟨hr, h3⟩
      · refine .inr (.inr (.inl ⟨by omega, rfl, ms, h1, by omega, ?_, ?_⟩))
        · rw [List.append_nil] at h2
          rw [← h2]
          exact hh
        · rw [ef, h3, List.nil_append]
      · have hrl : 0 < r.length := List.length_pos_iff.2 hr
        refine .inr (.inr (.inr ⟨by omega, rfl, ms, 4 + (movesB ms).length, h1, by omega, by omega, by omega, ?_, by rw [ef, h3]⟩))
        have h5 : b.take (4 + (movesB ms).length) = ([rd b 0, rd b 1, rd b 2, rd b 3] ++ b.drop 4).take (4 + (movesB ms).length) := by rw [← hh]
        rw [h5, h2, ← List.append_assoc]
        rw [List.take_left' (by simp; omega)]
end Go.Proofs.Ytiladkalijonbaa
