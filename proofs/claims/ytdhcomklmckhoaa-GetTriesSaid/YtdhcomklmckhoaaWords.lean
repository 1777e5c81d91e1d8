/- All places' words, as the statements of get read them (words). Conditions: a Right layout. -/
import Derived.Test.YtdhcomklmckhoaaThing
import Derived.Test.YtdhcomklmckhoaaPickRow
namespace Go.Proofs.Ytdhcomklmckhoaa
open Go.RowKit Go.SepYtdhcomklmckhoaa
set_option linter.unusedSimpArgs false
set_option linter.unusedVariables false
set_option maxRecDepth 100000
set_option maxHeartbeats 1000000
theorem u64Info : ∃ q z, Try.prog.info? 31 = some q ∧ q.zero = some z ∧ q.size = 1 ∧ q.bytes = 8 ∧ z.cells.size = 1 := ⟨_, _, rfl, rfl, rfl, rfl, rfl⟩
theorem wordsM_len (c : ConfM) (m : MemM) : (wordsM c m).length = c.all.toNat := by simp [wordsM]
theorem wordsM_wf (c : ConfM) {m : MemM} (hm : m.wf) : wfs (wordsM c m) := by
  intro x hx
  obtain ⟨i, _, rfl⟩ := List.mem_map.1 hx
  exact MemM.peek_wf hm _
theorem wordsM_at (c : ConfM) (m : MemM) (i : Nat) (h : i < c.all.toNat) : (wordsM c m)[i]? = some (m.peek i) := by
  simp [wordsM, h]
theorem getI_words (c : ConfM) (m : MemM) (i : Int) (h0 : 0 ≤ i) (h1 : i < c.all) : getI (wordsM c m) i = m.peek i := by
  unfold getI
  rw [List.getD_eq_getElem?_getD, wordsM_at c m i.toNat (by omega)]
  show m.peek (i.toNat : Int) = _
  rw [Int.toNat_of_nonneg h0]
theorem u64_one (l : List Int) : ∀ u ∈ l.map (Value.int .u64), u.oneCell' = true := by
  intro u hu
  obtain ⟨x, _, rfl⟩ := List.mem_map.1 hu
  rfl
def wordsN (m : MemM) (n : Nat) : List Int := (List.range n).map (fun (i : Nat) => m.peek (i : Int))
theorem wordsN_succ (m : MemM) (n : Nat) : wordsN m (n + 1) = wordsN m n ++ [m.peek n] := by simp [wordsN, List.range_succ]
section
variable {E w : World} {L : List SA}
theorem words_calls (c : ConfM) (hc : c.ok) (b : Nat) (m : MemM) (h : sat E w (memA b m :: L)) :
    Calls Try.prog 12 #[.agg #[.int .i64 c.th, .int .i64 c.sl, .int .i64 c.src, .int .i64 c.dl], .pointer (some ⟨b, 0, none⟩)] w fun e w' => ∃ p1 c1, e = .returned (.slice p1 c.all.toNat c1) ∧ sat E w' (rowA (.slice p1 c.all.toNat c1) 31 1 c.all.toNat (u64s (wordsM c m)) :: memA b m :: L) := by
  have K := Lib.hid h
  clear h
  have AL := fun w => Lib.hid (all_calls c w hc)
  have WC := fun i w => Lib.hid (word_calls c w i)
  have PK := fun i w (M : List SA) (h : sat E w (memA b m :: M)) => Lib.hid (peek_calls b m i h)
  obtain ⟨al0, al1⟩ := hc.all_bd
  go_enter Try.func12, Try.ntmps12
  go_wp2_with (first | ((with_reducible refine at_box ?_); refine st_boxf K.out rfl rfl (fun _ => rfl) ?_; intro gc w1 K1; have K2 := Lib.hid K1; clear K1 K; (try clear a0); (try clear l0); (try clear a1); (try clear l1); (try clear a2); (try clear l2); have K := K2; clear K2; have a0 := K.out.rd 0 rfl; have l0 := K.out.ltp 0 rfl))
  have KE := sat.row_empty (e := 31) (size := 1) K.out
  clear K
  have K := Lib.hid (KE.swap)
  clear KE
  go_loopg [5, 6] c.all.toNat (fun gk v i w' => ∃ (n : Nat) (p1 : Option Addr) (c1 : Nat), n + gk = c.all.toNat ∧ v = .slice p1 n c1 ∧ i = .int .i64 n ∧ sat E w' (pt gc (.cells #[.int .i64 c.th, .int .i64 c.sl, .int .i64 c.src, .int .i64 c.dl] 28 (0, 0)) :: rowA (.slice p1 n c1) 31 1 n (u64s (wordsN m n)) :: memA b m :: L))
  case atStart => exact ⟨0, _, _, by simp, rfl, rfl, K.out⟩
  case round =>
    obtain ⟨n, p1, c1, hn, rfl, rfl, hs⟩ := hrel
    clear K
    have K := Lib.hid hs
    clear hs
    have a0 := K.out.rd 0 rfl
    have l0 := K.out.ltp 0 rfl
    have HN := Lib.hid hn
    by_cases h1 : (n : Int) < c.all
    · have d1 : decide ((n : Int) < c.all) = true := by simpa using h1
      have WN := fun w => WC n w
      have PN := fun w M h => PK n w M h
      obtain ⟨gk', rfl⟩ : ∃ g', gk = g' + 1 := ⟨gk - 1, by omega⟩
      have EN := Lib.hid (show u64s (wordsN m (n + 1)) = u64s (wordsN m n) ++ [.int .u64 (m.peek n)] by rw [wordsN_succ]; simp [u64s])
      generalize m.peek n = x at *
      have hn4 : n < 4096 := by omega
      clear hn h1 WC PK
      go_wp2_with (first | (go_at_call 9; (with_reducible refine ((AL _).out).mono ?_); rintro e w1 ⟨rfl, hb⟩; have K1 := sat.grown (by repeat (with_reducible first | exact K.out | apply sat.alloc_any | apply sat.drew | apply sat.drewN)) hb; clear hb; have K2 := Lib.hid K1; clear K1 K; (try clear a0); (try clear l0); (try clear a1); (try clear l1); (try clear a2); (try clear l2); have K := K2; clear K2; have a0 := K.out.rd 0 rfl; have l0 := K.out.ltp 0 rfl) | (go_at_call 23; (with_reducible refine ((WN _).out).mono ?_); rintro e w1 ⟨rfl, hb⟩; have K1 := sat.grown (by repeat (with_reducible first | exact K.out | apply sat.alloc_any | apply sat.drew | apply sat.drewN)) hb; clear hb; have K2 := Lib.hid K1; clear K1 K; (try clear a0); (try clear l0); (try clear a1); (try clear l1); (try clear a2); (try clear l2); have K := K2; clear K2; have a0 := K.out.rd 0 rfl; have l0 := K.out.ltp 0 rfl) | (go_at_call 13; (with_reducible refine (PN _ _ (K.out.pick 2 rfl)).out.mono ?_); rintro e w1 ⟨rfl, rfl⟩) | ((with_reducible refine at_append ?_); refine st_append_new 1 31 1 8 Try.underlying36 u64Info K.out rfl rfl rfl rfl ?_ Nat.one_pos ?_ ?_ ?_; (· simp [Value.oneCell']); (· simp only [maxLen]; omega); (· omega); intro p2 n2 c2 w1 K1; simp only [List.set] at K1; have K2 := Lib.hid K1; clear K1 K; (try clear a0); (try clear l0); (try clear a1); (try clear l1); (try clear a2); (try clear l2); have K := K2; clear K2; have a0 := K.out.rd 0 rfl; have l0 := K.out.ltp 0 rfl))
      go_roundg gk'
      case measure => omega
      case rel => exact ⟨n + 1, p2, c2, by have := HN.out; omega, by obtain ⟨q, _⟩ := Go.SepYtdhcomklmckhoaa.row_len (show sat E _ (rowA (.slice p2 n2 c2) _ _ _ _ :: _) from K.out.pick 1 rfl); subst q; rfl, by simp, by rw [EN.out]; obtain ⟨q, _⟩ := Go.SepYtdhcomklmckhoaa.row_len (show sat E _ (rowA (.slice p2 n2 c2) _ _ _ _ :: _) from K.out.pick 1 rfl); subst q; exact K.out⟩
    · have d1 : decide ((n : Int) < c.all) = false := by simpa using h1
      have E1 := Lib.hid (show n = c.all.toNat by omega)
      have W1 := Lib.hid (show wordsN m c.all.toNat = wordsM c m from rfl)
      clear hn h1
      go_wp2_with (first | (go_at_call 9; (with_reducible refine ((AL _).out).mono ?_); rintro e w1 ⟨rfl, hb⟩; have K1 := sat.grown (by repeat (with_reducible first | exact K.out | apply sat.alloc_any | apply sat.drew | apply sat.drewN)) hb; clear hb; have K2 := Lib.hid K1; clear K1 K; (try clear a0); (try clear l0); (try clear a1); (try clear l1); (try clear a2); (try clear l2); have K := K2; clear K2; have a0 := K.out.rd 0 rfl; have l0 := K.out.ltp 0 rfl))
      go_ret
      have q := E1.out
      subst q
      exact ⟨p1, c1, rfl, by rw [← W1.out]; exact K.out.drop⟩
end
end Go.Proofs.Ytdhcomklmckhoaa
