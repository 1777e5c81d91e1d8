/- Whether a cell may be touched so, as the auditor finds it. Conditions: a Right layout; numbers within their kinds. -/
import Derived.Test.YtiladkalijonbaaAuditWd
import Derived.Test.YtiladkalijonbaaAuditV
import Derived.Test.YtiladkalijonbaaAuditN
namespace Go.Proofs.Ytiladkalijonbaa
open Go.RowKit Go.SepYtiladkalijonbaa Go.Maps
set_option linter.unusedSimpArgs false
set_option linter.unusedVariables false
set_option maxRecDepth 100000
set_option maxHeartbeats 4000000
theorem kind_cases (c : ConfM) (hc : c.ok) (cell : Int) : (∃ n, kindM c cell = (0, n)) ∨ (kindM c cell = (1, cell) ∧ 0 ≤ cell ∧ cell < c.all) ∨ (∃ n, kindM c cell = (2, n) ∧ 0 ≤ n ∧ n < c.all) ∨ (∃ n, kindM c cell = (3, n)) ∨ (∃ n, kindM c cell = (4, n)) := by
  unfold kindM
  split
  · exact .inl ⟨_, rfl⟩
  · rename_i h1
    split
    · exact .inr (.inl ⟨rfl, by omega, by assumption⟩)
    · split
      · exact .inr (.inr (.inl ⟨_, rfl, by omega, by omega⟩))
      · split
        · exact .inr (.inr (.inr (.inl ⟨_, rfl⟩)))
        · exact .inr (.inr (.inr (.inr ⟨_, rfl⟩)))
/-- What the auditor notes of a word that was loaded. -/
noncomputable def seenUp (c : ConfM) (e : Ev) (g : Lit → Option Int) : Lit → Option Int := if (0 ≤ e.who ∧ e.who < c.th) ∧ (kindM c e.cell).1 = 1 ∧ e.op = 0 then updI g (pairKey e.who e.cell) (unpack e.old).gen else g
abbrev lastF (f : Lit → Option Int) : Int → Int := fun i => (f (.int .i64 i)).getD 0
section
variable {E w : World} {L : List SA}
theorem mayS {ge a bc bs : Nat} {e : Ev} {c : ConfM} {M : List SA} (h : sat E w (evA ge e :: audA a c bc bs :: M)) : (∀ j, w.cell? ⟨ge, j, none⟩ = e.v[j]?) ∧ (∀ j, w.cell? ⟨a, j, none⟩ = (audV c bc bs)[j]?) := ⟨h.rd 0 rfl, h.rd 1 rfl⟩
theorem mapd_calls (c : ConfM) (hc : c.ok) (a bc bs n m : Nat) (f g : Lit → Option Int) (hm : m ≤ 1000000) (e : Ev) (he : Ev.wf e)
    (hf : ∀ i, 0 ≤ (f (.int .i64 i)).getD 0 ∧ (f (.int .i64 i)).getD 0 < 18446744073709551616)
    (h : sat E w (audA a c bc bs :: cellsA bc n f :: seenA bs m g :: L)) :
    Calls Try.prog 25 #[.pointer (some ⟨a, 0, none⟩), .agg e.v.toArray] w fun r w' => r = .returned (.bool (mayM c (lastF f) (fun s => g (pairKey e.who s)) e)) ∧ sat E w' (audA a c bc bs :: cellsA bc n f :: seenA bs (m + 1) (seenUp c e g) :: L) := by
  have K := Lib.hid h
  have a0 := h.rd 0 rfl
  have l0 := h.ltp 0 rfl
  have MM := Lib.hid (show ∀ (w : World) (A : SA), sat E w (A :: audA a c bc bs :: cellsA bc n f :: seenA bs m g :: L) → sat E w (audA a c bc bs :: cellsA bc n f :: seenA bs (m + 1) g :: L) from fun _ _ h => (((h.drop.pick 2 rfl).mapI_mono (Nat.le_succ m)).uncab))
  clear h
  unfold mayM
  by_cases n1 : e.who < 0
  · have t1 : decide (e.who < 0) = true := by simpa using n1
    rw [if_pos (.inl n1), show seenUp c e g = g from if_neg (by omega)]
    clear n1 hf
    go_enter Try.func25, Try.ntmps25
    go_wp2_with (first | ((with_reducible refine at_box ?_); refine st_boxf K.out rfl rfl (fun _ => rfl) ?_; intro ge w1 K1; have K2 := Lib.hid K1; clear K1 K; (try clear a0); (try clear l0); (try clear a1); (try clear l1); (try clear a2); (try clear l2); have K := K2; clear K2; have a0 := K.out.rd 0 rfl; have l0 := K.out.ltp 0 rfl; have a1 := K.out.rd 1 rfl; have l1 := K.out.ltp 1 rfl))
    refine wp_region_noPanic ?_
    refine wp_region_held_drew (S := (fun w' => (∀ j, w'.cell? ⟨ge, j, none⟩ = e.v[j]?) ∧ (∀ j, w'.cell? ⟨a, j, none⟩ = (audV c bc bs)[j]?))) (by kernel_rfl) ?_ (fun hHeld => ?_)
    · ((try dsimp only); (refine mayS (E := E) (bs := bs) (M := cellsA bc n f :: seenA bs m g :: L) ?_; first | exact K.out | exact K.out.drew))
    refine tk 0 (some 7) ?_
    (try simp only [Act.put, p0, p1, p2])
    refine tk 1 (some 8) ?_
    (try simp only [Act.put, p0, p1, p2])
    refine tk 2 (some 9) ?_
    (try simp only [Act.put, p0, p1, p2])
    refine tk 3 (some 10) ?_
    (try simp only [Act.put, p0, p1, p2])
    refine sk 4 (some 11) ?_
    (try simp only [Act.put, p0, p1, p2])
    refine sk 5 (some 12) ?_
    (try simp only [Act.put, p0, p1, p2])
    refine sk 6 (some 13) ?_
    (try simp only [Act.put, p0, p1, p2])
    refine sk 7 (some 14) ?_
    (try simp only [Act.put, p0, p1, p2])
    refine sk 8 (some 15) ?_
    (try simp only [Act.put, p0, p1, p2])
    refine sk 9 (some 16) ?_
    (try simp only [Act.put, p0, p1, p2])
    refine sk 10 (some 17) ?_
    (try simp only [Act.put, p0, p1, p2])
    refine sk 11 (some 18) ?_
    (try simp only [Act.put, p0, p1, p2])
    refine tk 12 (some 19) ?_
    (try simp only [Act.put, p0, p1, p2])
    refine wpAnyH_done (by kernel_rfl) (NoPanic.normal ?_) _
    go_wp2
    go_ret
    exact ⟨rfl, MM.out _ _ K.out.drew⟩
  by_cases n2 : c.th ≤ e.who
  · have t1 : decide (e.who < 0) = false := by simpa using n1
    have t2 : decide (e.who ≥ c.th) = true := by simpa using n2
    rw [if_pos (.inr n2), show seenUp c e g = g from if_neg (by omega)]
    clear n1 n2 hf
    go_enter Try.func25, Try.ntmps25
    go_wp2_with (first | ((with_reducible refine at_box ?_); refine st_boxf K.out rfl rfl (fun _ => rfl) ?_; intro ge w1 K1; have K2 := Lib.hid K1; clear K1 K; (try clear a0); (try clear l0); (try clear a1); (try clear l1); (try clear a2); (try clear l2); have K := K2; clear K2; have a0 := K.out.rd 0 rfl; have l0 := K.out.ltp 0 rfl; have a1 := K.out.rd 1 rfl; have l1 := K.out.ltp 1 rfl))
    refine wp_region_noPanic ?_
    refine wp_region_held_drew (S := (fun w' => (∀ j, w'.cell? ⟨ge, j, none⟩ = e.v[j]?) ∧ (∀ j, w'.cell? ⟨a, j, none⟩ = (audV c bc bs)[j]?))) (by kernel_rfl) ?_ (fun hHeld => ?_)
    · ((try dsimp only); (refine mayS (E := E) (bs := bs) (M := cellsA bc n f :: seenA bs m g :: L) ?_; first | exact K.out | exact K.out.drew))
    refine tk 0 (some 7) ?_
    (try simp only [Act.put, p0, p1, p2])
    refine tk 1 (some 8) ?_
    (try simp only [Act.put, p0, p1, p2])
    refine tk 2 (some 9) ?_
    (try simp only [Act.put, p0, p1, p2])
    refine tk 3 (some 10) ?_
    (try simp only [Act.put, p0, p1, p2])
    refine tk 4 (some 11) ?_
    (try simp only [Act.put, p0, p1, p2])
    refine tk 5 (some 12) ?_
    (try simp only [Act.put, p0, p1, p2])
    refine tk 6 (some 13) ?_
    (try simp only [Act.put, p0, p1, p2])
    refine tk 7 (some 14) ?_
    (try simp only [Act.put, p0, p1, p2])
    refine tk 8 (some 15) ?_
    (try simp only [Act.put, p0, p1, p2])
    refine tk 9 (some 16) ?_
    (try simp only [Act.put, p0, p1, p2])
    refine tk 10 (some 17) ?_
    (try simp only [Act.put, p0, p1, p2])
    refine tk 11 (some 18) ?_
    (try simp only [Act.put, p0, p1, p2])
    refine tk 12 (some 19) ?_
    (try simp only [Act.put, p0, p1, p2])
    refine wpAnyH_done (by kernel_rfl) (NoPanic.normal ?_) _
    go_wp2
    go_ret
    exact ⟨rfl, MM.out _ _ K.out.drew⟩
  rw [if_neg (by omega)]
  have t1 : decide (e.who < 0) = false := by simpa using n1
  have t2 : decide (e.who ≥ c.th) = false := by simpa using n2
  have hw0 : 0 ≤ e.who := by omega
  have hw1 : e.who < c.th := by omega
  have KC := fun w' => Lib.hid (kind_calls c w' hc e.cell)
  rcases kind_cases c hc e.cell with ⟨k, hk⟩ | ⟨hk, k0, k1⟩ | ⟨k, hk, k0, k1⟩ | ⟨k, hk⟩ | ⟨k, hk⟩
  · rw [hk] at KC ⊢
    dsimp only at KC ⊢
    rw [show seenUp c e g = g from if_neg (by rw [hk]; simp)]
    clear n1 n2 hk
    
    go_enter Try.func25, Try.ntmps25
    go_wp2_with (first | ((with_reducible refine at_box ?_); refine st_boxf K.out rfl rfl (fun _ => rfl) ?_; intro ge w1 K1; have K2 := Lib.hid K1; clear K1 K; (try clear a0); (try clear l0); (try clear a1); (try clear l1); (try clear a2); (try clear l2); have K := K2; clear K2; have a0 := K.out.rd 0 rfl; have l0 := K.out.ltp 0 rfl; have a1 := K.out.rd 1 rfl; have l1 := K.out.ltp 1 rfl))
    refine wp_region_noPanic ?_
    refine wp_region_held_drew (S := (fun w' => (∀ j, w'.cell? ⟨ge, j, none⟩ = e.v[j]?) ∧ (∀ j, w'.cell? ⟨a, j, none⟩ = (audV c bc bs)[j]?))) (by kernel_rfl) ?_ (fun hHeld => ?_)
    · ((try dsimp only); (refine mayS (E := E) (bs := bs) (M := cellsA bc n f :: seenA bs m g :: L) ?_; first | exact K.out | exact K.out.drew))
    refine tk 0 (some 7) ?_
    (try simp only [Act.put, p0, p1, p2])
    refine tk 1 (some 8) ?_
    (try simp only [Act.put, p0, p1, p2])
    refine tk 2 (some 9) ?_
    (try simp only [Act.put, p0, p1, p2])
    refine tk 3 (some 10) ?_
    (try simp only [Act.put, p0, p1, p2])
    refine tk 4 (some 11) ?_
    (try simp only [Act.put, p0, p1, p2])
    refine tk 5 (some 12) ?_
    (try simp only [Act.put, p0, p1, p2])
    refine tk 6 (some 13) ?_
    (try simp only [Act.put, p0, p1, p2])
    refine tk 7 (some 14) ?_
    (try simp only [Act.put, p0, p1, p2])
    refine tk 8 (some 15) ?_
    (try simp only [Act.put, p0, p1, p2])
    refine tk 9 (some 16) ?_
    (try simp only [Act.put, p0, p1, p2])
    refine tk 10 (some 17) ?_
    (try simp only [Act.put, p0, p1, p2])
    refine tk 11 (some 18) ?_
    (try simp only [Act.put, p0, p1, p2])
    refine tk 12 (some 19) ?_
    (try simp only [Act.put, p0, p1, p2])
    refine wpAnyH_done (by kernel_rfl) (NoPanic.normal ?_) _
    have K1 : sat E _ _ := K.out.drew
    clear K a0 l0 a1 l1
    have K := Lib.hid K1
    clear K1
    have a0 := K.out.rd 0 rfl
    have a1 := K.out.rd 1 rfl
    go_wp2_with fail
    refine wp_region_noPanic ?_
    refine wp_region_held_drew (S := (fun w' => (∀ j, w'.cell? ⟨ge, j, none⟩ = e.v[j]?) ∧ (∀ j, w'.cell? ⟨a, j, none⟩ = (audV c bc bs)[j]?))) (by kernel_rfl) ?_ (fun hHeld => ?_)
    · ((try dsimp only); (refine mayS (E := E) (bs := bs) (M := cellsA bc n f :: seenA bs m g :: L) ?_; first | exact K.out | exact K.out.drew))
    refine tk 0 (some 21) ?_
    (try simp only [Act.put, p0, p1, p2])
    refine tk 1 (some 22) ?_
    (try simp only [Act.put, p0, p1, p2])
    refine tk 2 (some 23) ?_
    (try simp only [Act.put, p0, p1, p2])
    refine tk 3 (some 24) ?_
    (try simp only [Act.put, p0, p1, p2])
    refine tk 4 (some 25) ?_
    (try simp only [Act.put, p0, p1, p2])
    refine tk 5 (some 26) ?_
    (try simp only [Act.put, p0, p1, p2])
    refine wpAnyH_ready (rs := [6]) (by kernel_rfl) (by simp) ?_
    refine AllReadyH.cons (o := _) rfl (fun kC hkC => ?_) AllReadyH.nil
    go_simp
    (first | (go_at_call 30; (with_reducible refine ((KC _).out).mono ?_); rintro e w1 ⟨rfl, hb⟩; have K1 := sat.grown (show sat _ _ _ from by first | exact K.out | exact K.out.drew) hb; clear hb; have K2 := Lib.hid K1; clear K1 K; (try clear a0); (try clear l0); (try clear f0); (try clear a1); (try clear l1); (try clear f1); (try clear a2); (try clear l2); (try clear f2); (try clear a3); (try clear l3); (try clear f3); (try clear a4); (try clear l4); (try clear f4); (try clear a5); (try clear l5); (try clear f5); have K := K2; clear K2; (try have a0 := K.out.rd 0 rfl); (try have l0 := K.out.ltp 0 rfl); (try have f0 := K.out.fr 0 rfl); (try have a1 := K.out.rd 1 rfl); (try have l1 := K.out.ltp 1 rfl); (try have f1 := K.out.fr 1 rfl); (try have a2 := K.out.rd 2 rfl); (try have l2 := K.out.ltp 2 rfl); (try have f2 := K.out.fr 2 rfl); (try have a3 := K.out.rd 3 rfl); (try have l3 := K.out.ltp 3 rfl); (try have f3 := K.out.fr 3 rfl)))
    refine shown hkC _ _ (by (try dsimp only); (refine mayS (E := E) (bs := bs) (M := cellsA bc n f :: seenA bs m g :: L) ?_; first | exact K.out | exact K.out.drew)) ?_; clear hkC kC hHeld; intro hHeld
    (try simp only [Act.put, p0, p1, p2])
    refine tk 7 (some 20) ?_
    (try simp only [Act.put, p0, p1, p2])
    refine tk 8 (some 28) ?_
    (try simp only [Act.put, p0, p1, p2])
    refine tk 10 (some 5) ?_
    (try simp only [Act.put, p0, p1, p2])
    refine tk 9 (some 29) ?_
    (try simp only [Act.put, p0, p1, p2])
    refine tk 11 (some 6) ?_
    (try simp only [Act.put, p0, p1, p2])
    refine wpAnyH_done (by kernel_rfl) (NoPanic.normal ?_) _
    go_wp2
    go_ret
    exact ⟨rfl, MM.out _ _ K.out⟩
  · rw [hk] at KC ⊢
    dsimp only at KC ⊢
    have SU := Lib.hid (show seenUp c e g = if e.op = 0 then updI g (pairKey e.who e.cell) (unpack e.old).gen else g from by unfold seenUp; rw [hk]; simp [hw0, hw1])
    clear n1 n2 hk
    have CC := fun w' (D : SA) (h : sat E w' (audA a c bc bs :: cellsA bc n f :: seenA bs m g :: D :: L)) => Lib.hid (ofWord_calls c hc a bc bs n m f g e.cell k0 k1 hm e he h)
    clear hf
    go_enter Try.func25, Try.ntmps25
    go_wp2_with (first | ((with_reducible refine at_box ?_); refine st_boxf K.out rfl rfl (fun _ => rfl) ?_; intro ge w1 K1; have K2 := Lib.hid K1; clear K1 K; (try clear a0); (try clear l0); (try clear a1); (try clear l1); (try clear a2); (try clear l2); have K := K2; clear K2; have a0 := K.out.rd 0 rfl; have l0 := K.out.ltp 0 rfl; have a1 := K.out.rd 1 rfl; have l1 := K.out.ltp 1 rfl))
    refine wp_region_noPanic ?_
    refine wp_region_held_drew (S := (fun w' => (∀ j, w'.cell? ⟨ge, j, none⟩ = e.v[j]?) ∧ (∀ j, w'.cell? ⟨a, j, none⟩ = (audV c bc bs)[j]?))) (by kernel_rfl) ?_ (fun hHeld => ?_)
    · ((try dsimp only); (refine mayS (E := E) (bs := bs) (M := cellsA bc n f :: seenA bs m g :: L) ?_; first | exact K.out | exact K.out.drew))
    refine tk 0 (some 7) ?_
    (try simp only [Act.put, p0, p1, p2])
    refine tk 1 (some 8) ?_
    (try simp only [Act.put, p0, p1, p2])
    refine tk 2 (some 9) ?_
    (try simp only [Act.put, p0, p1, p2])
    refine tk 3 (some 10) ?_
    (try simp only [Act.put, p0, p1, p2])
    refine tk 4 (some 11) ?_
    (try simp only [Act.put, p0, p1, p2])
    refine tk 5 (some 12) ?_
    (try simp only [Act.put, p0, p1, p2])
    refine tk 6 (some 13) ?_
    (try simp only [Act.put, p0, p1, p2])
    refine tk 7 (some 14) ?_
    (try simp only [Act.put, p0, p1, p2])
    refine tk 8 (some 15) ?_
    (try simp only [Act.put, p0, p1, p2])
    refine tk 9 (some 16) ?_
    (try simp only [Act.put, p0, p1, p2])
    refine tk 10 (some 17) ?_
    (try simp only [Act.put, p0, p1, p2])
    refine tk 11 (some 18) ?_
    (try simp only [Act.put, p0, p1, p2])
    refine tk 12 (some 19) ?_
    (try simp only [Act.put, p0, p1, p2])
    refine wpAnyH_done (by kernel_rfl) (NoPanic.normal ?_) _
    have K1 : sat E _ _ := K.out.drew
    clear K a0 l0 a1 l1
    have K := Lib.hid K1
    clear K1
    have a0 := K.out.rd 0 rfl
    have a1 := K.out.rd 1 rfl
    go_wp2_with fail
    refine wp_region_noPanic ?_
    refine wp_region_held_drew (S := (fun w' => (∀ j, w'.cell? ⟨ge, j, none⟩ = e.v[j]?) ∧ (∀ j, w'.cell? ⟨a, j, none⟩ = (audV c bc bs)[j]?))) (by kernel_rfl) ?_ (fun hHeld => ?_)
    · ((try dsimp only); (refine mayS (E := E) (bs := bs) (M := cellsA bc n f :: seenA bs m g :: L) ?_; first | exact K.out | exact K.out.drew))
    refine tk 0 (some 21) ?_
    (try simp only [Act.put, p0, p1, p2])
    refine tk 1 (some 22) ?_
    (try simp only [Act.put, p0, p1, p2])
    refine tk 2 (some 23) ?_
    (try simp only [Act.put, p0, p1, p2])
    refine tk 3 (some 24) ?_
    (try simp only [Act.put, p0, p1, p2])
    refine tk 4 (some 25) ?_
    (try simp only [Act.put, p0, p1, p2])
    refine tk 5 (some 26) ?_
    (try simp only [Act.put, p0, p1, p2])
    refine wpAnyH_ready (rs := [6]) (by kernel_rfl) (by simp) ?_
    refine AllReadyH.cons (o := _) rfl (fun kC hkC => ?_) AllReadyH.nil
    go_simp
    (first | (go_at_call 30; (with_reducible refine ((KC _).out).mono ?_); rintro e w1 ⟨rfl, hb⟩; have K1 := sat.grown (show sat _ _ _ from by first | exact K.out | exact K.out.drew) hb; clear hb; have K2 := Lib.hid K1; clear K1 K; (try clear a0); (try clear l0); (try clear f0); (try clear a1); (try clear l1); (try clear f1); (try clear a2); (try clear l2); (try clear f2); (try clear a3); (try clear l3); (try clear f3); (try clear a4); (try clear l4); (try clear f4); (try clear a5); (try clear l5); (try clear f5); have K := K2; clear K2; (try have a0 := K.out.rd 0 rfl); (try have l0 := K.out.ltp 0 rfl); (try have f0 := K.out.fr 0 rfl); (try have a1 := K.out.rd 1 rfl); (try have l1 := K.out.ltp 1 rfl); (try have f1 := K.out.fr 1 rfl); (try have a2 := K.out.rd 2 rfl); (try have l2 := K.out.ltp 2 rfl); (try have f2 := K.out.fr 2 rfl); (try have a3 := K.out.rd 3 rfl); (try have l3 := K.out.ltp 3 rfl); (try have f3 := K.out.fr 3 rfl)))
    refine shown hkC _ _ (by (try dsimp only); (refine mayS (E := E) (bs := bs) (M := cellsA bc n f :: seenA bs m g :: L) ?_; first | exact K.out | exact K.out.drew)) ?_; clear hkC kC hHeld; intro hHeld
    (try simp only [Act.put, p0, p1, p2])
    refine tk 7 (some 20) ?_
    (try simp only [Act.put, p0, p1, p2])
    refine tk 8 (some 28) ?_
    (try simp only [Act.put, p0, p1, p2])
    refine tk 10 (some 5) ?_
    (try simp only [Act.put, p0, p1, p2])
    refine tk 9 (some 29) ?_
    (try simp only [Act.put, p0, p1, p2])
    refine tk 11 (some 6) ?_
    (try simp only [Act.put, p0, p1, p2])
    refine wpAnyH_done (by kernel_rfl) (NoPanic.normal ?_) _
    go_wp2_with (first | (go_at_call 31; (with_reducible refine (CC _ _ K.out.rot3).out.mono ?_); rintro r w1 ⟨rfl, K1⟩; replace K1 := K1.unrot3; have K2 := Lib.hid K1; clear K1 K; have K := K2; clear K2))
    go_ret
    exact ⟨rfl, by rw [SU.out]; exact K.out.drop⟩
  · rw [hk] at KC ⊢
    dsimp only at KC ⊢
    rw [show seenUp c e g = g from if_neg (by rw [hk]; simp)]
    clear n1 n2 hk
    have CC := fun w' (D : SA) (h : sat E w' (audA a c bc bs :: cellsA bc n f :: seenA bs m g :: D :: L)) => Lib.hid (ofValue_calls c hc a bc bs n m f g k k0 k1 e he hw0 hw1 hf h)
    clear hf
    go_enter Try.func25, Try.ntmps25
    go_wp2_with (first | ((with_reducible refine at_box ?_); refine st_boxf K.out rfl rfl (fun _ => rfl) ?_; intro ge w1 K1; have K2 := Lib.hid K1; clear K1 K; (try clear a0); (try clear l0); (try clear a1); (try clear l1); (try clear a2); (try clear l2); have K := K2; clear K2; have a0 := K.out.rd 0 rfl; have l0 := K.out.ltp 0 rfl; have a1 := K.out.rd 1 rfl; have l1 := K.out.ltp 1 rfl))
    refine wp_region_noPanic ?_
    refine wp_region_held_drew (S := (fun w' => (∀ j, w'.cell? ⟨ge, j, none⟩ = e.v[j]?) ∧ (∀ j, w'.cell? ⟨a, j, none⟩ = (audV c bc bs)[j]?))) (by kernel_rfl) ?_ (fun hHeld => ?_)
    · ((try dsimp only); (refine mayS (E := E) (bs := bs) (M := cellsA bc n f :: seenA bs m g :: L) ?_; first | exact K.out | exact K.out.drew))
    refine tk 0 (some 7) ?_
    (try simp only [Act.put, p0, p1, p2])
    refine tk 1 (some 8) ?_
    (try simp only [Act.put, p0, p1, p2])
    refine tk 2 (some 9) ?_
    (try simp only [Act.put, p0, p1, p2])
    refine tk 3 (some 10) ?_
    (try simp only [Act.put, p0, p1, p2])
    refine tk 4 (some 11) ?_
    (try simp only [Act.put, p0, p1, p2])
    refine tk 5 (some 12) ?_
    (try simp only [Act.put, p0, p1, p2])
    refine tk 6 (some 13) ?_
    (try simp only [Act.put, p0, p1, p2])
    refine tk 7 (some 14) ?_
    (try simp only [Act.put, p0, p1, p2])
    refine tk 8 (some 15) ?_
    (try simp only [Act.put, p0, p1, p2])
    refine tk 9 (some 16) ?_
    (try simp only [Act.put, p0, p1, p2])
    refine tk 10 (some 17) ?_
    (try simp only [Act.put, p0, p1, p2])
    refine tk 11 (some 18) ?_
    (try simp only [Act.put, p0, p1, p2])
    refine tk 12 (some 19) ?_
    (try simp only [Act.put, p0, p1, p2])
    refine wpAnyH_done (by kernel_rfl) (NoPanic.normal ?_) _
    have K1 : sat E _ _ := K.out.drew
    clear K a0 l0 a1 l1
    have K := Lib.hid K1
    clear K1
    have a0 := K.out.rd 0 rfl
    have a1 := K.out.rd 1 rfl
    go_wp2_with fail
    refine wp_region_noPanic ?_
    refine wp_region_held_drew (S := (fun w' => (∀ j, w'.cell? ⟨ge, j, none⟩ = e.v[j]?) ∧ (∀ j, w'.cell? ⟨a, j, none⟩ = (audV c bc bs)[j]?))) (by kernel_rfl) ?_ (fun hHeld => ?_)
    · ((try dsimp only); (refine mayS (E := E) (bs := bs) (M := cellsA bc n f :: seenA bs m g :: L) ?_; first | exact K.out | exact K.out.drew))
    refine tk 0 (some 21) ?_
    (try simp only [Act.put, p0, p1, p2])
    refine tk 1 (some 22) ?_
    (try simp only [Act.put, p0, p1, p2])
    refine tk 2 (some 23) ?_
    (try simp only [Act.put, p0, p1, p2])
    refine tk 3 (some 24) ?_
    (try simp only [Act.put, p0, p1, p2])
    refine tk 4 (some 25) ?_
    (try simp only [Act.put, p0, p1, p2])
    refine tk 5 (some 26) ?_
    (try simp only [Act.put, p0, p1, p2])
    refine wpAnyH_ready (rs := [6]) (by kernel_rfl) (by simp) ?_
    refine AllReadyH.cons (o := _) rfl (fun kC hkC => ?_) AllReadyH.nil
    go_simp
    (first | (go_at_call 30; (with_reducible refine ((KC _).out).mono ?_); rintro e w1 ⟨rfl, hb⟩; have K1 := sat.grown (show sat _ _ _ from by first | exact K.out | exact K.out.drew) hb; clear hb; have K2 := Lib.hid K1; clear K1 K; (try clear a0); (try clear l0); (try clear f0); (try clear a1); (try clear l1); (try clear f1); (try clear a2); (try clear l2); (try clear f2); (try clear a3); (try clear l3); (try clear f3); (try clear a4); (try clear l4); (try clear f4); (try clear a5); (try clear l5); (try clear f5); have K := K2; clear K2; (try have a0 := K.out.rd 0 rfl); (try have l0 := K.out.ltp 0 rfl); (try have f0 := K.out.fr 0 rfl); (try have a1 := K.out.rd 1 rfl); (try have l1 := K.out.ltp 1 rfl); (try have f1 := K.out.fr 1 rfl); (try have a2 := K.out.rd 2 rfl); (try have l2 := K.out.ltp 2 rfl); (try have f2 := K.out.fr 2 rfl); (try have a3 := K.out.rd 3 rfl); (try have l3 := K.out.ltp 3 rfl); (try have f3 := K.out.fr 3 rfl)))
    refine shown hkC _ _ (by (try dsimp only); (refine mayS (E := E) (bs := bs) (M := cellsA bc n f :: seenA bs m g :: L) ?_; first | exact K.out | exact K.out.drew)) ?_; clear hkC kC hHeld; intro hHeld
    (try simp only [Act.put, p0, p1, p2])
    refine tk 7 (some 20) ?_
    (try simp only [Act.put, p0, p1, p2])
    refine tk 8 (some 28) ?_
    (try simp only [Act.put, p0, p1, p2])
    refine tk 10 (some 5) ?_
    (try simp only [Act.put, p0, p1, p2])
    refine tk 9 (some 29) ?_
    (try simp only [Act.put, p0, p1, p2])
    refine tk 11 (some 6) ?_
    (try simp only [Act.put, p0, p1, p2])
    refine wpAnyH_done (by kernel_rfl) (NoPanic.normal ?_) _
    go_wp2_with (first | (go_at_call 32; (with_reducible refine (CC _ _ K.out.rot3).out.mono ?_); rintro r w1 ⟨rfl, K1⟩; replace K1 := K1.unrot3; have K2 := Lib.hid K1; clear K1 K; have K := K2; clear K2))
    go_ret
    exact ⟨rfl, MM.out _ _ K.out⟩
  · rw [hk] at KC ⊢
    dsimp only at KC ⊢
    rw [show seenUp c e g = g from if_neg (by rw [hk]; simp)]
    clear n1 n2 hk
    clear hf
    go_enter Try.func25, Try.ntmps25
    go_wp2_with (first | ((with_reducible refine at_box ?_); refine st_boxf K.out rfl rfl (fun _ => rfl) ?_; intro ge w1 K1; have K2 := Lib.hid K1; clear K1 K; (try clear a0); (try clear l0); (try clear a1); (try clear l1); (try clear a2); (try clear l2); have K := K2; clear K2; have a0 := K.out.rd 0 rfl; have l0 := K.out.ltp 0 rfl; have a1 := K.out.rd 1 rfl; have l1 := K.out.ltp 1 rfl))
    refine wp_region_noPanic ?_
    refine wp_region_held_drew (S := (fun w' => (∀ j, w'.cell? ⟨ge, j, none⟩ = e.v[j]?) ∧ (∀ j, w'.cell? ⟨a, j, none⟩ = (audV c bc bs)[j]?))) (by kernel_rfl) ?_ (fun hHeld => ?_)
    · ((try dsimp only); (refine mayS (E := E) (bs := bs) (M := cellsA bc n f :: seenA bs m g :: L) ?_; first | exact K.out | exact K.out.drew))
    refine tk 0 (some 7) ?_
    (try simp only [Act.put, p0, p1, p2])
    refine tk 1 (some 8) ?_
    (try simp only [Act.put, p0, p1, p2])
    refine tk 2 (some 9) ?_
    (try simp only [Act.put, p0, p1, p2])
    refine tk 3 (some 10) ?_
    (try simp only [Act.put, p0, p1, p2])
    refine tk 4 (some 11) ?_
    (try simp only [Act.put, p0, p1, p2])
    refine tk 5 (some 12) ?_
    (try simp only [Act.put, p0, p1, p2])
    refine tk 6 (some 13) ?_
    (try simp only [Act.put, p0, p1, p2])
    refine tk 7 (some 14) ?_
    (try simp only [Act.put, p0, p1, p2])
    refine tk 8 (some 15) ?_
    (try simp only [Act.put, p0, p1, p2])
    refine tk 9 (some 16) ?_
    (try simp only [Act.put, p0, p1, p2])
    refine tk 10 (some 17) ?_
    (try simp only [Act.put, p0, p1, p2])
    refine tk 11 (some 18) ?_
    (try simp only [Act.put, p0, p1, p2])
    refine tk 12 (some 19) ?_
    (try simp only [Act.put, p0, p1, p2])
    refine wpAnyH_done (by kernel_rfl) (NoPanic.normal ?_) _
    have K1 : sat E _ _ := K.out.drew
    clear K a0 l0 a1 l1
    have K := Lib.hid K1
    clear K1
    have a0 := K.out.rd 0 rfl
    have a1 := K.out.rd 1 rfl
    go_wp2_with fail
    refine wp_region_noPanic ?_
    refine wp_region_held_drew (S := (fun w' => (∀ j, w'.cell? ⟨ge, j, none⟩ = e.v[j]?) ∧ (∀ j, w'.cell? ⟨a, j, none⟩ = (audV c bc bs)[j]?))) (by kernel_rfl) ?_ (fun hHeld => ?_)
    · ((try dsimp only); (refine mayS (E := E) (bs := bs) (M := cellsA bc n f :: seenA bs m g :: L) ?_; first | exact K.out | exact K.out.drew))
    refine tk 0 (some 21) ?_
    (try simp only [Act.put, p0, p1, p2])
    refine tk 1 (some 22) ?_
    (try simp only [Act.put, p0, p1, p2])
    refine tk 2 (some 23) ?_
    (try simp only [Act.put, p0, p1, p2])
    refine tk 3 (some 24) ?_
    (try simp only [Act.put, p0, p1, p2])
    refine tk 4 (some 25) ?_
    (try simp only [Act.put, p0, p1, p2])
    refine tk 5 (some 26) ?_
    (try simp only [Act.put, p0, p1, p2])
    refine wpAnyH_ready (rs := [6]) (by kernel_rfl) (by simp) ?_
    refine AllReadyH.cons (o := _) rfl (fun kC hkC => ?_) AllReadyH.nil
    go_simp
    (first | (go_at_call 30; (with_reducible refine ((KC _).out).mono ?_); rintro e w1 ⟨rfl, hb⟩; have K1 := sat.grown (show sat _ _ _ from by first | exact K.out | exact K.out.drew) hb; clear hb; have K2 := Lib.hid K1; clear K1 K; (try clear a0); (try clear l0); (try clear f0); (try clear a1); (try clear l1); (try clear f1); (try clear a2); (try clear l2); (try clear f2); (try clear a3); (try clear l3); (try clear f3); (try clear a4); (try clear l4); (try clear f4); (try clear a5); (try clear l5); (try clear f5); have K := K2; clear K2; (try have a0 := K.out.rd 0 rfl); (try have l0 := K.out.ltp 0 rfl); (try have f0 := K.out.fr 0 rfl); (try have a1 := K.out.rd 1 rfl); (try have l1 := K.out.ltp 1 rfl); (try have f1 := K.out.fr 1 rfl); (try have a2 := K.out.rd 2 rfl); (try have l2 := K.out.ltp 2 rfl); (try have f2 := K.out.fr 2 rfl); (try have a3 := K.out.rd 3 rfl); (try have l3 := K.out.ltp 3 rfl); (try have f3 := K.out.fr 3 rfl)))
    refine shown hkC _ _ (by (try dsimp only); (refine mayS (E := E) (bs := bs) (M := cellsA bc n f :: seenA bs m g :: L) ?_; first | exact K.out | exact K.out.drew)) ?_; clear hkC kC hHeld; intro hHeld
    (try simp only [Act.put, p0, p1, p2])
    refine tk 7 (some 20) ?_
    (try simp only [Act.put, p0, p1, p2])
    refine tk 8 (some 28) ?_
    (try simp only [Act.put, p0, p1, p2])
    refine tk 10 (some 5) ?_
    (try simp only [Act.put, p0, p1, p2])
    refine tk 9 (some 29) ?_
    (try simp only [Act.put, p0, p1, p2])
    refine tk 11 (some 6) ?_
    (try simp only [Act.put, p0, p1, p2])
    refine wpAnyH_done (by kernel_rfl) (NoPanic.normal ?_) _
    go_wp2
    all_goals (go_ret; exact ⟨ret_b (by simp_all), MM.out _ _ K.out⟩)
  · rw [hk] at KC ⊢
    dsimp only at KC ⊢
    rw [show seenUp c e g = g from if_neg (by rw [hk]; simp)]
    clear n1 n2 hk
    have CC := fun w' (D : SA) (h : sat E w' (audA a c bc bs :: D :: cellsA bc n f :: seenA bs m g :: L)) => Lib.hid (ofNumber_calls c a bc bs k e he h)
    clear hf
    go_enter Try.func25, Try.ntmps25
    go_wp2_with (first | ((with_reducible refine at_box ?_); refine st_boxf K.out rfl rfl (fun _ => rfl) ?_; intro ge w1 K1; have K2 := Lib.hid K1; clear K1 K; (try clear a0); (try clear l0); (try clear a1); (try clear l1); (try clear a2); (try clear l2); have K := K2; clear K2; have a0 := K.out.rd 0 rfl; have l0 := K.out.ltp 0 rfl; have a1 := K.out.rd 1 rfl; have l1 := K.out.ltp 1 rfl))
    refine wp_region_noPanic ?_
    refine wp_region_held_drew (S := (fun w' => (∀ j, w'.cell? ⟨ge, j, none⟩ = e.v[j]?) ∧ (∀ j, w'.cell? ⟨a, j, none⟩ = (audV c bc bs)[j]?))) (by kernel_rfl) ?_ (fun hHeld => ?_)
    · ((try dsimp only); (refine mayS (E := E) (bs := bs) (M := cellsA bc n f :: seenA bs m g :: L) ?_; first | exact K.out | exact K.out.drew))
    refine tk 0 (some 7) ?_
    (try simp only [Act.put, p0, p1, p2])
    refine tk 1 (some 8) ?_
    (try simp only [Act.put, p0, p1, p2])
    refine tk 2 (some 9) ?_
    (try simp only [Act.put, p0, p1, p2])
    refine tk 3 (some 10) ?_
    (try simp only [Act.put, p0, p1, p2])
    refine tk 4 (some 11) ?_
    (try simp only [Act.put, p0, p1, p2])
    refine tk 5 (some 12) ?_
    (try simp only [Act.put, p0, p1, p2])
    refine tk 6 (some 13) ?_
    (try simp only [Act.put, p0, p1, p2])
    refine tk 7 (some 14) ?_
    (try simp only [Act.put, p0, p1, p2])
    refine tk 8 (some 15) ?_
    (try simp only [Act.put, p0, p1, p2])
    refine tk 9 (some 16) ?_
    (try simp only [Act.put, p0, p1, p2])
    refine tk 10 (some 17) ?_
    (try simp only [Act.put, p0, p1, p2])
    refine tk 11 (some 18) ?_
    (try simp only [Act.put, p0, p1, p2])
    refine tk 12 (some 19) ?_
    (try simp only [Act.put, p0, p1, p2])
    refine wpAnyH_done (by kernel_rfl) (NoPanic.normal ?_) _
    have K1 : sat E _ _ := K.out.drew
    clear K a0 l0 a1 l1
    have K := Lib.hid K1
    clear K1
    have a0 := K.out.rd 0 rfl
    have a1 := K.out.rd 1 rfl
    go_wp2_with fail
    refine wp_region_noPanic ?_
    refine wp_region_held_drew (S := (fun w' => (∀ j, w'.cell? ⟨ge, j, none⟩ = e.v[j]?) ∧ (∀ j, w'.cell? ⟨a, j, none⟩ = (audV c bc bs)[j]?))) (by kernel_rfl) ?_ (fun hHeld => ?_)
    · ((try dsimp only); (refine mayS (E := E) (bs := bs) (M := cellsA bc n f :: seenA bs m g :: L) ?_; first | exact K.out | exact K.out.drew))
    refine tk 0 (some 21) ?_
    (try simp only [Act.put, p0, p1, p2])
    refine tk 1 (some 22) ?_
    (try simp only [Act.put, p0, p1, p2])
    refine tk 2 (some 23) ?_
    (try simp only [Act.put, p0, p1, p2])
    refine tk 3 (some 24) ?_
    (try simp only [Act.put, p0, p1, p2])
    refine tk 4 (some 25) ?_
    (try simp only [Act.put, p0, p1, p2])
    refine tk 5 (some 26) ?_
    (try simp only [Act.put, p0, p1, p2])
    refine wpAnyH_ready (rs := [6]) (by kernel_rfl) (by simp) ?_
    refine AllReadyH.cons (o := _) rfl (fun kC hkC => ?_) AllReadyH.nil
    go_simp
    (first | (go_at_call 30; (with_reducible refine ((KC _).out).mono ?_); rintro e w1 ⟨rfl, hb⟩; have K1 := sat.grown (show sat _ _ _ from by first | exact K.out | exact K.out.drew) hb; clear hb; have K2 := Lib.hid K1; clear K1 K; (try clear a0); (try clear l0); (try clear f0); (try clear a1); (try clear l1); (try clear f1); (try clear a2); (try clear l2); (try clear f2); (try clear a3); (try clear l3); (try clear f3); (try clear a4); (try clear l4); (try clear f4); (try clear a5); (try clear l5); (try clear f5); have K := K2; clear K2; (try have a0 := K.out.rd 0 rfl); (try have l0 := K.out.ltp 0 rfl); (try have f0 := K.out.fr 0 rfl); (try have a1 := K.out.rd 1 rfl); (try have l1 := K.out.ltp 1 rfl); (try have f1 := K.out.fr 1 rfl); (try have a2 := K.out.rd 2 rfl); (try have l2 := K.out.ltp 2 rfl); (try have f2 := K.out.fr 2 rfl); (try have a3 := K.out.rd 3 rfl); (try have l3 := K.out.ltp 3 rfl); (try have f3 := K.out.fr 3 rfl)))
    refine shown hkC _ _ (by (try dsimp only); (refine mayS (E := E) (bs := bs) (M := cellsA bc n f :: seenA bs m g :: L) ?_; first | exact K.out | exact K.out.drew)) ?_; clear hkC kC hHeld; intro hHeld
    (try simp only [Act.put, p0, p1, p2])
    refine tk 7 (some 20) ?_
    (try simp only [Act.put, p0, p1, p2])
    refine tk 8 (some 28) ?_
    (try simp only [Act.put, p0, p1, p2])
    refine tk 10 (some 5) ?_
    (try simp only [Act.put, p0, p1, p2])
    refine tk 9 (some 29) ?_
    (try simp only [Act.put, p0, p1, p2])
    refine tk 11 (some 6) ?_
    (try simp only [Act.put, p0, p1, p2])
    refine wpAnyH_done (by kernel_rfl) (NoPanic.normal ?_) _
    go_wp2_with (first | (go_at_call 33; (with_reducible refine (CC _ _ K.out.swap).out.mono ?_); rintro r w1 ⟨rfl, K1⟩; replace K1 := K1.swap; have K2 := Lib.hid K1; clear K1 K; have K := K2; clear K2))
    go_ret
    exact ⟨rfl, MM.out _ _ K.out⟩
end
end Go.Proofs.Ytiladkalijonbaa
