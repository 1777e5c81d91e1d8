/- The example that stands ahead of each statement of get (head). No condition. -/
import Derived.Test.YtdhcomklmckhoaaGetA
namespace Go.Proofs.Ytdhcomklmckhoaa
open Go.RowKit Go.SepYtdhcomklmckhoaa
set_option linter.unusedSimpArgs false
set_option linter.unusedVariables false
set_option maxRecDepth 100000
set_option maxHeartbeats 4000000
abbrev confH : ConfM := ⟨2, 2, 0, 0⟩
theorem confH_ok : confH.ok := by constructor <;> decide
abbrev memH : MemM := MemM.new 12
/-- A loop that steps a get until it is over: what its rounds know. -/
structure Ends (g : GetM) (m : MemM) (N : Nat) : Prop where
  all : g.all 0 m
  bd : N ≤ 100000
  log : m.log.length ≤ 100000
  before : ∀ j : Nat, j < N → (GetM.run g m j).1.phase = 0
  after : (GetM.run g m N).1.phase ≠ 0
theorem Ends.ok {g : GetM} {m : MemM} {N : Nat} (h : Ends g m N) (j : Nat) (hj : j ≤ N) : (GetM.run g m j).1.ok ∧ (GetM.run g m j).1.snap.pass < 1000000000 ∧ (GetM.run g m j).1.tries < 1000000000 ∧ (GetM.run g m j).2.log.length < 1000000000 := by
  have hb := h.bd
  have hl := h.log
  have a := GetM.all_run h.all (Int.le_refl _) j (by omega)
  have b := GetM.run_log_le h.all (Int.le_refl _) j (by omega)
  have c := a.okn.pass
  have d := a.okn.tries
  exact ⟨a.okn.ok, by omega, by omega, by omega⟩
section
variable {E w : World} {L : List SA}
theorem ends_step {g : GetM} {m : MemM} {N : Nat} (h : Ends g m N) (b bm j : Nat) (hj : j < N) (hs : sat E w (getA b (GetM.run g m j).1 :: memA bm (GetM.run g m j).2 :: L)) :
    Calls Try.prog 18 #[.pointer (some ⟨b, 0, none⟩), .pointer (some ⟨bm, 0, none⟩)] w fun e w' => e = .returned (.int .i64 (GetM.run g m (j + 1)).1.phase) ∧ sat E w' (getA b (GetM.run g m (j + 1)).1 :: memA bm (GetM.run g m (j + 1)).2 :: L) := by
  obtain ⟨h1, h2, h3, h4⟩ := h.ok j (by omega)
  exact gstep_calls b bm _ _ h1 h2 h3 h4 hs
end
def m3H (m : MemM) : MemM := (m.touch (-1) 1 3 0 9).touch (-1) 1 7 0 5
theorem head_first : Ends (GetM.new confH 0 0 0) memH 8 ∧ (GetM.run (GetM.new confH 0 0 0) memH 8).1.phase = 2 ∧ (GetM.run (GetM.new confH 0 0 0) memH 8).2.cells = memH.cells := by
  have ha := GetM.new_all confH_ok (who := 0) (by decide) (by decide) 0 0 (m := memH) (by intro x hx; obtain ⟨_, rfl⟩ := List.mem_replicate.1 hx; omega) (by decide)
  have h := get_alone confH_ok (g := GetM.new confH 0 0 0) rfl (by decide) (by decide) (GetM.new_fresh _ _ _ _) (m := memH) (by decide)
  have hs := h.none (by decide)
  rw [show 2 * confH.all.toNat = 8 by decide] at hs
  obtain ⟨h1, h2, h3, h4, h5⟩ := hs
  exact ⟨⟨ha, by decide, by decide, h1, by rw [h2]; decide⟩, h2, h5⟩
theorem head_second (m : MemM) (hw : m.wf) (hl : m.log.length ≤ 1000) (hc : m.cells = memH.cells) : Ends (GetM.new confH 0 0 1) (m3H m) 13 ∧ (GetM.run (GetM.new confH 0 0 1) (m3H m) 13).1.phase = 1 ∧ (GetM.run (GetM.new confH 0 0 1) (m3H m) 13).1.value = 5 := by
  have hcs : (m3H m).cells = (m3H memH).cells := by
    obtain ⟨cs, lg⟩ := m
    obtain rfl : cs = memH.cells := hc
    rfl
  have hw3 : (m3H m).wf := MemM.touch_wf (MemM.touch_wf hw _ _ _ _ _ (by omega)) _ _ _ _ _ (by omega)
  have hlen : ((m3H m).cells.length : Int) = confH.cells := by rw [hcs]; decide
  have hlog : (m3H m).log.length ≤ 1002 := by
    have h1 := MemM.touch_log m (-1) 1 3 0 9
    have h2 := MemM.touch_log (m.touch (-1) 1 3 0 9) (-1) 1 7 0 5
    unfold m3H
    omega
  have ha := GetM.new_all confH_ok (who := 0) (by decide) (by decide) 0 1 (m := m3H m) hw3 hlen
  have h := get_alone confH_ok (g := GetM.new confH 0 0 1) rfl (by decide) (by decide) (GetM.new_fresh _ _ _ _) (m := m3H m) hlen
  have hW : wordsM confH (m3H m) = [0, 0, 0, 9] := by rw [wordsM_cells confH hcs]; decide
  have hA : atM [0, 0, 0, 9] (GetM.new confH 0 0 1).fin = 3 := by decide
  have hs := h.some (by rw [hW, hA]; decide)
  rw [hW, hA, show 2 * confH.all.toNat + 5 = 13 by decide] at hs
  obtain ⟨h1, h2, h3, h4, h5⟩ := hs
  refine ⟨⟨ha, by decide, by omega, h1, by rw [h2]; decide⟩, h2, ?_⟩
  rw [h3, peek_of_cells hcs]
  decide
theorem head11_calls (E : World) : Tells 7 #[] E (.bool true) := by
  have K := Lib.hid (sat.start E)
  have HF := Lib.hid head_first
  have CN := fun w => Lib.hid (cellsn_calls confH w confH_ok)
  have MN := fun w' (L : List SA) (h : sat E w' L) => Lib.hid (memnew_calls 12 (by decide) h)
  have G1 := fun w' (L : List SA) (h : sat E w' L) => Lib.hid (getnew_calls confH confH_ok 0 0 0 h)
  have G2 := fun w' (L : List SA) (h : sat E w' L) => Lib.hid (getnew_calls confH confH_ok 0 0 1 h)
  have AN := fun w => Lib.hid (alone_calls confH w confH_ok)
  have W3 := fun w => Lib.hid (word_calls confH w 3)
  have V3 := fun w => Lib.hid (value_calls confH w confH_ok 3 (by decide) (by decide))
  have PK := fun w => Lib.hid (pack_calls ⟨1, 0, 1, ⟨0, 0⟩⟩ w)
  rw [show (⟨1, 0, 1, ⟨0, 0⟩⟩ : WordM).pack = 9 by decide] at PK
  rw [show confH.value 3 = 7 by decide] at V3
  rw [show confH.cells = 12 by decide] at CN
  rw [show ((12 : Nat) : Int) = 12 from rfl] at MN
  rw [show 2 * confH.all + 5 = 13 by decide] at AN
  go_enter Try.func7, Try.ntmps7
  go_wp2_with fail
  have K1 := K.out.alloc (.cells #[.int .i64 2, .int .i64 2, .int .i64 0, .int .i64 0] 28)
  obtain ⟨gc, hgc⟩ : ∃ g, g = E.heap.size := ⟨_, rfl⟩
  rw [← hgc] at K1 ⊢
  clear K hgc
  have K := Lib.hid K1
  clear K1
  have a0 := K.out.rd 0 rfl; have l0 := K.out.ltp 0 rfl
  go_wp2_with (first | (go_at_call 44; (with_reducible refine ((CN _).out).mono ?_); rintro e w1 ⟨rfl, hb⟩; have K1 := sat.grown (by repeat (with_reducible first | exact K.out | apply sat.alloc_any | apply sat.drew | apply sat.drewN)) hb; clear hb; have K2 := Lib.hid K1; clear K1 K; (try clear a0); (try clear l0); (try clear a1); (try clear l1); (try clear a2); (try clear l2); have K := K2; clear K2; have a0 := K.out.rd 0 rfl; have l0 := K.out.ltp 0 rfl) | (go_at_call 43; (with_reducible refine ((MN _ _ (show sat E _ _ from by iterate 6 (try (with_reducible first | exact K.out | apply sat.alloc_any | apply sat.drew | apply sat.drewN)))).out).mono ?_); rintro e w1 ⟨gm, rfl, K1⟩; have K2 := Lib.hid K1; clear K1 K; (try clear a0); (try clear l0); (try clear a1); (try clear l1); (try clear a2); (try clear l2); have K := K2; clear K2; have a1 := K.out.rd 1 rfl; have l1 := K.out.ltp 1 rfl) | (go_at_call 16; (with_reducible refine ((G1 _ _ (show sat E _ _ from by iterate 6 (try (with_reducible first | exact K.out | apply sat.alloc_any | apply sat.drew | apply sat.drewN)))).out).mono ?_); rintro e w1 ⟨gg, rfl, K1⟩; have K2 := Lib.hid K1; clear K1 K; (try clear a0); (try clear l0); (try clear a1); (try clear l1); (try clear a2); (try clear l2); have K := K2; clear K2; have a2 := K.out.rd 2 rfl; have l2 := K.out.ltp 2 rfl))
  go_loopg [4] 8 (fun gk i w' => ∃ j : Nat, j + gk = 8 ∧ i = .int .i64 j ∧ sat E w' [getA gg (GetM.run (GetM.new confH 0 0 0) memH j).1, memA gm (GetM.run (GetM.new confH 0 0 0) memH j).2, pt gc (.cells #[.int .i64 2, .int .i64 2, .int .i64 0, .int .i64 0] 28 (0, 0))])
  case atStart => exact ⟨0, by simp, rfl, K.out⟩
  case round =>
    obtain ⟨j, hj, rfl, hs⟩ := hrel
    clear K
    have K := Lib.hid hs
    clear hs
    have a2 := K.out.rd 2 rfl
    have l2 := K.out.ltp 2 rfl
    have GP := fun w' (h : sat E w' _) => Lib.hid (gphase_calls (E := E) gg (GetM.run (GetM.new confH 0 0 0) memH j).1 h (L := [memA gm (GetM.run (GetM.new confH 0 0 0) memH j).2, pt gc (.cells #[.int .i64 2, .int .i64 2, .int .i64 0, .int .i64 0] 28 (0, 0))]))
    have HJ := Lib.hid hj
    rcases Nat.lt_or_ge j 8 with q | q
    · have p0 := HF.out.1.before j q
      rw [p0] at GP
      have GS := fun w' (h : sat E w' _) => Lib.hid (ends_step HF.out.1 gg gm j q h (L := [pt gc (.cells #[.int .i64 2, .int .i64 2, .int .i64 0, .int .i64 0] 28 (0, 0))]))
      clear p0 hj
      have q50 : decide ((j : Int) < 50) = true := by simp; omega
      obtain ⟨gk', rfl⟩ : ∃ g', gk = g' + 1 := ⟨gk - 1, by have := HJ.out; omega⟩
      go_wp2_with (first | (go_at_call 20; (with_reducible refine (GP _ K.out).out.mono ?_); rintro e w1 ⟨rfl, rfl⟩) | (go_at_call 18; (with_reducible refine ((GS _ (show sat E _ _ from by iterate 6 (try (with_reducible first | exact K.out | apply sat.alloc_any | apply sat.drew | apply sat.drewN)))).out).mono ?_); rintro e w1 ⟨rfl, K1⟩; have K2 := Lib.hid K1; clear K1 K; (try clear a0); (try clear l0); (try clear a1); (try clear l1); (try clear a2); (try clear l2); have K := K2; clear K2; have a2 := K.out.rd 2 rfl; have l2 := K.out.ltp 2 rfl))
      go_roundg gk'
      case measure => omega
      case rel => exact ⟨j + 1, by have := HJ.out; omega, by simp, K.out⟩
    · obtain rfl : j = 8 := by omega
      rw [HF.out.2.1] at GP
      have hm := (memA_open (K.out.pick 1 rfl)).1
      have hlog := (HF.out.1.ok 8 (Nat.le_refl _)).2.2.2
      have HM := Lib.hid hm
      have HC := Lib.hid HF.out.2.2
      have HL := Lib.hid (show (GetM.run (GetM.new confH 0 0 0) memH 8).2.log.length ≤ 1000 from by have := GetM.run_log_le HF.out.1.all (Int.le_refl _) 8 (by omega); have e : memH.log.length = 0 := rfl; omega)
      clear hm hlog hj q
      have P1 := HF.out.2.1
      clear HF
      generalize (GetM.run (GetM.new confH 0 0 0) memH 8).2 = m1 at *
      generalize (GetM.run (GetM.new confH 0 0 0) memH 8).1 = g8 at *
      have HS := Lib.hid (head_second m1 HM.out HL.out HC.out)
      have S1 := fun w' (h : sat E w' (memA gm m1 :: getA gg g8 :: pt gc (.cells #[.int .i64 2, .int .i64 2, .int .i64 0, .int .i64 0] 28 (0, 0)) :: [])) => Lib.hid (store_calls gm m1 (-1) 3 9 (by decide) (by have := HL.out; omega) h)
      have hl2 := MemM.touch_log m1 (-1) 1 3 0 9
      have S2 := fun w' (h : sat E w' (memA gm (m1.touch (-1) 1 3 0 9) :: getA gg g8 :: pt gc (.cells #[.int .i64 2, .int .i64 2, .int .i64 0, .int .i64 0] 28 (0, 0)) :: [])) => Lib.hid (store_calls gm _ (-1) 7 5 (by decide) (by have := HL.out; omega) h)
      clear hl2
      have GP1 := fun w' (M : List SA) (h : sat E w' (getA gg g8 :: M)) => Lib.hid (gphase_calls gg g8 h)
      rw [P1] at GP1
      go_wp2_with (first | (go_at_call 20; (with_reducible refine (GP _ K.out).out.mono ?_); rintro e w1 ⟨rfl, rfl⟩) | (go_at_call 23; (with_reducible refine ((W3 _).out).mono ?_); rintro e w1 ⟨rfl, hb⟩; have K1 := sat.grown (by repeat (with_reducible first | exact K.out | apply sat.alloc_any | apply sat.drew | apply sat.drewN)) hb; clear hb; have K2 := Lib.hid K1; clear K1 K; (try clear a0); (try clear l0); (try clear a1); (try clear l1); (try clear a2); (try clear l2); have K := K2; clear K2; have a2 := K.out.rd 2 rfl; have l2 := K.out.ltp 2 rfl) | (go_at_call 14; (with_reducible refine ((V3 _).out).mono ?_); rintro e w1 ⟨rfl, hb⟩; have K1 := sat.grown (by repeat (with_reducible first | exact K.out | apply sat.alloc_any | apply sat.drew | apply sat.drewN)) hb; clear hb; have K2 := Lib.hid K1; clear K1 K; (try clear a0); (try clear l0); (try clear a1); (try clear l1); (try clear a2); (try clear l2); have K := K2; clear K2; have a2 := K.out.rd 2 rfl; have l2 := K.out.ltp 2 rfl) | (go_at_call 26; (with_reducible refine ((PK _).out).mono ?_); rintro e w1 ⟨rfl, hb⟩; have K1 := sat.grown (by repeat (with_reducible first | exact K.out | apply sat.alloc_any | apply sat.drew | apply sat.drewN)) hb; clear hb; have K2 := Lib.hid K1; clear K1 K; (try clear a0); (try clear l0); (try clear a1); (try clear l1); (try clear a2); (try clear l2); have K := K2; clear K2; have a2 := K.out.rd 2 rfl; have l2 := K.out.ltp 2 rfl) | (go_at_call 24; (with_reducible refine ((S1 _ (show sat E _ _ from by iterate 6 (try (with_reducible first | exact K.out | apply sat.alloc_any | apply sat.drew | apply sat.drewN))).swap).out).mono ?_); rintro e w1 ⟨rfl, K1⟩; replace K1 := K1.swap; have K2 := Lib.hid K1; clear K1 K; (try clear a0); (try clear l0); (try clear a1); (try clear l1); (try clear a2); (try clear l2); have K := K2; clear K2; have a2 := K.out.rd 2 rfl; have l2 := K.out.ltp 2 rfl) | (go_at_call 24; (with_reducible refine ((S2 _ (show sat E _ _ from by iterate 6 (try (with_reducible first | exact K.out | apply sat.alloc_any | apply sat.drew | apply sat.drewN))).swap).out).mono ?_); rintro e w1 ⟨rfl, K1⟩; replace K1 := K1.swap; have K2 := Lib.hid K1; clear K1 K; (try clear a0); (try clear l0); (try clear a1); (try clear l1); (try clear a2); (try clear l2); have K := K2; clear K2; have a2 := K.out.rd 2 rfl; have l2 := K.out.ltp 2 rfl) | (go_at_call 16; (with_reducible refine ((G2 _ _ (show sat E _ _ from by iterate 6 (try (with_reducible first | exact K.out | apply sat.alloc_any | apply sat.drew | apply sat.drewN)))).out).mono ?_); rintro e w1 ⟨g2, rfl, K1⟩; replace K1 := (K1.pick 2 rfl).pick 1 rfl; have K2 := Lib.hid K1; clear K1 K; (try clear a0); (try clear l0); (try clear a1); (try clear l1); (try clear a2); (try clear l2); have K := K2; clear K2; have a3 := K.out.rd 3 rfl; have l3 := K.out.ltp 3 rfl))
      have K1 : sat E _ (getA g2 (GetM.new confH 0 0 1) :: memA gm (m3H m1) :: getA gg g8 :: pt gc (.cells #[.int .i64 2, .int .i64 2, .int .i64 0, .int .i64 0] 28 (0, 0)) :: []) := K.out
      clear K
      have K := Lib.hid K1
      clear K1
      go_loopg [6] 13 (fun gk i w' => ∃ j : Nat, j + gk = 13 ∧ i = .int .i64 j ∧ sat E w' [getA g2 (GetM.run (GetM.new confH 0 0 1) (m3H m1) j).1, memA gm (GetM.run (GetM.new confH 0 0 1) (m3H m1) j).2, getA gg g8, pt gc (.cells #[.int .i64 2, .int .i64 2, .int .i64 0, .int .i64 0] 28 (0, 0))])
      case atStart => exact ⟨0, by simp, rfl, K.out⟩
      case round =>
        obtain ⟨j, hj, rfl, hs⟩ := hrel
        clear K
        have K := Lib.hid hs
        clear hs
        have a3 := K.out.rd 3 rfl
        have l3 := K.out.ltp 3 rfl
        have GQ := fun w' (M : List SA) (h : sat E w' (getA g2 (GetM.run (GetM.new confH 0 0 1) (m3H m1) j).1 :: M)) => Lib.hid (gphase_calls g2 (GetM.run (GetM.new confH 0 0 1) (m3H m1) j).1 h)
        have HJ := Lib.hid hj
        rcases Nat.lt_or_ge j 13 with q | q
        · have p0 := HS.out.1.before j q
          rw [p0] at GQ
          have GS := fun w' (M : List SA) (h : sat E w' (getA g2 (GetM.run (GetM.new confH 0 0 1) (m3H m1) j).1 :: memA gm (GetM.run (GetM.new confH 0 0 1) (m3H m1) j).2 :: M)) => Lib.hid (ends_step HS.out.1 g2 gm j q h)
          clear p0 hj
          have q50 : decide ((j : Int) < 50) = true := by simp; omega
          obtain ⟨gk', rfl⟩ : ∃ g', gk = g' + 1 := ⟨gk - 1, by have := HJ.out; omega⟩
          go_wp2_with (first | (go_at_call 20; (with_reducible refine (GQ _ _ K.out).out.mono ?_); rintro e w1 ⟨rfl, rfl⟩) | (go_at_call 18; (with_reducible refine ((GS _ _ (show sat E _ _ from by iterate 6 (try (with_reducible first | exact K.out | apply sat.alloc_any | apply sat.drew | apply sat.drewN)))).out).mono ?_); rintro e w1 ⟨rfl, K1⟩; have K2 := Lib.hid K1; clear K1 K; (try clear a0); (try clear l0); (try clear a1); (try clear l1); (try clear a2); (try clear l2); have K := K2; clear K2; have a3 := K.out.rd 3 rfl; have l3 := K.out.ltp 3 rfl))
          go_roundg gk'
          case measure => omega
          case rel => exact ⟨j + 1, by have := HJ.out; omega, by simp, K.out⟩
        · obtain rfl : j = 13 := by omega
          rw [HS.out.2.1] at GQ
          have GV := fun w' (M : List SA) (h : sat E w' (getA g2 (GetM.run (GetM.new confH 0 0 1) (m3H m1) 13).1 :: M)) => Lib.hid (gvalue_calls g2 (GetM.run (GetM.new confH 0 0 1) (m3H m1) 13).1 h)
          rw [HS.out.2.2] at GV
          clear hj q
          go_wp2_with (first | (go_at_call 20; (with_reducible refine (GQ _ _ K.out).out.mono ?_); rintro e w1 ⟨rfl, rfl⟩) | (go_at_call 20; (with_reducible refine (GP1 _ _ (K.out.pick 2 rfl)).out.mono ?_); rintro e w1 ⟨rfl, rfl⟩) | (go_at_call 19; (with_reducible refine (GV _ _ K.out).out.mono ?_); rintro e w1 ⟨rfl, rfl⟩) | (go_at_call 45; (with_reducible refine ((AN _).out).mono ?_); rintro e w1 ⟨rfl, hb⟩; have K1 := sat.grown (by repeat (with_reducible first | exact K.out | apply sat.alloc_any | apply sat.drew | apply sat.drewN)) hb; clear hb; have K2 := Lib.hid K1; clear K1 K; (try clear a0); (try clear l0); (try clear a1); (try clear l1); (try clear a2); (try clear l2); have K := K2; clear K2; have a3 := K.out.rd 3 rfl; have l3 := K.out.ltp 3 rfl))
          go_ret
          exact ⟨rfl, K.out.below⟩
end Go.Proofs.Ytdhcomklmckhoaa
