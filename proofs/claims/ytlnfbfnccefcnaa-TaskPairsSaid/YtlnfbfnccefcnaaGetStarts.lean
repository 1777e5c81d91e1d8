/- From wherever it begins to read, the same comes of it (GetStarts answers true at every input). No condition beyond the row's own. -/
import Derived.Test.YtlnfbfnccefcnaaGetAlone
namespace Go.Proofs.Ytlnfbfnccefcnaa
open Go.RowKit Go.SepYtlnfbfnccefcnaa
set_option linter.unusedSimpArgs false
set_option linter.unusedVariables false
set_option maxRecDepth 100000
set_option maxHeartbeats 4000000
/-- What comes of a get by itself, behind as many steps as it may take. -/
structure AtEnd (c : ConfM) (wh : Int) (m : MemM) (fin : Int) (r : GetM × MemM) : Prop where
  phase : r.1.phase = if atM (wordsM c m) fin < 0 then 2 else 1
  value : r.1.value = if atM (wordsM c m) fin < 0 then 0 else m.peek (c.value (atM (wordsM c m) fin))
  cells : r.2.cells = if atM (wordsM c m) fin < 0 then m.cells else tookM c wh (atM (wordsM c m) fin) m.cells
  words : wordsM c r.2 = if atM (wordsM c m) fin < 0 then wordsM c m else setI (wordsM c m) (atM (wordsM c m) fin) (unpack (m.peek (atM (wordsM c m) fin))).taken.pack
theorem alone_atEnd {c : ConfM} (hc : c.ok) {wh fin st : Int} (w0 : 0 ≤ wh) (w1 : wh < c.th) {m : MemM} (hl : (m.cells.length : Int) = c.cells) : AtEnd c wh m fin (GetM.run (GetM.new c wh fin st) m (2 * c.all.toNat + 5)) := by
  have h := get_alone hc (g := GetM.new c wh fin st) rfl w0 w1 (GetM.new_fresh _ _ _ _) hl
  have e : (GetM.new c wh fin st).fin = fin := rfl
  have ew : (GetM.new c wh fin st).who = wh := rfl
  rcases Int.lt_or_le (atM (wordsM c m) fin) 0 with hn | hn
  · obtain ⟨h1, h2, h3, h4, h5⟩ := h.none (by rw [e]; exact hn)
    have hs := GetM.run_stop (g := GetM.new c wh fin st) (m := m) (n := 2 * c.all.toNat) (by rw [h2]; decide) 5
    rw [hs]
    constructor
    · rw [if_pos hn]; exact h2
    · rw [if_pos hn]; exact h3
    · rw [if_pos hn]; exact h5
    · rw [if_pos hn]; exact wordsM_cells c h5
  · obtain ⟨h1, h2, h3, h4, h5⟩ := h.some (by rw [e]; exact hn)
    rw [e] at h3
    rw [e, ew] at h5
    have hlt : atM (wordsM c m) fin < c.all := by
      rcases atM_range (wordsM c m) fin with ⟨_, q⟩ | ⟨_, _, q, _⟩
      · omega
      · rw [wordsM_len] at q; omega
    constructor
    · rw [if_neg (by omega)]; exact h2
    · rw [if_neg (by omega)]; exact h3
    · rw [if_neg (by omega)]; exact h5
    · rw [if_neg (by omega)]; exact took_words hc w0 w1 hn hlt hl h5
section
variable {E w : World} {L : List SA}
theorem run_step {g : GetM} {m : MemM} (h : g.all 0 m) (hl : m.log.length ≤ 100000) (b bm j : Nat) (hj : j ≤ 100000) (hs : sat E w (getA b (GetM.run g m j).1 :: memA bm (GetM.run g m j).2 :: L)) :
    Calls Try.prog 21 #[.pointer (some ⟨b, 0, none⟩), .pointer (some ⟨bm, 0, none⟩)] w fun e w' => e = .returned (.int .i64 (GetM.run g m (j + 1)).1.phase) ∧ sat E w' (getA b (GetM.run g m (j + 1)).1 :: memA bm (GetM.run g m (j + 1)).2 :: L) := by
  have a := GetM.all_run h (Int.le_refl _) j (by omega)
  have b' := GetM.run_log_le h (Int.le_refl _) j (by omega)
  have c := a.okn.pass
  have d := a.okn.tries
  exact gstep_calls b bm _ _ a.okn.ok (by omega) (by omega) (by omega) hs
end
theorem getStarts_main (t s : Int) (right : Bool) (one two : Int) (p : Option Addr) (l : List ThingM) (cap : Nat) (E : World) (hwf : ∀ x ∈ l, x.wf) (ho : OldS ThingM.v 6 E p l) :
    Calls Try.prog 5 #[.int .i64 t, .int .i64 s, .slice p l.length cap, .bool right, .int .i64 one, .int .i64 two] E fun e w' => e = .returned (.bool true) ∧ Below E.heap.size E w' := by
  have K := Lib.hid (sat.start E)
  have HD := fun w => Lib.hid (head11_calls w)
  by_cases h64 : (l.length : Int) > 64
  · have c0 : decide ((l.length : Int) > 64) = true := by simpa using h64
    go_enter Try.func5, Try.ntmps5
    go_wp2_with (first | (go_at_call 13; (with_reducible refine ((HD _).out).mono ?_); rintro e w1 ⟨rfl, hb⟩; have K1 := sat.grown (by repeat (with_reducible first | exact K.out | apply sat.alloc_any | apply sat.drew | apply sat.drewN)) hb; clear hb; have K2 := Lib.hid K1; clear K1 K; (try clear a0); (try clear l0); (try clear a1); (try clear l1); (try clear a2); (try clear l2); have K := K2; clear K2))
    go_ret
    exact ⟨rfl, K.out.below⟩
  · have c0 : decide ((l.length : Int) > 64) = false := by simpa using h64
    have CF := fun w => Lib.hid (conf_calls t s 0 0 w)
    have hc := confS_ok t s 0 0
    have hsm := confS_small t s 0 0
    generalize confS t s 0 0 = c at *
    have H := Lib.hid ho
    have CE := fun w' (M : List SA) (h : sat E w' M) => Lib.hid (cells_calls c hc p l cap (by omega) hwf ho h)
    have hw := cellsM_wf (c := c) hwf (min c.all.toNat l.length)
    have hlog : (cellsM c l).log.length ≤ 200 := by have := cellsN_log c l (min c.all.toNat l.length); unfold cellsM; omega
    have hlen := cellsM_clen hc l
    rw [show cellsN c l (min c.all.toNat l.length) = cellsM c l from rfl] at hw
    have hal := hc.all_bd
    have hth := hc.th1
    have hth2 := hc.th2
    have A1 := GetM.new_all hc (who := 0) (by omega) (by omega) (endM right) one hw hlen
    have A2 := GetM.new_all hc (who := c.th - 1) (by omega) (by omega) (endM right) two hw hlen
    have E1 := alone_atEnd hc (wh := 0) (fin := endM right) (st := one) (by omega) (by omega) hlen
    have E2 := alone_atEnd hc (wh := c.th - 1) (fin := endM right) (st := two) (by omega) (by omega) hlen
    have GN1 := fun w' (M : List SA) (h : sat E w' M) => Lib.hid (getnew_calls c hc 0 (endM right) one h)
    have GN2 := fun w' (M : List SA) (h : sat E w' M) => Lib.hid (getnew_calls c hc (c.th - 1) (endM right) two h)
    have EN := fun w => Lib.hid (end_calls right w)
    have AN := fun w => Lib.hid (alone_calls c w hc)
    have z1 : IntKind.i64.wrap (c.th - 1) = c.th - 1 := wi (by omega) (by omega)
    have P0 : (if atM (wordsM c (cellsM c l)) (endM right) < 0 then (2 : Int) else 1) ≠ 0 := by split <;> decide
    have p1 := E1.phase
    have p2 := E2.phase
    have v1 := E1.value
    have v2 := E2.value
    have s1 := E1.words
    have s2 := E2.words
    have hXl : (if atM (wordsM c (cellsM c l)) (endM right) < 0 then wordsM c (cellsM c l) else setI (wordsM c (cellsM c l)) (atM (wordsM c (cellsM c l)) (endM right)) (unpack ((cellsM c l).peek (atM (wordsM c (cellsM c l)) (endM right)))).taken.pack).length = c.all.toNat := by
      split
      · exact wordsM_len _ _
      · rw [setI_length]; exact wordsM_len _ _
    generalize (if atM (wordsM c (cellsM c l)) (endM right) < 0 then wordsM c (cellsM c l) else setI (wordsM c (cellsM c l)) (atM (wordsM c (cellsM c l)) (endM right)) (unpack ((cellsM c l).peek (atM (wordsM c (cellsM c l)) (endM right)))).taken.pack) = X at s1 s2 hXl
    generalize (if atM (wordsM c (cellsM c l)) (endM right) < 0 then (2 : Int) else 1) = P at p1 p2 P0
    generalize (if atM (wordsM c (cellsM c l)) (endM right) < 0 then (0 : Int) else (cellsM c l).peek (c.value (atM (wordsM c (cellsM c l)) (endM right)))) = V at v1 v2
    have HP1 := Lib.hid p1
    have HP2 := Lib.hid p2
    have HV1 := Lib.hid v1
    have HV2 := Lib.hid v2
    have HS1 := Lib.hid s1
    have HS2 := Lib.hid s2
    have q0 : (P != 0) = true := by simpa using P0
    have RS1 := fun w' b bm j (M : List SA) (hj : j ≤ 100000) (h : sat E w' (getA b (GetM.run (GetM.new c 0 (endM right) one) (cellsM c l) j).1 :: memA bm (GetM.run (GetM.new c 0 (endM right) one) (cellsM c l) j).2 :: M)) => Lib.hid (run_step A1 (by omega) b bm j hj h)
    have RS2 := fun w' b bm j (M : List SA) (hj : j ≤ 100000) (h : sat E w' (getA b (GetM.run (GetM.new c (c.th - 1) (endM right) two) (cellsM c l) j).1 :: memA bm (GetM.run (GetM.new c (c.th - 1) (endM right) two) (cellsM c l) j).2 :: M)) => Lib.hid (run_step A2 (by omega) b bm j hj h)
    clear ho E1 E2 A1 A2 p1 p2 v1 v2 s1 s2 P0 hw hlen hlog
    generalize cellsM c l = m at *
    have HC := Lib.hid hc
    go_enter Try.func5, Try.ntmps5
    go_wp2_with (first | (go_at_call 13; (with_reducible refine ((HD _).out).mono ?_); rintro e w1 ⟨rfl, hb⟩; have K1 := sat.grown (by repeat (with_reducible first | exact K.out | apply sat.alloc_any | apply sat.drew | apply sat.drewN)) hb; clear hb; have K2 := Lib.hid K1; clear K1 K; (try clear a0); (try clear l0); (try clear a1); (try clear l1); (try clear a2); (try clear l2); have K := K2; clear K2) | (go_at_call 14; (with_reducible refine ((CF _).out).mono ?_); rintro e w1 ⟨rfl, hb⟩; have K1 := sat.grown (by repeat (with_reducible first | exact K.out | apply sat.alloc_any | apply sat.drew | apply sat.drewN)) hb; clear hb; have K2 := Lib.hid K1; clear K1 K; (try clear a0); (try clear l0); (try clear a1); (try clear l1); (try clear a2); (try clear l2); have K := K2; clear K2))
    have K1 := K.out.alloc (.cells #[.int .i64 c.th, .int .i64 c.sl, .int .i64 c.src, .int .i64 c.dl] 27)
    obtain ⟨gc, hgc⟩ : ∃ g, g = w1.heap.size := ⟨_, rfl⟩
    rw [← hgc] at K1 ⊢
    clear K hgc
    have K := Lib.hid K1
    clear K1
    have a0 := K.out.rd 0 rfl; have l0 := K.out.ltp 0 rfl
    go_wp2_with (first | ((fail_if_success (have _h := gm)); (go_at_call 15; (with_reducible refine ((CE _ _ (show sat E _ _ from by iterate 6 (try (with_reducible first | exact K.out | apply sat.alloc_any | apply sat.drew | apply sat.drewN)))).out).mono ?_); rintro e w1 ⟨gm, rfl, K1⟩; have K2 := Lib.hid K1; clear K1 K; (try clear a0); (try clear l0); (try clear a1); (try clear l1); (try clear a2); (try clear l2); have K := K2; clear K2; have a1 := K.out.rd 1 rfl; have l1 := K.out.ltp 1 rfl)) | (go_at_call 15; (with_reducible refine ((CE _ _ (show sat E _ _ from by iterate 6 (try (with_reducible first | exact K.out | apply sat.alloc_any | apply sat.drew | apply sat.drewN)))).out).mono ?_); rintro e w1 ⟨gn, rfl, K1⟩; have K2 := Lib.hid K1; clear K1 K; (try clear a0); (try clear l0); (try clear a1); (try clear l1); (try clear a2); (try clear l2); have K := K2; clear K2; have a2 := K.out.rd 2 rfl; have l2 := K.out.ltp 2 rfl))
    refine wp_region_noPanic ?_
    refine wp_region_held_drew (S := (fun w' => (∀ j, w'.cell? ⟨gc, j, none⟩ = ([.int .i64 c.th, .int .i64 c.sl, .int .i64 c.src, .int .i64 c.dl] : List Value)[j]?))) (by kernel_rfl) ?_ (fun hHeld => ?_)
    · ((try dsimp only); (first | exact sat.rd 2 (by repeat (with_reducible first | exact K.out | apply sat.alloc_any | apply sat.drew | apply sat.drewN)) rfl | exact sat.rd 3 (by repeat (with_reducible first | exact K.out | apply sat.alloc_any | apply sat.drew | apply sat.drewN)) rfl))
    refine tk 0 (some 36) ?_
    (try simp only [Act.put, p0, p1, p2])
    refine tk 1 (some 37) ?_
    (try simp only [Act.put, p0, p1, p2])
    refine tk 3 (some 39) ?_
    (try simp only [Act.put, p0, p1, p2])
    refine wpAnyH_ready (rs := [2]) (by kernel_rfl) (by simp) ?_
    refine AllReadyH.cons (o := _) rfl (fun kC hkC => ?_) AllReadyH.nil
    go_simp
    (first | (go_at_call 19; (with_reducible refine ((EN _).out).mono ?_); rintro e w1 ⟨rfl, hb⟩; have K1 := sat.grown (show sat _ _ _ from by first | exact K.out | exact K.out.drew) hb; clear hb; have K2 := Lib.hid K1; clear K1 K; (try clear a0); (try clear l0); (try clear f0); (try clear a1); (try clear l1); (try clear f1); (try clear a2); (try clear l2); (try clear f2); (try clear a3); (try clear l3); (try clear f3); (try clear a4); (try clear l4); (try clear f4); (try clear a5); (try clear l5); (try clear f5); have K := K2; clear K2; (try have a0 := K.out.rd 0 rfl); (try have l0 := K.out.ltp 0 rfl); (try have f0 := K.out.fr 0 rfl); (try have a1 := K.out.rd 1 rfl); (try have l1 := K.out.ltp 1 rfl); (try have f1 := K.out.fr 1 rfl); (try have a2 := K.out.rd 2 rfl); (try have l2 := K.out.ltp 2 rfl); (try have f2 := K.out.fr 2 rfl); (try have a3 := K.out.rd 3 rfl); (try have l3 := K.out.ltp 3 rfl); (try have f3 := K.out.fr 3 rfl)) | (go_at_call 18; (with_reducible refine ((GN1 _ _ (show sat E _ _ from by first | exact K.out | exact K.out.drew)).out).mono ?_); rintro e w1 ⟨ga, rfl, K1⟩; have K2 := Lib.hid K1; clear K1 K; (try clear a0); (try clear l0); (try clear f0); (try clear a1); (try clear l1); (try clear f1); (try clear a2); (try clear l2); (try clear f2); (try clear a3); (try clear l3); (try clear f3); (try clear a4); (try clear l4); (try clear f4); (try clear a5); (try clear l5); (try clear f5); have K := K2; clear K2; (try have a0 := K.out.rd 0 rfl); (try have l0 := K.out.ltp 0 rfl); (try have f0 := K.out.fr 0 rfl); (try have a1 := K.out.rd 1 rfl); (try have l1 := K.out.ltp 1 rfl); (try have f1 := K.out.fr 1 rfl); (try have a2 := K.out.rd 2 rfl); (try have l2 := K.out.ltp 2 rfl); (try have f2 := K.out.fr 2 rfl); (try have a3 := K.out.rd 3 rfl); (try have l3 := K.out.ltp 3 rfl); (try have f3 := K.out.fr 3 rfl)))
    refine shown hkC _ _ (by (try dsimp only); (first | exact sat.rd 2 (by repeat (with_reducible first | exact K.out | apply sat.alloc_any | apply sat.drew | apply sat.drewN)) rfl | exact sat.rd 3 (by repeat (with_reducible first | exact K.out | apply sat.alloc_any | apply sat.drew | apply sat.drewN)) rfl)) ?_; clear hkC kC hHeld; intro hHeld
    (try simp only [Act.put, p0, p1, p2])
    refine wpAnyH_ready (rs := [4]) (by kernel_rfl) (by simp) ?_
    refine AllReadyH.cons (o := _) rfl (fun kC hkC => ?_) AllReadyH.nil
    go_simp
    (first | (go_at_call 19; (with_reducible refine ((EN _).out).mono ?_); rintro e w1 ⟨rfl, hb⟩; have K1 := sat.grown (show sat _ _ _ from by first | exact K.out | exact K.out.drew) hb; clear hb; have K2 := Lib.hid K1; clear K1 K; (try clear a0); (try clear l0); (try clear f0); (try clear a1); (try clear l1); (try clear f1); (try clear a2); (try clear l2); (try clear f2); (try clear a3); (try clear l3); (try clear f3); (try clear a4); (try clear l4); (try clear f4); (try clear a5); (try clear l5); (try clear f5); have K := K2; clear K2; (try have a0 := K.out.rd 0 rfl); (try have l0 := K.out.ltp 0 rfl); (try have f0 := K.out.fr 0 rfl); (try have a1 := K.out.rd 1 rfl); (try have l1 := K.out.ltp 1 rfl); (try have f1 := K.out.fr 1 rfl); (try have a2 := K.out.rd 2 rfl); (try have l2 := K.out.ltp 2 rfl); (try have f2 := K.out.fr 2 rfl); (try have a3 := K.out.rd 3 rfl); (try have l3 := K.out.ltp 3 rfl); (try have f3 := K.out.fr 3 rfl)) | (go_at_call 18; (with_reducible refine ((GN1 _ _ (show sat E _ _ from by first | exact K.out | exact K.out.drew)).out).mono ?_); rintro e w1 ⟨ga, rfl, K1⟩; have K2 := Lib.hid K1; clear K1 K; (try clear a0); (try clear l0); (try clear f0); (try clear a1); (try clear l1); (try clear f1); (try clear a2); (try clear l2); (try clear f2); (try clear a3); (try clear l3); (try clear f3); (try clear a4); (try clear l4); (try clear f4); (try clear a5); (try clear l5); (try clear f5); have K := K2; clear K2; (try have a0 := K.out.rd 0 rfl); (try have l0 := K.out.ltp 0 rfl); (try have f0 := K.out.fr 0 rfl); (try have a1 := K.out.rd 1 rfl); (try have l1 := K.out.ltp 1 rfl); (try have f1 := K.out.fr 1 rfl); (try have a2 := K.out.rd 2 rfl); (try have l2 := K.out.ltp 2 rfl); (try have f2 := K.out.fr 2 rfl); (try have a3 := K.out.rd 3 rfl); (try have l3 := K.out.ltp 3 rfl); (try have f3 := K.out.fr 3 rfl)))
    refine shown hkC _ _ (by (try dsimp only); (first | exact sat.rd 2 (by repeat (with_reducible first | exact K.out | apply sat.alloc_any | apply sat.drew | apply sat.drewN)) rfl | exact sat.rd 3 (by repeat (with_reducible first | exact K.out | apply sat.alloc_any | apply sat.drew | apply sat.drewN)) rfl)) ?_; clear hkC kC hHeld; intro hHeld
    (try simp only [Act.put, p0, p1, p2])
    refine tk 5 (some 16) ?_
    (try simp only [Act.put, p0, p1, p2])
    refine wpAnyH_done (by kernel_rfl) (NoPanic.normal ?_) _
    go_wp2_with fail
    refine wp_region_noPanic ?_
    refine wp_region_held_drew (S := (fun w' => (∀ j, w'.cell? ⟨gc, j, none⟩ = ([.int .i64 c.th, .int .i64 c.sl, .int .i64 c.src, .int .i64 c.dl] : List Value)[j]?))) (by kernel_rfl) ?_ (fun hHeld => ?_)
    · ((try dsimp only); (first | exact sat.rd 3 (by repeat (with_reducible first | exact K.out | apply sat.alloc_any | apply sat.drew | apply sat.drewN)) rfl | exact sat.rd 4 (by repeat (with_reducible first | exact K.out | apply sat.alloc_any | apply sat.drew | apply sat.drewN)) rfl))
    refine tk 0 (some 41) ?_
    (try simp only [Act.put, p0, p1, p2])
    refine tk 1 (some 42) ?_
    (try simp only [Act.put, p0, p1, p2])
    refine tk 2 (some 43) ?_
    (try simp only [Act.put, p0, p1, p2])
    refine tk 3 (some 44) ?_
    (try simp only [Act.put, p0, p1, p2])
    refine tk 4 (some 45) ?_
    (try simp only [Act.put, p0, p1, p2])
    refine tk 6 (some 47) ?_
    (try simp only [Act.put, p0, p1, p2])
    refine wpAnyH_ready (rs := [5]) (by kernel_rfl) (by simp) ?_
    refine AllReadyH.cons (o := _) rfl (fun kC hkC => ?_) AllReadyH.nil
    go_simp
    (first | (go_at_call 19; (with_reducible refine ((EN _).out).mono ?_); rintro e w1 ⟨rfl, hb⟩; have K1 := sat.grown (show sat _ _ _ from by first | exact K.out | exact K.out.drew) hb; clear hb; have K2 := Lib.hid K1; clear K1 K; (try clear a0); (try clear l0); (try clear f0); (try clear a1); (try clear l1); (try clear f1); (try clear a2); (try clear l2); (try clear f2); (try clear a3); (try clear l3); (try clear f3); (try clear a4); (try clear l4); (try clear f4); (try clear a5); (try clear l5); (try clear f5); have K := K2; clear K2; (try have a0 := K.out.rd 0 rfl); (try have l0 := K.out.ltp 0 rfl); (try have f0 := K.out.fr 0 rfl); (try have a1 := K.out.rd 1 rfl); (try have l1 := K.out.ltp 1 rfl); (try have f1 := K.out.fr 1 rfl); (try have a2 := K.out.rd 2 rfl); (try have l2 := K.out.ltp 2 rfl); (try have f2 := K.out.fr 2 rfl); (try have a3 := K.out.rd 3 rfl); (try have l3 := K.out.ltp 3 rfl); (try have f3 := K.out.fr 3 rfl)) | (go_at_call 18; (with_reducible refine ((GN2 _ _ (show sat E _ _ from by first | exact K.out | exact K.out.drew)).out).mono ?_); rintro e w1 ⟨gb, rfl, K1⟩; have K2 := Lib.hid K1; clear K1 K; (try clear a0); (try clear l0); (try clear f0); (try clear a1); (try clear l1); (try clear f1); (try clear a2); (try clear l2); (try clear f2); (try clear a3); (try clear l3); (try clear f3); (try clear a4); (try clear l4); (try clear f4); (try clear a5); (try clear l5); (try clear f5); have K := K2; clear K2; (try have a0 := K.out.rd 0 rfl); (try have l0 := K.out.ltp 0 rfl); (try have f0 := K.out.fr 0 rfl); (try have a1 := K.out.rd 1 rfl); (try have l1 := K.out.ltp 1 rfl); (try have f1 := K.out.fr 1 rfl); (try have a2 := K.out.rd 2 rfl); (try have l2 := K.out.ltp 2 rfl); (try have f2 := K.out.fr 2 rfl); (try have a3 := K.out.rd 3 rfl); (try have l3 := K.out.ltp 3 rfl); (try have f3 := K.out.fr 3 rfl)))
    refine shown hkC _ _ (by (try dsimp only); (first | exact sat.rd 3 (by repeat (with_reducible first | exact K.out | apply sat.alloc_any | apply sat.drew | apply sat.drewN)) rfl | exact sat.rd 4 (by repeat (with_reducible first | exact K.out | apply sat.alloc_any | apply sat.drew | apply sat.drewN)) rfl)) ?_; clear hkC kC hHeld; intro hHeld
    (try simp only [Act.put, p0, p1, p2])
    refine wpAnyH_ready (rs := [7]) (by kernel_rfl) (by simp) ?_
    refine AllReadyH.cons (o := _) rfl (fun kC hkC => ?_) AllReadyH.nil
    go_simp
    (first | (go_at_call 19; (with_reducible refine ((EN _).out).mono ?_); rintro e w1 ⟨rfl, hb⟩; have K1 := sat.grown (show sat _ _ _ from by first | exact K.out | exact K.out.drew) hb; clear hb; have K2 := Lib.hid K1; clear K1 K; (try clear a0); (try clear l0); (try clear f0); (try clear a1); (try clear l1); (try clear f1); (try clear a2); (try clear l2); (try clear f2); (try clear a3); (try clear l3); (try clear f3); (try clear a4); (try clear l4); (try clear f4); (try clear a5); (try clear l5); (try clear f5); have K := K2; clear K2; (try have a0 := K.out.rd 0 rfl); (try have l0 := K.out.ltp 0 rfl); (try have f0 := K.out.fr 0 rfl); (try have a1 := K.out.rd 1 rfl); (try have l1 := K.out.ltp 1 rfl); (try have f1 := K.out.fr 1 rfl); (try have a2 := K.out.rd 2 rfl); (try have l2 := K.out.ltp 2 rfl); (try have f2 := K.out.fr 2 rfl); (try have a3 := K.out.rd 3 rfl); (try have l3 := K.out.ltp 3 rfl); (try have f3 := K.out.fr 3 rfl)) | (go_at_call 18; (with_reducible refine ((GN2 _ _ (show sat E _ _ from by first | exact K.out | exact K.out.drew)).out).mono ?_); rintro e w1 ⟨gb, rfl, K1⟩; have K2 := Lib.hid K1; clear K1 K; (try clear a0); (try clear l0); (try clear f0); (try clear a1); (try clear l1); (try clear f1); (try clear a2); (try clear l2); (try clear f2); (try clear a3); (try clear l3); (try clear f3); (try clear a4); (try clear l4); (try clear f4); (try clear a5); (try clear l5); (try clear f5); have K := K2; clear K2; (try have a0 := K.out.rd 0 rfl); (try have l0 := K.out.ltp 0 rfl); (try have f0 := K.out.fr 0 rfl); (try have a1 := K.out.rd 1 rfl); (try have l1 := K.out.ltp 1 rfl); (try have f1 := K.out.fr 1 rfl); (try have a2 := K.out.rd 2 rfl); (try have l2 := K.out.ltp 2 rfl); (try have f2 := K.out.fr 2 rfl); (try have a3 := K.out.rd 3 rfl); (try have l3 := K.out.ltp 3 rfl); (try have f3 := K.out.fr 3 rfl)))
    refine shown hkC _ _ (by (try dsimp only); (first | exact sat.rd 3 (by repeat (with_reducible first | exact K.out | apply sat.alloc_any | apply sat.drew | apply sat.drewN)) rfl | exact sat.rd 4 (by repeat (with_reducible first | exact K.out | apply sat.alloc_any | apply sat.drew | apply sat.drewN)) rfl)) ?_; clear hkC kC hHeld; intro hHeld
    (try simp only [Act.put, p0, p1, p2])
    refine tk 8 (some 17) ?_
    (try simp only [Act.put, p0, p1, p2])
    refine wpAnyH_done (by kernel_rfl) (NoPanic.normal ?_) _
    go_wp2_with fail
    have K1 : sat E _ [getA ga (GetM.run (GetM.new c 0 (endM right) one) m 0).1, memA gm (GetM.run (GetM.new c 0 (endM right) one) m 0).2, getA gb (GetM.run (GetM.new c (c.th - 1) (endM right) two) m 0).1, memA gn (GetM.run (GetM.new c (c.th - 1) (endM right) two) m 0).2, pt gc (.cells #[.int .i64 c.th, .int .i64 c.sl, .int .i64 c.src, .int .i64 c.dl] 27 (0, 0))] := (K.out.pick 3 rfl).pick 2 rfl
    clear K
    have K := Lib.hid K1
    clear K1
    generalize GetM.run (GetM.new c 0 (endM right) one) m = R1 at *
    generalize GetM.run (GetM.new c (c.th - 1) (endM right) two) m = R2 at *
    have hM : 2 * c.all.toNat + 5 ≤ 10000 := by omega
    have hM2 := Lib.hid (show 2 * c.all + 5 = ((2 * c.all.toNat + 5 : Nat) : Int) by omega)
    generalize 2 * c.all.toNat + 5 = M at *
    go_loopg [18] M (fun GG i w' => ∃ j : Nat, j + GG = M ∧ i = .int .i64 j ∧ sat E w' [getA ga (R1 j).1, memA gm (R1 j).2, getA gb (R2 j).1, memA gn (R2 j).2, pt gc (.cells #[.int .i64 c.th, .int .i64 c.sl, .int .i64 c.src, .int .i64 c.dl] 27 (0, 0))])
    case atStart => exact ⟨0, by simp, rfl, K.out⟩
    case round =>
      obtain ⟨j, hj, rfl, hs⟩ := hrel
      clear K
      have K := Lib.hid hs
      clear hs
      have a4 := K.out.rd 4 rfl
      have l4 := K.out.ltp 4 rfl
      have HJ := Lib.hid hj
      by_cases q : (j : Int) < 2 * c.all + 5
      · have d0 : decide ((j : Int) < 2 * c.all + 5) = true := by simpa using q
        have G1 := fun w' (M : List SA) (h : sat E w' (getA ga (R1 j).1 :: memA gm (R1 j).2 :: M)) => RS1 w' ga gm j M (by omega) h
        have G2 := fun w' (M : List SA) (h : sat E w' (getA gb (R2 j).1 :: memA gn (R2 j).2 :: M)) => RS2 w' gb gn j M (by omega) h
        obtain ⟨gq, rfl⟩ : ∃ g', gk = g' + 1 := ⟨gk - 1, by have := HJ.out; have := hM2.out; omega⟩
        go_wp2_with (first | (go_at_call 20; (with_reducible refine ((AN _).out).mono ?_); rintro e w1 ⟨rfl, hb⟩; have K1 := sat.grown (by repeat (with_reducible first | exact K.out | apply sat.alloc_any | apply sat.drew | apply sat.drewN)) hb; clear hb; have K2 := Lib.hid K1; clear K1 K; (try clear a0); (try clear l0); (try clear a1); (try clear l1); (try clear a2); (try clear l2); have K := K2; clear K2; have a4 := K.out.rd 4 rfl; have l4 := K.out.ltp 4 rfl) | (go_at_call 21; (with_reducible refine ((G1 _ _ (show sat E _ _ from by iterate 6 (try (with_reducible first | exact K.out | apply sat.alloc_any | apply sat.drew | apply sat.drewN)))).out).mono ?_); rintro e w1 ⟨rfl, K1⟩; have K2 := Lib.hid K1; clear K1 K; (try clear a0); (try clear l0); (try clear a1); (try clear l1); (try clear a2); (try clear l2); have K := K2; clear K2; have a4 := K.out.rd 4 rfl; have l4 := K.out.ltp 4 rfl) | (go_at_call 21; (with_reducible refine ((G2 _ _ (show sat E _ _ from by iterate 6 (try (with_reducible first | exact K.out | apply sat.alloc_any | apply sat.drew | apply sat.drewN))).cdab).out).mono ?_); rintro e w1 ⟨rfl, K1⟩; replace K1 := K1.uncdab; have K2 := Lib.hid K1; clear K1 K; (try clear a0); (try clear l0); (try clear a1); (try clear l1); (try clear a2); (try clear l2); have K := K2; clear K2; have a4 := K.out.rd 4 rfl; have l4 := K.out.ltp 4 rfl))
        go_roundg gq
        case measure => omega
        case rel => exact ⟨j + 1, by have := HJ.out; omega, by first | (simp; done) | (simp; exact w64 (by omega) (by omega)), K.out⟩
      · have d0 : decide ((j : Int) < 2 * c.all + 5) = false := by simpa using q
        have hjM : M = j := by have := hM2.out; omega
        subst hjM
        have W1 := fun w' (N : List SA) (h : sat E w' (memA gm (R1 M).2 :: N)) => Lib.hid (words_calls c HC.out gm (R1 M).2 h)
        have W2 := fun w' (N : List SA) (h : sat E w' (memA gn (R2 M).2 :: N)) => Lib.hid (words_calls c HC.out gn (R2 M).2 h)
        rw [HS1.out] at W1
        rw [HS2.out] at W2
        have P1 := fun w' (N : List SA) (h : sat E w' (getA ga (R1 M).1 :: N)) => Lib.hid (gphase_calls ga (R1 M).1 h)
        have P2 := fun w' (N : List SA) (h : sat E w' (getA gb (R2 M).1 :: N)) => Lib.hid (gphase_calls gb (R2 M).1 h)
        rw [HP1.out] at P1
        rw [HP2.out] at P2
        have V1 := fun w' (N : List SA) (h : sat E w' (getA ga (R1 M).1 :: N)) => Lib.hid (gvalue_calls ga (R1 M).1 h)
        have V2 := fun w' (N : List SA) (h : sat E w' (getA gb (R2 M).1 :: N)) => Lib.hid (gvalue_calls gb (R2 M).1 h)
        rw [HV1.out] at V1
        rw [HV2.out] at V2
        have qP : (P == P) = true := by simp
        have qV : (V == V) = true := by simp
        clear hj q
        go_wp2_with (first | (go_at_call 20; (with_reducible refine ((AN _).out).mono ?_); rintro e w1 ⟨rfl, hb⟩; have K1 := sat.grown (by repeat (with_reducible first | exact K.out | apply sat.alloc_any | apply sat.drew | apply sat.drewN)) hb; clear hb; have K2 := Lib.hid K1; clear K1 K; (try clear a0); (try clear l0); (try clear a1); (try clear l1); (try clear a2); (try clear l2); have K := K2; clear K2; have a4 := K.out.rd 4 rfl; have l4 := K.out.ltp 4 rfl) | ((fail_if_success (have _h := x1)); (go_at_call 17; (with_reducible refine ((W1 _ _ ((show sat E _ _ from by iterate 6 (try (with_reducible first | exact K.out | apply sat.alloc_any | apply sat.drew | apply sat.drewN))).pick 1 rfl)).out).mono ?_); rintro e w1 ⟨x1, k1, rfl, K1⟩; have K2 := Lib.hid K1; clear K1 K; (try clear a0); (try clear l0); (try clear a1); (try clear l1); (try clear a2); (try clear l2); have K := K2; clear K2; have a5 := K.out.rd 5 rfl; have l5 := K.out.ltp 5 rfl)) | (go_at_call 17; (with_reducible refine ((W2 _ _ ((show sat E _ _ from by iterate 6 (try (with_reducible first | exact K.out | apply sat.alloc_any | apply sat.drew | apply sat.drewN))).pick 4 rfl)).out).mono ?_); rintro e w1 ⟨x2, k2, rfl, K1⟩; have K2 := Lib.hid K1; clear K1 K; (try clear a0); (try clear l0); (try clear a1); (try clear l1); (try clear a2); (try clear l2); have K := K2; clear K2; have a6 := K.out.rd 6 rfl; have l6 := K.out.ltp 6 rfl))
        have K1 : sat E _ [rowA (.slice x2 c.all.toNat k2) 43 1 c.all.toNat (u64s X), memA gn (R2 M).2, rowA (.slice x1 c.all.toNat k1) 43 1 c.all.toNat (u64s X), memA gm (R1 M).2, getA ga (R1 M).1, getA gb (R2 M).1, pt gc (.cells #[.int .i64 c.th, .int .i64 c.sl, .int .i64 c.src, .int .i64 c.dl] 27 (0, 0))] := K.out
        obtain ⟨g2, hg2, _⟩ := Go.SepYtlnfbfnccefcnaa.row_some K1 (by omega)
        obtain ⟨g1, hg1, _⟩ := Go.SepYtlnfbfnccefcnaa.row_some (K1.pick 2 rfl) (by omega)
        subst hg2 hg1
        clear K
        have K := Lib.hid K1
        clear K1
        go_loopg [69] c.all.toNat (fun GG i w' => ∃ n : Nat, n + GG = c.all.toNat ∧ i = .int .i64 n ∧ sat E w' [rowA (.slice (some ⟨g2, 0, none⟩) c.all.toNat k2) 43 1 c.all.toNat (u64s X), memA gn (R2 M).2, rowA (.slice (some ⟨g1, 0, none⟩) c.all.toNat k1) 43 1 c.all.toNat (u64s X), memA gm (R1 M).2, getA ga (R1 M).1, getA gb (R2 M).1, pt gc (.cells #[.int .i64 c.th, .int .i64 c.sl, .int .i64 c.src, .int .i64 c.dl] 27 (0, 0))])
        case atStart => exact ⟨0, by simp, rfl, K.out⟩
        case round =>
          obtain ⟨n, hn, rfl, hs⟩ := hrel
          clear K
          have K := Lib.hid hs
          clear hs
          have HK := Lib.hid hn
          by_cases hlt : n < c.all.toNat
          · have d0 : decide (n < c.all.toNat) = true := by simpa using hlt
            have hX : (u64s X)[n]? = some (.int .u64 X[n]) := by simp [u64s, hXl, hlt]
            have y0 := K.out.row_rd 0 rfl n _ hX
            have y1 := K.out.row_rd 2 rfl n _ hX
            clear hX
            generalize X[n] = xv at *
            have cx : (xv != xv) = false := by simp
            have hn16 : n < 4096 := by omega
            obtain ⟨gq, rfl⟩ : ∃ g', gk = g' + 1 := ⟨gk - 1, by omega⟩
            clear hn
            go_wp2
            refine wp_region_noPanic ?_
            refine wp_region_held_drew (S := (fun w' => w'.cell? ⟨g2, n, none⟩ = some (.int .u64 xv) ∧ w'.cell? ⟨g1, n, none⟩ = some (.int .u64 xv))) (by kernel_rfl) ?_ (fun hHeld => ?_)
            · ((try dsimp only); (exact ⟨y0, y1⟩))
            refine tk 0 (some 72) ?_
            (try simp only [Act.put, p0, p1, p2])
            refine tk 1 (some 73) ?_
            (try simp only [Act.put, p0, p1, p2])
            refine tk 2 (some 74) ?_
            (try simp only [Act.put, p0, p1, p2])
            refine tk 3 (some 75) ?_
            (try simp only [Act.put, p0, p1, p2])
            refine tk 4 (some 76) ?_
            (try simp only [Act.put, p0, p1, p2])
            refine tk 5 (some 77) ?_
            (try simp only [Act.put, p0, p1, p2])
            refine tk 6 (some 78) ?_
            (try simp only [Act.put, p0, p1, p2])
            refine tk 7 (some 79) ?_
            (try simp only [Act.put, p0, p1, p2])
            refine tk 8 (some 80) ?_
            (try simp only [Act.put, p0, p1, p2])
            refine wpAnyH_done (by kernel_rfl) (NoPanic.normal ?_) _
            go_wp2
            go_roundg gq
            case measure => omega
            case rel => exact ⟨n + 1, by have := HK.out; omega, by first | (simp; done) | (simp; exact w64 (by omega) (by omega)), (by repeat (with_reducible first | exact K.out | apply sat.alloc_any | apply sat.drew | apply sat.drewN))⟩
          · have d0 : decide (n < c.all.toNat) = false := by simpa using hlt
            clear hn
            go_wp2_with (first | (go_at_call 22; (with_reducible refine (P1 _ _ (K.out.pick 4 rfl)).out.mono ?_); rintro e w1 ⟨rfl, rfl⟩) | (go_at_call 22; (with_reducible refine (P2 _ _ (K.out.pick 5 rfl)).out.mono ?_); rintro e w1 ⟨rfl, rfl⟩) | (go_at_call 23; (with_reducible refine (V1 _ _ (K.out.pick 4 rfl)).out.mono ?_); rintro e w1 ⟨rfl, rfl⟩) | (go_at_call 23; (with_reducible refine (V2 _ _ (K.out.pick 5 rfl)).out.mono ?_); rintro e w1 ⟨rfl, rfl⟩))
            go_ret
            exact ⟨rfl, K.out.below⟩
theorem getStarts_calls (W : World) (t : Int) (_ : (Lit.int .i64 t).wf = true) (s : Int) (_ : (Lit.int .i64 s).wf = true) (a : Option Addr) (len cap : Nat) (rows : List (List Value)) (h : RowsAt W thingK a len cap rows) (right : Bool) (one : Int) (_ : (Lit.int .i64 one).wf = true) (two : Int) (_ : (Lit.int .i64 two).wf = true) :
    Calls Try.prog 5 #[.int .i64 t, .int .i64 s, .slice a len cap, .bool right, .int .i64 one, .int .i64 two] W fun e W' => e = .returned (.bool true) ∧ Below W.heap.size W W' := by
  obtain ⟨l, rfl, hwf, ho⟩ := oldT_of h
  exact getStarts_main t s right one two a l cap W hwf ho
end Go.Proofs.Ytlnfbfnccefcnaa
