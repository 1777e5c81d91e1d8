/- A step of a Get. Conditions: as its parts' (GetM.ok), room for what is noted. -/
import Derived.Test.YtdhcomklmckhoaaGet
namespace Go.Proofs.Ytdhcomklmckhoaa
open Go.RowKit Go.SepYtdhcomklmckhoaa
set_option linter.unusedSimpArgs false
set_option linter.unusedVariables false
set_option maxRecDepth 100000
set_option maxHeartbeats 1000000
theorem chosen_snap (g : GetM) : g.chosen.snap = g.snap := by unfold GetM.chosen; dsimp only; split <;> rfl
section
variable {E w : World} {L : List SA}
theorem gS {b t : Nat} {a0 a1 a2 a3 a4 a5 a6 : Value} {rest : List Value} {M : List SA} (h : sat E w (pt b (.cells (a0 :: a1 :: a2 :: a3 :: a4 :: a5 :: a6 :: rest).toArray t (0, 0)) :: M)) :
    w.cell? ⟨b, 0, none⟩ = some a0 ∧ w.cell? ⟨b, 1, none⟩ = some a1 ∧ w.cell? ⟨b, 2, none⟩ = some a2 ∧ w.cell? ⟨b, 3, none⟩ = some a3 ∧ w.cell? ⟨b, 4, none⟩ = some a4 ∧ w.cell? ⟨b, 6, none⟩ = some a6 := by
  have := h.rd 0 rfl
  exact ⟨this 0, this 1, this 2, this 3, this 4, this 6⟩
theorem gstep_off (b bm : Nat) (g : GetM) (m : MemM) (hp : g.phase ≠ 0) (h : sat E w (getA b g :: memA bm m :: L)) :
    Calls Try.prog 18 #[.pointer (some ⟨b, 0, none⟩), .pointer (some ⟨bm, 0, none⟩)] w fun e w' => e = .returned (.int .i64 g.phase) ∧ sat E w' (getA b g :: memA bm m :: L) := by
  obtain ⟨bs, tv, h⟩ := getA_open h
  have K := Lib.hid h
  clear h
  have a0 := K.out.rd 0 rfl; have l0 := K.out.ltp 0 rfl
  have c0 : (g.phase == 0) = false := by simpa using hp
  clear hp
  go_enter Try.func18, Try.ntmps18
  go_wp2
  go_ret
  exact ⟨rfl, getA_shut K.out⟩
theorem gstep_none (b bm : Nat) (g : GetM) (m : MemM) (ho : g.ok) (hp : g.phase = 0) (ht : g.take = none) (hps : g.snap.pass < 1000000000) (hroom : m.log.length < 1000000000) (h : sat E w (getA b g :: memA bm m :: L)) :
    Calls Try.prog 18 #[.pointer (some ⟨b, 0, none⟩), .pointer (some ⟨bm, 0, none⟩)] w fun e w' => e = .returned (.int .i64 (g.step m).1.phase) ∧ sat E w' (getA b (g.step m).1 :: memA bm (g.step m).2 :: L) := by
  obtain ⟨bs, tv, h⟩ := getA_open h
  rw [ht] at h
  obtain ⟨rfl, h⟩ := takeO_none (h.pick 2 rfl)
  replace h : sat E w (getP b bs (.pointer none) g :: snapA bs g.snap :: memA bm m :: L) := h
  have hm := (memA_open (h.pick 2 rfl)).1
  have hk := SnapM.step_kept ho.snap hm ho.words hps
  have K := Lib.hid h
  clear h
  have a0 := K.out.rd 0 rfl; have l0 := K.out.ltp 0 rfl
  have c0 : (g.phase == 0) = true := by simpa using hp
  have SS := fun w (h : sat E w (snapA bs g.snap :: memA bm m :: getP b bs (.pointer none) g :: L)) => Lib.hid (sstep_calls bs bm g.snap m ho.snap hroom h)
  have e : g.step m = (if (g.snap.step m).1.phase = 1 then ({ g with snap := (g.snap.step m).1 } : GetM).chosen else { g with snap := (g.snap.step m).1 }, (g.snap.step m).2) := by
    unfold GetM.step
    rw [if_neg (by simpa using hp), ht]
  rw [e]
  generalize g.snap.step m = r at *
  dsimp only
  have HT := Lib.hid ht
  have hlen := hk.ok.len
  have hal := hk.ok.conf.all_bd
  by_cases h1 : r.1.phase = 1
  · rw [if_pos h1]
    have c1 : (r.1.phase == 1) = true := by simpa using h1
    have CH := fun w (L : List SA) (h : sat E w (getP b bs (.pointer none) { g with snap := r.1 } :: snapA bs r.1 :: L)) => Lib.hid (chosen_calls b bs { g with snap := r.1 } h1 hk.words (by show r.1.words.length ≤ _; omega) ht h)
    have hs := chosen_snap { g with snap := r.1 }
    have HS := Lib.hid hs
    clear hk e hp ho hm h1 hs ht hlen hal
    generalize ({ g with snap := r.1 } : GetM).chosen = g2 at *
    go_enter Try.func18, Try.ntmps18
    go_wp2_with (first | (go_at_call 30; (with_reducible refine ((SS _ (show sat E _ _ from by iterate 6 (try (with_reducible first | exact K.out | apply sat.alloc_any | apply sat.drew | apply sat.drewN))).bca).out).mono ?_); rintro e w1 ⟨rfl, K1⟩; replace K1 := K1.unbca; have K2 := Lib.hid K1; clear K1 K; (try clear a0); (try clear l0); (try clear a1); (try clear l1); (try clear a2); (try clear l2); have K := K2; clear K2; have a0 := K.out.rd 0 rfl; have l0 := K.out.ltp 0 rfl) | (go_at_call 48; (with_reducible refine (CH _ _ K.out).out.mono ?_); rintro e w1 ⟨rfl, tv, K1⟩; have K2 := Lib.hid K1; clear K1 K; (try clear a0); (try clear l0); (try clear a1); (try clear l1); (try clear a2); (try clear l2); have K := K2; clear K2; have a0 := K.out.rd 0 rfl; have l0 := K.out.ltp 0 rfl))
    go_ret
    refine ⟨rfl, getA_shut (bs := bs) (tv := tv) ?_⟩
    rw [HS.out]
    exact K.out
  · rw [if_neg h1]
    have c1 : (r.1.phase == 1) = false := by simpa using h1
    clear hk e hp ho hm h1 ht hlen hal
    go_enter Try.func18, Try.ntmps18
    go_wp2_with (first | (go_at_call 30; (with_reducible refine ((SS _ (show sat E _ _ from by iterate 6 (try (with_reducible first | exact K.out | apply sat.alloc_any | apply sat.drew | apply sat.drewN))).bca).out).mono ?_); rintro e w1 ⟨rfl, K1⟩; replace K1 := K1.unbca; have K2 := Lib.hid K1; clear K1 K; (try clear a0); (try clear l0); (try clear a1); (try clear l1); (try clear a2); (try clear l2); have K := K2; clear K2; have a0 := K.out.rd 0 rfl; have l0 := K.out.ltp 0 rfl))
    go_ret
    refine ⟨rfl, getA_shut (bs := bs) (tv := .pointer none) ?_⟩
    have K1 := (((takeO_mk K.out).pick 1 rfl).pick 2 rfl).pick 1 rfl
    rw [← HT.out] at K1
    exact K1
theorem gstep_some (b bm : Nat) (g : GetM) (t : TakeM) (m : MemM) (ho : g.ok) (hp : g.phase = 0) (ht : g.take = some t) (htr : g.tries < 1000000000) (hroom : m.log.length < 1000000000) (h : sat E w (getA b g :: memA bm m :: L)) :
    Calls Try.prog 18 #[.pointer (some ⟨b, 0, none⟩), .pointer (some ⟨bm, 0, none⟩)] w fun e w' => e = .returned (.int .i64 (g.step m).1.phase) ∧ sat E w' (getA b (g.step m).1 :: memA bm (g.step m).2 :: L) := by
  obtain ⟨bs, tv, h⟩ := getA_open h
  rw [ht] at h
  obtain ⟨bt, rfl, h⟩ := takeO_some (h.pick 2 rfl)
  replace h : sat E w (takeA bt t :: getP b bs (.pointer (some ⟨bt, 0, none⟩)) g :: snapA bs g.snap :: memA bm m :: L) := h
  have K := Lib.hid (h.pick 2 rfl |>.pick 2 rfl)
  clear h
  have K1 : sat E w (getP b bs (.pointer (some ⟨bt, 0, none⟩)) g :: snapA bs g.snap :: takeA bt t :: memA bm m :: L) := K.out
  clear K
  have K := Lib.hid K1
  clear K1
  have a0 := K.out.rd 0 rfl; have l0 := K.out.ltp 0 rfl
  have c0 : (g.phase == 0) = true := by simpa using hp
  have TS := fun w (h : sat E w (takeA bt t :: memA bm m :: getP b bs (.pointer (some ⟨bt, 0, none⟩)) g :: snapA bs g.snap :: L)) => Lib.hid (kstep_calls bt bm t m (ho.take t ht) hroom h)
  have e : g.step m = (if (t.step m).1.phase = 1 then { g with take := some (t.step m).1, value := (t.step m).1.get, phase := 1 } else if (t.step m).1.phase = 2 then { g with tries := g.tries + 1, take := none, snap := SnapM.new g.conf g.who g.start } else { g with take := some (t.step m).1 }, (t.step m).2) := by
    unfold GetM.step
    rw [if_neg (by simpa using hp), ht]
  rw [e]
  generalize t.step m = r at *
  dsimp only
  have TV := fun w (M : List SA) (h : sat E w (takeA bt r.1 :: M)) => Lib.hid (tvalue_calls bt r.1 h)
  have SN := fun w (L : List SA) (h : sat E w L) => Lib.hid (snapnew_calls g.conf ho.conf g.who g.start h)
  have t0 := ho.tries0
  have v1 : IntKind.i64.wrap (g.tries + 1) = g.tries + 1 := wi (by omega) (by omega)
  have w1' : wrap64 (g.tries + 1) = g.tries + 1 := w64 (by omega) (by omega)
  clear ho e ht hp
  by_cases h1 : r.1.phase = 1
  · rw [if_pos h1]
    have c1 : (r.1.phase == 1) = true := by simpa using h1
    clear h1
    go_enter Try.func18, Try.ntmps18
    go_wp2_with (first | (go_at_call 33; (with_reducible refine ((TS _ (show sat E _ _ from by iterate 6 (try (with_reducible first | exact K.out | apply sat.alloc_any | apply sat.drew | apply sat.drewN))).cdab).out).mono ?_); rintro e w1 ⟨rfl, K1⟩; replace K1 := K1.uncdab; have K2 := Lib.hid K1; clear K1 K; (try clear a0); (try clear l0); (try clear a1); (try clear l1); (try clear a2); (try clear l2); have K := K2; clear K2; have a0 := K.out.rd 0 rfl; have l0 := K.out.ltp 0 rfl) | (go_at_call 34; (with_reducible refine (TV _ _ (K.out.pick 2 rfl)).out.mono ?_); rintro e w1 ⟨rfl, rfl⟩) | ((with_reducible refine at_store ?_); refine st_store 0 K.out rfl rfl rfl rfl ?_ ?_ ?_ ?_; (· kernel_rfl); (· simp); (· simp [Value.oneCell']); intro w1 K1; simp only [List.set, putL] at K1; have K2 := Lib.hid K1; clear K1 K; (try clear a0); (try clear l0); (try clear a1); (try clear l1); (try clear a2); (try clear l2); have K := K2; clear K2; have a0 := K.out.rd 0 rfl; have l0 := K.out.ltp 0 rfl))
    go_ret
    exact ⟨rfl, getA_shut (bs := bs) (tv := .pointer (some ⟨bt, 0, none⟩)) ((takeO_put (K.out.pick 2 rfl)).pick 2 rfl |>.pick 2 rfl)⟩
  · have c1 : (r.1.phase == 1) = false := by simpa using h1
    rw [if_neg h1]
    by_cases h2 : r.1.phase = 2
    · rw [if_pos h2]
      have c2 : (r.1.phase == 2) = true := by simpa using h2
      clear h1 h2
      go_enter Try.func18, Try.ntmps18
      go_wp2_with (first | (go_at_call 33; (with_reducible refine ((TS _ (show sat E _ _ from by iterate 6 (try (with_reducible first | exact K.out | apply sat.alloc_any | apply sat.drew | apply sat.drewN))).cdab).out).mono ?_); rintro e w1 ⟨rfl, K1⟩; replace K1 := K1.uncdab; have K2 := Lib.hid K1; clear K1 K; (try clear a0); (try clear l0); (try clear a1); (try clear l1); (try clear a2); (try clear l2); have K := K2; clear K2; have a0 := K.out.rd 0 rfl; have l0 := K.out.ltp 0 rfl) | ((with_reducible refine at_store ?_); refine st_store 0 K.out rfl rfl rfl rfl ?_ ?_ ?_ ?_; (· kernel_rfl); (· simp); (· simp [Value.oneCell']); intro w1 K1; simp only [List.set, putL] at K1; have K2 := Lib.hid K1; clear K1 K; (try clear a0); (try clear l0); (try clear a1); (try clear l1); (try clear a2); (try clear l2); have K := K2; clear K2; have a0 := K.out.rd 0 rfl; have l0 := K.out.ltp 0 rfl))
      refine wp_region_noPanic ?_
      refine wp_region_held_drew (S := (fun w' => w'.cell? ⟨b, 0, none⟩ = some (.int .i64 g.conf.th) ∧ w'.cell? ⟨b, 1, none⟩ = some (.int .i64 g.conf.sl) ∧ w'.cell? ⟨b, 2, none⟩ = some (.int .i64 g.conf.src) ∧ w'.cell? ⟨b, 3, none⟩ = some (.int .i64 g.conf.dl) ∧ w'.cell? ⟨b, 4, none⟩ = some (.int .i64 g.who) ∧ w'.cell? ⟨b, 6, none⟩ = some (.int .i64 g.start))) (by kernel_rfl) ?_ (fun hHeld => ?_)
      · ((try dsimp only); (first | exact gS K.out | exact gS K.out.drew | exact gS (sat.drop (A := snapA gs (SnapM.new g.conf g.who g.start)) K.out) | exact gS (sat.drop (A := snapA gs (SnapM.new g.conf g.who g.start)) K.out.drew)))
      refine tk 0 (some 33) ?_
      (try simp only [Act.put, p0, p1, p2])
      refine tk 1 (some 34) ?_
      (try simp only [Act.put, p0, p1, p2])
      refine tk 2 (some 35) ?_
      (try simp only [Act.put, p0, p1, p2])
      refine tk 3 (some 36) ?_
      (try simp only [Act.put, p0, p1, p2])
      refine tk 4 (some 37) ?_
      (try simp only [Act.put, p0, p1, p2])
      refine tk 5 (some 38) ?_
      (try simp only [Act.put, p0, p1, p2])
      refine tk 6 (some 39) ?_
      (try simp only [Act.put, p0, p1, p2])
      refine tk 7 (some 40) ?_
      (try simp only [Act.put, p0, p1, p2])
      refine tk 8 (some 41) ?_
      (try simp only [Act.put, p0, p1, p2])
      refine tk 9 (some 42) ?_
      (try simp only [Act.put, p0, p1, p2])
      refine tk 10 (some 43) ?_
      (try simp only [Act.put, p0, p1, p2])
      refine tk 11 (some 44) ?_
      (try simp only [Act.put, p0, p1, p2])
      refine tk 12 (some 45) ?_
      (try simp only [Act.put, p0, p1, p2])
      refine tk 13 (some 46) ?_
      (try simp only [Act.put, p0, p1, p2])
      refine wpAnyH_ready (rs := [14]) (by kernel_rfl) (by simp) ?_
      refine AllReadyH.cons (o := _) rfl (fun kC hkC => ?_) AllReadyH.nil
      go_simp
      (first | (go_at_call 28; (with_reducible refine ((SN _ _ (show sat E _ _ from by first | exact K.out | exact K.out.drew)).out).mono ?_); rintro e w1 ⟨gs, rfl, K1⟩; have K2 := Lib.hid K1; clear K1 K; (try clear a0); (try clear l0); (try clear f0); (try clear a1); (try clear l1); (try clear f1); (try clear a2); (try clear l2); (try clear f2); (try clear a3); (try clear l3); (try clear f3); (try clear a4); (try clear l4); (try clear f4); (try clear a5); (try clear l5); (try clear f5); have K := K2; clear K2; (try have a0 := K.out.rd 0 rfl); (try have l0 := K.out.ltp 0 rfl); (try have f0 := K.out.fr 0 rfl); (try have a1 := K.out.rd 1 rfl); (try have l1 := K.out.ltp 1 rfl); (try have f1 := K.out.fr 1 rfl); (try have a2 := K.out.rd 2 rfl); (try have l2 := K.out.ltp 2 rfl); (try have f2 := K.out.fr 2 rfl); (try have a3 := K.out.rd 3 rfl); (try have l3 := K.out.ltp 3 rfl); (try have f3 := K.out.fr 3 rfl)))
      refine shown hkC _ _ (by (try dsimp only); (first | exact gS K.out | exact gS K.out.drew | exact gS (sat.drop (A := snapA gs (SnapM.new g.conf g.who g.start)) K.out) | exact gS (sat.drop (A := snapA gs (SnapM.new g.conf g.who g.start)) K.out.drew))) ?_; clear hkC kC hHeld; intro hHeld
      (try simp only [Act.put, p0, p1, p2])
      refine tk 15 (some 48) ?_
      (try simp only [Act.put, p0, p1, p2])
      refine tk 16 (some 49) ?_
      (try simp only [Act.put, p0, p1, p2])
      refine wpAnyH_ready (rs := [17]) (by kernel_rfl) (by simp) ?_
      refine AllReadyH.cons (o := _) rfl (fun kC hkC => ?_) AllReadyH.nil
      (first | (refine rg_store (E := E) (d := none) 0 (by kernel_rfl) rfl rfl (by first | exact K.out | exact K.out.drew) rfl rfl rfl rfl ?_ ?_ ?_ ?_; (· kernel_rfl); (· simp); (· simp [Value.oneCell']); intro w1 K1; simp only [List.set, putL] at K1; have K2 := Lib.hid K1; clear K1 K; (try clear a0); (try clear l0); (try clear f0); (try clear a1); (try clear l1); (try clear f1); (try clear a2); (try clear l2); (try clear f2); (try clear a3); (try clear l3); (try clear f3); (try clear a4); (try clear l4); (try clear f4); (try clear a5); (try clear l5); (try clear f5); have K := K2; clear K2; (try have a0 := K.out.rd 0 rfl); (try have l0 := K.out.ltp 0 rfl); (try have f0 := K.out.fr 0 rfl); (try have a1 := K.out.rd 1 rfl); (try have l1 := K.out.ltp 1 rfl); (try have f1 := K.out.fr 1 rfl); (try have a2 := K.out.rd 2 rfl); (try have l2 := K.out.ltp 2 rfl); (try have f2 := K.out.fr 2 rfl); (try have a3 := K.out.rd 3 rfl); (try have l3 := K.out.ltp 3 rfl); (try have f3 := K.out.fr 3 rfl)) | (refine rg_store (E := E) (d := none) 1 (by kernel_rfl) rfl rfl (by first | exact K.out | exact K.out.drew) rfl rfl rfl rfl ?_ ?_ ?_ ?_; (· kernel_rfl); (· simp); (· simp [Value.oneCell']); intro w1 K1; simp only [List.set, putL] at K1; have K2 := Lib.hid K1; clear K1 K; (try clear a0); (try clear l0); (try clear f0); (try clear a1); (try clear l1); (try clear f1); (try clear a2); (try clear l2); (try clear f2); (try clear a3); (try clear l3); (try clear f3); (try clear a4); (try clear l4); (try clear f4); (try clear a5); (try clear l5); (try clear f5); have K := K2; clear K2; (try have a0 := K.out.rd 0 rfl); (try have l0 := K.out.ltp 0 rfl); (try have f0 := K.out.fr 0 rfl); (try have a1 := K.out.rd 1 rfl); (try have l1 := K.out.ltp 1 rfl); (try have f1 := K.out.fr 1 rfl); (try have a2 := K.out.rd 2 rfl); (try have l2 := K.out.ltp 2 rfl); (try have f2 := K.out.fr 2 rfl); (try have a3 := K.out.rd 3 rfl); (try have l3 := K.out.ltp 3 rfl); (try have f3 := K.out.fr 3 rfl)) | (refine rg_store (E := E) (d := none) 2 (by kernel_rfl) rfl rfl (by first | exact K.out | exact K.out.drew) rfl rfl rfl rfl ?_ ?_ ?_ ?_; (· kernel_rfl); (· simp); (· simp [Value.oneCell']); intro w1 K1; simp only [List.set, putL] at K1; have K2 := Lib.hid K1; clear K1 K; (try clear a0); (try clear l0); (try clear f0); (try clear a1); (try clear l1); (try clear f1); (try clear a2); (try clear l2); (try clear f2); (try clear a3); (try clear l3); (try clear f3); (try clear a4); (try clear l4); (try clear f4); (try clear a5); (try clear l5); (try clear f5); have K := K2; clear K2; (try have a0 := K.out.rd 0 rfl); (try have l0 := K.out.ltp 0 rfl); (try have f0 := K.out.fr 0 rfl); (try have a1 := K.out.rd 1 rfl); (try have l1 := K.out.ltp 1 rfl); (try have f1 := K.out.fr 1 rfl); (try have a2 := K.out.rd 2 rfl); (try have l2 := K.out.ltp 2 rfl); (try have f2 := K.out.fr 2 rfl); (try have a3 := K.out.rd 3 rfl); (try have l3 := K.out.ltp 3 rfl); (try have f3 := K.out.fr 3 rfl)))
      refine shown hkC _ _ (by (try dsimp only); (first | exact gS K.out | exact gS K.out.drew | exact gS (sat.drop (A := snapA gs (SnapM.new g.conf g.who g.start)) K.out) | exact gS (sat.drop (A := snapA gs (SnapM.new g.conf g.who g.start)) K.out.drew))) ?_; clear hkC kC hHeld; intro hHeld
      (try simp only [Act.put, p0, p1, p2])
      refine tk 18 (some 50) ?_
      (try simp only [Act.put, p0, p1, p2])
      refine tk 19 (some 51) ?_
      (try simp only [Act.put, p0, p1, p2])
      refine wpAnyH_ready (rs := [20]) (by kernel_rfl) (by simp) ?_
      refine AllReadyH.cons (o := _) rfl (fun kC hkC => ?_) AllReadyH.nil
      (first | (refine rg_store (E := E) (d := none) 0 (by kernel_rfl) rfl rfl (by first | exact K.out | exact K.out.drew) rfl rfl rfl rfl ?_ ?_ ?_ ?_; (· kernel_rfl); (· simp); (· simp [Value.oneCell']); intro w1 K1; simp only [List.set, putL] at K1; have K2 := Lib.hid K1; clear K1 K; (try clear a0); (try clear l0); (try clear f0); (try clear a1); (try clear l1); (try clear f1); (try clear a2); (try clear l2); (try clear f2); (try clear a3); (try clear l3); (try clear f3); (try clear a4); (try clear l4); (try clear f4); (try clear a5); (try clear l5); (try clear f5); have K := K2; clear K2; (try have a0 := K.out.rd 0 rfl); (try have l0 := K.out.ltp 0 rfl); (try have f0 := K.out.fr 0 rfl); (try have a1 := K.out.rd 1 rfl); (try have l1 := K.out.ltp 1 rfl); (try have f1 := K.out.fr 1 rfl); (try have a2 := K.out.rd 2 rfl); (try have l2 := K.out.ltp 2 rfl); (try have f2 := K.out.fr 2 rfl); (try have a3 := K.out.rd 3 rfl); (try have l3 := K.out.ltp 3 rfl); (try have f3 := K.out.fr 3 rfl)) | (refine rg_store (E := E) (d := none) 1 (by kernel_rfl) rfl rfl (by first | exact K.out | exact K.out.drew) rfl rfl rfl rfl ?_ ?_ ?_ ?_; (· kernel_rfl); (· simp); (· simp [Value.oneCell']); intro w1 K1; simp only [List.set, putL] at K1; have K2 := Lib.hid K1; clear K1 K; (try clear a0); (try clear l0); (try clear f0); (try clear a1); (try clear l1); (try clear f1); (try clear a2); (try clear l2); (try clear f2); (try clear a3); (try clear l3); (try clear f3); (try clear a4); (try clear l4); (try clear f4); (try clear a5); (try clear l5); (try clear f5); have K := K2; clear K2; (try have a0 := K.out.rd 0 rfl); (try have l0 := K.out.ltp 0 rfl); (try have f0 := K.out.fr 0 rfl); (try have a1 := K.out.rd 1 rfl); (try have l1 := K.out.ltp 1 rfl); (try have f1 := K.out.fr 1 rfl); (try have a2 := K.out.rd 2 rfl); (try have l2 := K.out.ltp 2 rfl); (try have f2 := K.out.fr 2 rfl); (try have a3 := K.out.rd 3 rfl); (try have l3 := K.out.ltp 3 rfl); (try have f3 := K.out.fr 3 rfl)) | (refine rg_store (E := E) (d := none) 2 (by kernel_rfl) rfl rfl (by first | exact K.out | exact K.out.drew) rfl rfl rfl rfl ?_ ?_ ?_ ?_; (· kernel_rfl); (· simp); (· simp [Value.oneCell']); intro w1 K1; simp only [List.set, putL] at K1; have K2 := Lib.hid K1; clear K1 K; (try clear a0); (try clear l0); (try clear f0); (try clear a1); (try clear l1); (try clear f1); (try clear a2); (try clear l2); (try clear f2); (try clear a3); (try clear l3); (try clear f3); (try clear a4); (try clear l4); (try clear f4); (try clear a5); (try clear l5); (try clear f5); have K := K2; clear K2; (try have a0 := K.out.rd 0 rfl); (try have l0 := K.out.ltp 0 rfl); (try have f0 := K.out.fr 0 rfl); (try have a1 := K.out.rd 1 rfl); (try have l1 := K.out.ltp 1 rfl); (try have f1 := K.out.fr 1 rfl); (try have a2 := K.out.rd 2 rfl); (try have l2 := K.out.ltp 2 rfl); (try have f2 := K.out.fr 2 rfl); (try have a3 := K.out.rd 3 rfl); (try have l3 := K.out.ltp 3 rfl); (try have f3 := K.out.fr 3 rfl)))
      refine shown hkC _ _ (by (try dsimp only); (first | exact gS K.out | exact gS K.out.drew | exact gS (sat.drop (A := snapA gs (SnapM.new g.conf g.who g.start)) K.out) | exact gS (sat.drop (A := snapA gs (SnapM.new g.conf g.who g.start)) K.out.drew))) ?_; clear hkC kC hHeld; intro hHeld
      (try simp only [Act.put, p0, p1, p2])
      refine wpAnyH_done (by kernel_rfl) (NoPanic.normal ?_) _
      all_goals
        go_wp2
        go_ret
        refine ⟨rfl, getA_shut (bs := gs) (tv := .pointer none) ?_⟩
        exact (takeO_mk ((K.out.pick 3 rfl).drop.pick 2 rfl).drop |>.pick 1 rfl).pick 2 rfl
    · have c2 : (r.1.phase == 2) = false := by simpa using h2
      rw [if_neg h2]
      clear h1 h2
      go_enter Try.func18, Try.ntmps18
      go_wp2_with (first | (go_at_call 33; (with_reducible refine ((TS _ (show sat E _ _ from by iterate 6 (try (with_reducible first | exact K.out | apply sat.alloc_any | apply sat.drew | apply sat.drewN))).cdab).out).mono ?_); rintro e w1 ⟨rfl, K1⟩; replace K1 := K1.uncdab; have K2 := Lib.hid K1; clear K1 K; (try clear a0); (try clear l0); (try clear a1); (try clear l1); (try clear a2); (try clear l2); have K := K2; clear K2; have a0 := K.out.rd 0 rfl; have l0 := K.out.ltp 0 rfl) | ((with_reducible refine at_store ?_); refine st_store 0 K.out rfl rfl rfl rfl ?_ ?_ ?_ ?_; (· kernel_rfl); (· simp); (· simp [Value.oneCell']); intro w1 K1; simp only [List.set, putL] at K1; have K2 := Lib.hid K1; clear K1 K; (try clear a0); (try clear l0); (try clear a1); (try clear l1); (try clear a2); (try clear l2); have K := K2; clear K2; have a0 := K.out.rd 0 rfl; have l0 := K.out.ltp 0 rfl))
      go_ret
      exact ⟨rfl, getA_shut (bs := bs) (tv := .pointer (some ⟨bt, 0, none⟩)) ((takeO_put (K.out.pick 2 rfl)).pick 2 rfl |>.pick 2 rfl)⟩
/-- A step of a Get. -/
theorem gstep_calls (b bm : Nat) (g : GetM) (m : MemM) (ho : g.ok) (hps : g.snap.pass < 1000000000) (htr : g.tries < 1000000000) (hroom : m.log.length < 1000000000) (h : sat E w (getA b g :: memA bm m :: L)) :
    Calls Try.prog 18 #[.pointer (some ⟨b, 0, none⟩), .pointer (some ⟨bm, 0, none⟩)] w fun e w' => e = .returned (.int .i64 (g.step m).1.phase) ∧ sat E w' (getA b (g.step m).1 :: memA bm (g.step m).2 :: L) := by
  by_cases hp : g.phase = 0
  · cases ht : g.take with
    | none => exact gstep_none b bm g m ho hp ht hps hroom h
    | some t => exact gstep_some b bm g t m ho hp ht htr hroom h
  · have e : g.step m = (g, m) := by unfold GetM.step; rw [if_pos hp]
    rw [e]
    exact gstep_off b bm g m hp h
end
/-! ### What a step of a Get keeps -/
theorem GetM.new_ok {c : ConfM} (hc : c.ok) {who : Int} (h0 : 0 ≤ who) (h1 : who < c.th) (fin start : Int) : (GetM.new c who fin start).ok :=
  ⟨hc, h0, h1, SnapM.new_ok hc h0 h1 start, rfl, rfl, wfs_rep _, (fun t h => by cases h), Int.le_refl _, by show (0 : Int) ≤ _; omega⟩
/-- The conditions, with the number of steps done so far. -/
structure GetM.okn (n : Int) (g : GetM) : Prop where
  ok : g.ok
  pass : g.snap.pass ≤ n
  tries : g.tries ≤ n
  steps : ∀ t, g.take = some t → t.steps ≤ n
structure GetM.kept (n : Int) (g g' : GetM) : Prop where
  okn : g'.okn n
  conf : g'.conf = g.conf
  who : g'.who = g.who
  fin : g'.fin = g.fin
  start : g'.start = g.start
theorem GetM.new_okn {c : ConfM} (hc : c.ok) {who : Int} (h0 : 0 ≤ who) (h1 : who < c.th) (fin start : Int) : (GetM.new c who fin start).okn 0 :=
  ⟨GetM.new_ok hc h0 h1 fin start, Int.le_refl _, Int.le_refl _, (fun t h => by cases h)⟩
theorem GetM.chosen_kept {g : GetM} {n : Int} (h : g.okn n) (hn : 0 ≤ n) : GetM.kept n g g.chosen := by
  have hr := atM_range g.snap.words g.fin
  unfold GetM.chosen
  dsimp only
  split
  · exact ⟨⟨⟨h.ok.conf, h.ok.who0, h.ok.who1, h.ok.snap, h.ok.sc, h.ok.sw, h.ok.words, h.ok.take, h.ok.tries0, h.ok.tries1⟩, h.pass, h.tries, h.steps⟩, rfl, rfl, rfl, rfl⟩
  · rename_i h0
    have hs : 0 ≤ atM g.snap.words g.fin ∧ atM g.snap.words g.fin < g.snap.words.length := by
      rcases hr with ⟨_, e⟩ | ⟨_, e1, e2, _⟩
      · omega
      · exact ⟨e1, e2⟩
    have hl := h.ok.snap.len
    rw [h.ok.sc] at hl
    refine ⟨⟨⟨h.ok.conf, h.ok.who0, h.ok.who1, h.ok.snap, h.ok.sc, h.ok.sw, h.ok.words, fun t ht => ?_, h.ok.tries0, h.ok.tries1⟩, h.pass, h.tries, fun t ht => ?_⟩, rfl, rfl, rfl, rfl⟩
    · simp only [Option.some.injEq] at ht
      subst ht
      exact TakeM.new_ok h.ok.conf h.ok.who0 h.ok.who1 hs.1 (by omega) (wfs_getI h.ok.words _)
    · simp only [Option.some.injEq] at ht
      subst ht
      exact hn
theorem GetM.step_kept {g : GetM} {m : MemM} {n : Int} (h : g.okn n) (h0 : 0 ≤ n) (hn : n < 1000000000) (hm : m.wf) : GetM.kept (n + 1) g (g.step m).1 := by
  have h1 := h.pass
  have h2 := h.tries
  have h3 := h.ok.tries0
  by_cases hp : g.phase = 0
  · cases ht : g.take with
    | none =>
      have e : g.step m = (if (g.snap.step m).1.phase = 1 then ({ g with snap := (g.snap.step m).1 } : GetM).chosen else { g with snap := (g.snap.step m).1 }, (g.snap.step m).2) := by
        unfold GetM.step
        rw [if_neg (by simpa using hp), ht]
      rw [e]
      have hk := SnapM.step_kept h.ok.snap hm h.ok.words (by omega)
      have hg : GetM.okn (n + 1) { g with snap := (g.snap.step m).1 } :=
        ⟨⟨h.ok.conf, h.ok.who0, h.ok.who1, hk.ok, hk.conf.trans h.ok.sc, hk.who.trans h.ok.sw, hk.words, h.ok.take, h3, h.ok.tries1⟩, by have := hk.pass; show (g.snap.step m).1.pass ≤ _; omega, by show g.tries ≤ _; omega, fun t ht => by have := h.steps t ht; omega⟩
      dsimp only
      split
      · have := GetM.chosen_kept hg (by omega)
        exact ⟨this.okn, this.conf, this.who, this.fin, this.start⟩
      · exact ⟨hg, rfl, rfl, rfl, rfl⟩
    | some t =>
      have hk := TakeM.step_kept (m := m) (h.ok.take t ht) (by have := h.steps t ht; omega)
      have hs := h.steps t ht
      have hks := hk.steps
      have e : g.step m = (if (t.step m).1.phase = 1 then { g with take := some (t.step m).1, value := (t.step m).1.get, phase := 1 } else if (t.step m).1.phase = 2 then { g with tries := g.tries + 1, take := none, snap := SnapM.new g.conf g.who g.start } else { g with take := some (t.step m).1 }, (t.step m).2) := by
        unfold GetM.step
        rw [if_neg (by simpa using hp), ht]
      rw [e]
      dsimp only
      split
      · refine ⟨⟨⟨h.ok.conf, h.ok.who0, h.ok.who1, h.ok.snap, h.ok.sc, h.ok.sw, h.ok.words, fun t' ht' => ?_, h3, h.ok.tries1⟩, by show g.snap.pass ≤ _; omega, by show g.tries ≤ _; omega, fun t' ht' => ?_⟩, rfl, rfl, rfl, rfl⟩
        · simp only [Option.some.injEq] at ht'; subst ht'; exact hk.ok
        · simp only [Option.some.injEq] at ht'; subst ht'; omega
      · split
        · refine ⟨⟨⟨h.ok.conf, h.ok.who0, h.ok.who1, SnapM.new_ok h.ok.conf h.ok.who0 h.ok.who1 g.start, rfl, rfl, wfs_rep _, (fun t' ht' => by cases ht'), by show 0 ≤ g.tries + 1; omega, by show g.tries + 1 ≤ _; omega⟩, by show (0 : Int) ≤ _; omega, by show g.tries + 1 ≤ _; omega, (fun t' ht' => by cases ht')⟩, rfl, rfl, rfl, rfl⟩
        · refine ⟨⟨⟨h.ok.conf, h.ok.who0, h.ok.who1, h.ok.snap, h.ok.sc, h.ok.sw, h.ok.words, fun t' ht' => ?_, h3, h.ok.tries1⟩, by show g.snap.pass ≤ _; omega, by show g.tries ≤ _; omega, fun t' ht' => ?_⟩, rfl, rfl, rfl, rfl⟩
          · simp only [Option.some.injEq] at ht'; subst ht'; exact hk.ok
          · simp only [Option.some.injEq] at ht'; subst ht'; omega
  · have e : g.step m = (g, m) := by unfold GetM.step; rw [if_pos hp]
    rw [e]
    exact ⟨⟨h.ok, by show g.snap.pass ≤ _; omega, by show g.tries ≤ _; omega, fun t ht => by have := h.steps t ht; omega⟩, rfl, rfl, rfl, rfl⟩
end Go.Proofs.Ytdhcomklmckhoaa
