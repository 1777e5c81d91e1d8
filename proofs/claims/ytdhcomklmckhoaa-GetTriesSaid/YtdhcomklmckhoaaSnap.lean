/- All places at one time (package snap): what each of its functions does. Conditions: a Right layout, a thread of it, room for what is noted. -/
import Derived.Test.YtdhcomklmckhoaaPut
import Derived.Test.YtdhcomklmckhoaaCopy
namespace Go.Proofs.Ytdhcomklmckhoaa
open Go.RowKit Go.SepYtdhcomklmckhoaa
set_option linter.unusedSimpArgs false
set_option linter.unusedVariables false
set_option maxRecDepth 100000
set_option maxHeartbeats 1000000
attribute [local go_sem] min2_w max2_w min_w max_w
abbrev SnapM.v (s : SnapM) (g : Nat) : List Value := [.int .i64 s.conf.th, .int .i64 s.conf.sl, .int .i64 s.conf.src, .int .i64 s.conf.dl, .int .i64 s.who, .int .i64 s.start, .int .i64 s.k, .int .i64 s.pass, .bool s.same, .slice (some ⟨g, 0, none⟩) s.words.length s.words.length, .int .i64 s.phase]
abbrev snapP (b g : Nat) (s : SnapM) : SA := pt b (.cells (s.v g).toArray 99 (0, 0))
abbrev u64A (g : Nat) (l : List Int) : SA := pt g (.cells (u64s l).toArray 31 (0, 0))
def snapA (b : Nat) (s : SnapM) : SA := fun h => ∃ g : Nat, bag [snapP b g s, u64A g s.words] h
structure SnapM.ok (s : SnapM) : Prop where
  conf : s.conf.ok
  who0 : 0 ≤ s.who
  who1 : s.who < s.conf.th
  st0 : 0 ≤ s.start
  st1 : s.start < s.conf.all
  k0 : 0 ≤ s.k
  k1 : s.k < s.conf.all
  p0 : 0 ≤ s.pass
  p1 : s.pass ≤ 1000000000
  len : (s.words.length : Int) = s.conf.all
theorem SnapM.ok.slot_bd {s : SnapM} (h : s.ok) : 0 ≤ s.slot ∧ s.slot < s.conf.all := by
  have := h.conf.all_bd
  unfold SnapM.slot
  exact ⟨Int.emod_nonneg _ (by omega), Int.emod_lt_of_pos _ (by omega)⟩
section
variable {E w : World} {L : List SA}
theorem snapA_open {b : Nat} {s : SnapM} (h : sat E w (snapA b s :: L)) : ∃ g : Nat, sat E w (snapP b g s :: u64A g s.words :: L) := by
  obtain ⟨g, h⟩ := h.ex
  exact ⟨g, h.unbag⟩
theorem snapA_shut {b g : Nat} {s : SnapM} (h : sat E w (snapP b g s :: u64A g s.words :: L)) : sat E w (snapA b s :: L) :=
  sat.mkex g (sat.bag (M := [_, _]) h)
theorem _root_.Go.SepYtdhcomklmckhoaa.sat.cab {A B C : SA} (h : sat E w (A :: B :: C :: L)) : sat E w (C :: A :: B :: L) := h.pick 2 rfl
theorem _root_.Go.SepYtdhcomklmckhoaa.sat.uncab {A B C : SA} (h : sat E w (C :: A :: B :: L)) : sat E w (A :: B :: C :: L) := (h.pick 2 rfl).pick 2 rfl
theorem sphase_calls (b : Nat) (s : SnapM) (h : sat E w (snapA b s :: L)) :
    Calls Try.prog 126 #[.pointer (some ⟨b, 0, none⟩)] w fun e w' => e = .returned (.int .i64 s.phase) ∧ w = w' := by
  obtain ⟨g, h⟩ := snapA_open h
  have a0 := h.rd 0 rfl
  clear h
  go_enter Try.func126, Try.ntmps126
  go_wp2
  go_ret
  exact ⟨rfl, rfl⟩
theorem sstep_off (b bm : Nat) (s : SnapM) (m : MemM) (hp : s.phase ≠ 0) (h : sat E w (snapA b s :: memA bm m :: L)) :
    Calls Try.prog 30 #[.pointer (some ⟨b, 0, none⟩), .pointer (some ⟨bm, 0, none⟩)] w fun e w' => e = .returned (.int .i64 s.phase) ∧ sat E w' (snapA b s :: memA bm m :: L) := by
  obtain ⟨g, h⟩ := snapA_open h
  have K := Lib.hid h
  clear h
  have a0 := K.out.rd 0 rfl; have l0 := K.out.ltp 0 rfl
  have c0 : (s.phase == 0) = false := by simpa using hp
  clear hp
  go_enter Try.func30, Try.ntmps30
  go_wp2
  go_ret
  exact ⟨rfl, snapA_shut K.out⟩
theorem snapS {b g : Nat} {s s' : SnapM} {M : List SA} (h : sat E w (snapP b g s' :: M)) (hc : s'.conf = s.conf) (hw : s'.who = s.who) (hs : s'.start = s.start) (hk : s'.k = s.k) :
    w.cell? ⟨b, 0, none⟩ = some (.int .i64 s.conf.th) ∧ w.cell? ⟨b, 1, none⟩ = some (.int .i64 s.conf.sl) ∧ w.cell? ⟨b, 2, none⟩ = some (.int .i64 s.conf.src) ∧ w.cell? ⟨b, 3, none⟩ = some (.int .i64 s.conf.dl) ∧ w.cell? ⟨b, 4, none⟩ = some (.int .i64 s.who) ∧ w.cell? ⟨b, 5, none⟩ = some (.int .i64 s.start) ∧ w.cell? ⟨b, 6, none⟩ = some (.int .i64 s.k) := by
  have := h.rd 0 rfl
  rw [← hc, ← hw, ← hs, ← hk]
  exact ⟨this 0, this 1, this 2, this 3, this 4, this 5, this 6⟩
theorem u64s_set (l : List Int) (i : Nat) (x : Int) : (u64s l).set i (.int .u64 x) = u64s (l.set i x) := by simp [u64s]
/-- What a step does behind the word that it read. -/
def SnapM.rest (s : SnapM) (same : Bool) (x : Int) : SnapM :=
  if s.k + 1 < s.conf.all then { s with same := same, words := setI s.words s.slot x, k := s.k + 1 }
  else { s with same := same, words := setI s.words s.slot x, k := 0, pass := s.pass + 1, phase := if same then 1 else 0 }
def SnapM.same0 (s : SnapM) : Bool := if s.k = 0 then decide (s.pass > 0) else s.same
theorem SnapM.step_eq (s : SnapM) (m : MemM) (hp : s.phase = 0) : s.step m = (s.rest (s.same0 && decide (m.peek s.slot = getI s.words s.slot)) (m.peek s.slot), m.touch s.who 0 s.slot 0 0) := by
  unfold SnapM.step SnapM.rest SnapM.same0
  rw [if_neg (by simpa using hp)]
-- printed by snaps.py from here on
theorem sstep_k0t (la eqb : Bool) (b bm : Nat) (s : SnapM) (m : MemM) (ho : s.ok) (hp : s.phase = 0) (hk : s.k = 0) (hroom : m.log.length < 1000000000) (hsm : s.same0 = true) (heq : decide (m.peek s.slot = getI s.words s.slot) = eqb) (hla : decide (s.k + 1 < s.conf.all) = la) (h : sat E w (snapA b s :: memA bm m :: L)) :
    Calls Try.prog 30 #[.pointer (some ⟨b, 0, none⟩), .pointer (some ⟨bm, 0, none⟩)] w fun e w' => e = .returned (.int .i64 (s.step m).1.phase) ∧ sat E w' (snapA b (s.step m).1 :: memA bm (s.step m).2 :: L) := by
  obtain ⟨g, h⟩ := snapA_open h
  have K := Lib.hid h
  clear h
  have a0 := K.out.rd 0 rfl; have l0 := K.out.ltp 0 rfl; have a1 := K.out.rd 1 rfl; have l1 := K.out.ltp 1 rfl
  have c0 : (s.phase == 0) = true := by simpa using hp
  have c1 : (s.k == 0) = true := by simpa using hk
  have B := ho.slot_bd
  obtain ⟨B0, B1⟩ := B
  have hal := ho.conf.all_bd
  obtain ⟨k0, k1⟩ := And.intro ho.k0 ho.k1
  obtain ⟨st0, st1⟩ := And.intro ho.st0 ho.st1
  obtain ⟨p0, p1⟩ := And.intro ho.p0 ho.p1
  have AL := fun w => Lib.hid (all_calls s.conf w ho.conf)
  obtain ⟨al0, al1⟩ := hal
  have v1 : IntKind.i64.wrap (s.start + s.k) = s.start + s.k := wi (by omega) (by omega)
  have v2 : Int.tmod (s.start + s.k) s.conf.all = s.slot := by unfold SnapM.slot; rw [Int.tmod_eq_emod_of_nonneg (by omega)]
  have v3 : IntKind.i64.wrap s.slot = s.slot := wi (by omega) (by omega)
  have z1 : (s.conf.all == 0) = false := by simp; omega
  have z2 : ¬ s.conf.all = 0 := by omega
  have hlen := ho.len
  have n0 : s.slot < s.words.length := by omega
  have gd := getD_cell B0 n0
  have d2 : decide (s.pass > 0) = true := by rw [← hsm]; unfold SnapM.same0; rw [if_pos hk]
  have LD := fun w (h : sat E w (memA bm m :: snapP b g ({ s with same := true } : SnapM) :: u64A g s.words :: L)) => Lib.hid (load_calls bm m s.who s.slot hroom h)
  have e := s.step_eq m hp
  rw [hsm, heq] at e
  generalize m.peek s.slot = x at LD e heq
  generalize getI s.words s.slot = y at gd heq
  have c2 : (x == y) = eqb := by rw [← heq]; rfl
  rw [e]
  obtain ⟨r, hr⟩ : ∃ r, r = s.rest (true && eqb) x := ⟨_, rfl⟩
  rw [← hr]
  unfold SnapM.rest at hr
  have HP := Lib.hid hp
  clear e hsm hp hk heq
  clear ho
  go_enter Try.func30, Try.ntmps30
  go_wp2_with (first | ((with_reducible refine at_store ?_); refine st_store 0 K.out rfl rfl rfl rfl ?_ ?_ ?_ ?_; (· kernel_rfl); (· simp); (· simp [Value.oneCell']); intro w1 K1; simp only [List.set, putL] at K1; have K2 := Lib.hid K1; clear K1 K; (try clear a0); (try clear l0); (try clear a1); (try clear l1); (try clear a2); (try clear l2); have K := K2; clear K2; have a0 := K.out.rd 0 rfl; have l0 := K.out.ltp 0 rfl; have a1 := K.out.rd 1 rfl; have l1 := K.out.ltp 1 rfl))
  have K1 : sat E _ (snapP b g ({ s with same := true } : SnapM) :: u64A g s.words :: memA bm m :: L) := K.out
  clear K a0 l0 a1 l1
  have K := Lib.hid K1
  clear K1
  have a0 := K.out.rd 0 rfl; have l0 := K.out.ltp 0 rfl; have a1 := K.out.rd 1 rfl; have l1 := K.out.ltp 1 rfl
  refine wp_region_noPanic ?_
  refine wp_region_held_drew (S := (fun w' => ∀ j, w'.cell? ⟨b, j, none⟩ = (SnapM.v ({ s with same := true } : SnapM) g)[j]?)) (by kernel_rfl) ?_ (fun hHeld => ?_)
  · ((try dsimp only); (exact sat.rd 0 (by repeat (with_reducible first | exact K.out | apply sat.alloc_any | apply sat.drew | apply sat.drewN)) rfl))
  refine tk 0 (some 29) ?_
  (try simp only [Act.put, p0, p1, p2])
  refine tk 1 (some 30) ?_
  (try simp only [Act.put, p0, p1, p2])
  refine tk 2 (some 31) ?_
  (try simp only [Act.put, p0, p1, p2])
  refine tk 3 (some 32) ?_
  (try simp only [Act.put, p0, p1, p2])
  refine tk 4 (some 33) ?_
  (try simp only [Act.put, p0, p1, p2])
  refine tk 5 (some 34) ?_
  (try simp only [Act.put, p0, p1, p2])
  refine tk 6 (some 35) ?_
  (try simp only [Act.put, p0, p1, p2])
  refine tk 7 (some 36) ?_
  (try simp only [Act.put, p0, p1, p2])
  refine tk 8 (some 37) ?_
  (try simp only [Act.put, p0, p1, p2])
  refine tk 9 (some 38) ?_
  (try simp only [Act.put, p0, p1, p2])
  refine tk 10 (some 39) ?_
  (try simp only [Act.put, p0, p1, p2])
  refine tk 11 (some 40) ?_
  (try simp only [Act.put, p0, p1, p2])
  refine tk 12 (some 41) ?_
  (try simp only [Act.put, p0, p1, p2])
  refine wpAnyH_ready (rs := [13]) (by kernel_rfl) (by simp) ?_
  refine AllReadyH.cons (o := _) rfl (fun kC hkC => ?_) AllReadyH.nil
  go_simp
  (first | (go_at_call 9; (with_reducible refine ((AL _).out).mono ?_); rintro e w1 ⟨rfl, hb⟩; have K1 := sat.grown (show sat _ _ _ from by first | exact K.out | exact K.out.drew) hb; clear hb; have K2 := Lib.hid K1; clear K1 K; (try clear a0); (try clear l0); (try clear f0); (try clear a1); (try clear l1); (try clear f1); (try clear a2); (try clear l2); (try clear f2); (try clear a3); (try clear l3); (try clear f3); (try clear a4); (try clear l4); (try clear f4); (try clear a5); (try clear l5); (try clear f5); have K := K2; clear K2; (try have a0 := K.out.rd 0 rfl); (try have l0 := K.out.ltp 0 rfl); (try have f0 := K.out.fr 0 rfl); (try have a1 := K.out.rd 1 rfl); (try have l1 := K.out.ltp 1 rfl); (try have f1 := K.out.fr 1 rfl); (try have a2 := K.out.rd 2 rfl); (try have l2 := K.out.ltp 2 rfl); (try have f2 := K.out.fr 2 rfl); (try have a3 := K.out.rd 3 rfl); (try have l3 := K.out.ltp 3 rfl); (try have f3 := K.out.fr 3 rfl)))
  refine shown hkC _ _ (by (try dsimp only); (exact sat.rd 0 (by repeat (with_reducible first | exact K.out | apply sat.alloc_any | apply sat.drew | apply sat.drewN)) rfl)) ?_; clear hkC kC hHeld; intro hHeld
  (try simp only [Act.put, p0, p1, p2])
  refine tk 14 (some 43) ?_
  (try simp only [Act.put, p0, p1, p2])
  refine tk 15 (some 5) ?_
  (try simp only [Act.put, p0, p1, p2])
  refine wpAnyH_done (by kernel_rfl) (NoPanic.normal ?_) _
  go_wp2_with fail
  refine wp_region_noPanic ?_
  refine wp_region_held_drew (S := (fun w' => ∀ j, w'.cell? ⟨b, j, none⟩ = (SnapM.v ({ s with same := true } : SnapM) g)[j]?)) (by kernel_rfl) ?_ (fun hHeld => ?_)
  · ((try dsimp only); (exact sat.rd 0 (by repeat (with_reducible first | exact K.out | apply sat.alloc_any | apply sat.drew | apply sat.drewN)) rfl))
  refine tk 0 (some 44) ?_
  (try simp only [Act.put, p0, p1, p2])
  refine tk 1 (some 45) ?_
  (try simp only [Act.put, p0, p1, p2])
  refine tk 2 (some 46) ?_
  (try simp only [Act.put, p0, p1, p2])
  refine tk 3 (some 47) ?_
  (try simp only [Act.put, p0, p1, p2])
  refine tk 4 (some 48) ?_
  (try simp only [Act.put, p0, p1, p2])
  refine tk 5 (some 49) ?_
  (try simp only [Act.put, p0, p1, p2])
  refine tk 6 (some 50) ?_
  (try simp only [Act.put, p0, p1, p2])
  refine tk 7 (some 51) ?_
  (try simp only [Act.put, p0, p1, p2])
  refine tk 8 (some 52) ?_
  (try simp only [Act.put, p0, p1, p2])
  refine tk 9 (some 53) ?_
  (try simp only [Act.put, p0, p1, p2])
  refine wpAnyH_ready (rs := [10]) (by kernel_rfl) (by simp) ?_
  refine AllReadyH.cons (o := _) rfl (fun kC hkC => ?_) AllReadyH.nil
  go_simp
  (first | (go_at_call 23; (with_reducible refine (word_calls s.conf _ s.slot).mono ?_); rintro e w1 ⟨rfl, hb⟩; have K1 := sat.grown (show sat _ _ _ from by first | exact K.out | exact K.out.drew) hb; clear hb; have K2 := Lib.hid K1; clear K1 K; (try clear a0); (try clear l0); (try clear f0); (try clear a1); (try clear l1); (try clear f1); (try clear a2); (try clear l2); (try clear f2); (try clear a3); (try clear l3); (try clear f3); (try clear a4); (try clear l4); (try clear f4); (try clear a5); (try clear l5); (try clear f5); have K := K2; clear K2; (try have a0 := K.out.rd 0 rfl); (try have l0 := K.out.ltp 0 rfl); (try have f0 := K.out.fr 0 rfl); (try have a1 := K.out.rd 1 rfl); (try have l1 := K.out.ltp 1 rfl); (try have f1 := K.out.fr 1 rfl); (try have a2 := K.out.rd 2 rfl); (try have l2 := K.out.ltp 2 rfl); (try have f2 := K.out.fr 2 rfl); (try have a3 := K.out.rd 3 rfl); (try have l3 := K.out.ltp 3 rfl); (try have f3 := K.out.fr 3 rfl)) | (go_at_call 51; (with_reducible refine ((LD _ (show sat E _ _ from by first | exact K.out | exact K.out.drew).cab).out).mono ?_); rintro e w1 ⟨rfl, K1⟩; replace K1 := K1.uncab; have K2 := Lib.hid K1; clear K1 K; (try clear a0); (try clear l0); (try clear f0); (try clear a1); (try clear l1); (try clear f1); (try clear a2); (try clear l2); (try clear f2); (try clear a3); (try clear l3); (try clear f3); (try clear a4); (try clear l4); (try clear f4); (try clear a5); (try clear l5); (try clear f5); have K := K2; clear K2; (try have a0 := K.out.rd 0 rfl); (try have l0 := K.out.ltp 0 rfl); (try have f0 := K.out.fr 0 rfl); (try have a1 := K.out.rd 1 rfl); (try have l1 := K.out.ltp 1 rfl); (try have f1 := K.out.fr 1 rfl); (try have a2 := K.out.rd 2 rfl); (try have l2 := K.out.ltp 2 rfl); (try have f2 := K.out.fr 2 rfl); (try have a3 := K.out.rd 3 rfl); (try have l3 := K.out.ltp 3 rfl); (try have f3 := K.out.fr 3 rfl)))
  refine shown hkC _ _ (by (try dsimp only); (exact sat.rd 0 (by repeat (with_reducible first | exact K.out | apply sat.alloc_any | apply sat.drew | apply sat.drewN)) rfl)) ?_; clear hkC kC hHeld; intro hHeld
  (try simp only [Act.put, p0, p1, p2])
  refine wpAnyH_ready (rs := [11]) (by kernel_rfl) (by simp) ?_
  refine AllReadyH.cons (o := _) rfl (fun kC hkC => ?_) AllReadyH.nil
  go_simp
  (first | (go_at_call 23; (with_reducible refine (word_calls s.conf _ s.slot).mono ?_); rintro e w1 ⟨rfl, hb⟩; have K1 := sat.grown (show sat _ _ _ from by first | exact K.out | exact K.out.drew) hb; clear hb; have K2 := Lib.hid K1; clear K1 K; (try clear a0); (try clear l0); (try clear f0); (try clear a1); (try clear l1); (try clear f1); (try clear a2); (try clear l2); (try clear f2); (try clear a3); (try clear l3); (try clear f3); (try clear a4); (try clear l4); (try clear f4); (try clear a5); (try clear l5); (try clear f5); have K := K2; clear K2; (try have a0 := K.out.rd 0 rfl); (try have l0 := K.out.ltp 0 rfl); (try have f0 := K.out.fr 0 rfl); (try have a1 := K.out.rd 1 rfl); (try have l1 := K.out.ltp 1 rfl); (try have f1 := K.out.fr 1 rfl); (try have a2 := K.out.rd 2 rfl); (try have l2 := K.out.ltp 2 rfl); (try have f2 := K.out.fr 2 rfl); (try have a3 := K.out.rd 3 rfl); (try have l3 := K.out.ltp 3 rfl); (try have f3 := K.out.fr 3 rfl)) | (go_at_call 51; (with_reducible refine ((LD _ (show sat E _ _ from by first | exact K.out | exact K.out.drew).cab).out).mono ?_); rintro e w1 ⟨rfl, K1⟩; replace K1 := K1.uncab; have K2 := Lib.hid K1; clear K1 K; (try clear a0); (try clear l0); (try clear f0); (try clear a1); (try clear l1); (try clear f1); (try clear a2); (try clear l2); (try clear f2); (try clear a3); (try clear l3); (try clear f3); (try clear a4); (try clear l4); (try clear f4); (try clear a5); (try clear l5); (try clear f5); have K := K2; clear K2; (try have a0 := K.out.rd 0 rfl); (try have l0 := K.out.ltp 0 rfl); (try have f0 := K.out.fr 0 rfl); (try have a1 := K.out.rd 1 rfl); (try have l1 := K.out.ltp 1 rfl); (try have f1 := K.out.fr 1 rfl); (try have a2 := K.out.rd 2 rfl); (try have l2 := K.out.ltp 2 rfl); (try have f2 := K.out.fr 2 rfl); (try have a3 := K.out.rd 3 rfl); (try have l3 := K.out.ltp 3 rfl); (try have f3 := K.out.fr 3 rfl)))
  refine shown hkC _ _ (by (try dsimp only); (exact sat.rd 0 (by repeat (with_reducible first | exact K.out | apply sat.alloc_any | apply sat.drew | apply sat.drewN)) rfl)) ?_; clear hkC kC hHeld; intro hHeld
  (try simp only [Act.put, p0, p1, p2])
  refine tk 12 (some 6) ?_
  (try simp only [Act.put, p0, p1, p2])
  refine wpAnyH_done (by kernel_rfl) (NoPanic.normal ?_) _
  go_wp2_with (first | ((with_reducible refine at_store ?_); refine st_store 0 K.out rfl rfl rfl rfl ?_ ?_ ?_ ?_; (· kernel_rfl); (· simp); (· simp [Value.oneCell']); intro w1 K1; simp only [List.set, putL] at K1; have K2 := Lib.hid K1; clear K1 K; (try clear a0); (try clear l0); (try clear a1); (try clear l1); (try clear a2); (try clear l2); have K := K2; clear K2; have a0 := K.out.rd 0 rfl; have l0 := K.out.ltp 0 rfl; have a1 := K.out.rd 1 rfl; have l1 := K.out.ltp 1 rfl) | ((with_reducible refine at_store ?_); refine st_store 1 K.out rfl rfl rfl rfl ?_ ?_ ?_ ?_; (· kernel_rfl); (· show _ + 1 ≤ _; simp [u64s]; omega); (· simp [Value.oneCell']); intro w1 K1; simp only [List.set, putL_one] at K1; have K2 := Lib.hid K1; clear K1 K; (try clear a0); (try clear l0); (try clear a1); (try clear l1); (try clear a2); (try clear l2); have K := K2; clear K2; have a0 := K.out.rd 0 rfl; have l0 := K.out.ltp 0 rfl; have a1 := K.out.rd 1 rfl; have l1 := K.out.ltp 1 rfl))
  have K1 : sat E _ (snapP b g { s with same := (true && eqb), k := s.k + 1 } :: pt g (.cells ((u64s s.words).set s.slot.toNat (.int .u64 x)).toArray 31 (0, 0)) :: memA bm (m.touch s.who 0 s.slot 0 0) :: L) := K.out
  clear K a0 l0 a1 l1
  have K := Lib.hid K1
  clear K1
  have a0 := K.out.rd 0 rfl; have l0 := K.out.ltp 0 rfl; have a1 := K.out.rd 1 rfl; have l1 := K.out.ltp 1 rfl
  refine wp_region_noPanic ?_
  refine wp_region_held_drew (S := (fun w' => ∀ j, w'.cell? ⟨b, j, none⟩ = (SnapM.v ({ s with same := (true && eqb), k := s.k + 1 } : SnapM) g)[j]?)) (by kernel_rfl) ?_ (fun hHeld => ?_)
  · ((try dsimp only); (exact sat.rd 0 (by repeat (with_reducible first | exact K.out | apply sat.alloc_any | apply sat.drew | apply sat.drewN)) rfl))
  refine tk 0 (some 88) ?_
  (try simp only [Act.put, p0, p1, p2])
  refine tk 1 (some 89) ?_
  (try simp only [Act.put, p0, p1, p2])
  refine tk 2 (some 90) ?_
  (try simp only [Act.put, p0, p1, p2])
  refine tk 3 (some 91) ?_
  (try simp only [Act.put, p0, p1, p2])
  refine tk 4 (some 92) ?_
  (try simp only [Act.put, p0, p1, p2])
  refine tk 5 (some 93) ?_
  (try simp only [Act.put, p0, p1, p2])
  refine tk 6 (some 94) ?_
  (try simp only [Act.put, p0, p1, p2])
  refine tk 7 (some 95) ?_
  (try simp only [Act.put, p0, p1, p2])
  refine wpAnyH_ready (rs := [8]) (by kernel_rfl) (by simp) ?_
  refine AllReadyH.cons (o := _) rfl (fun kC hkC => ?_) AllReadyH.nil
  go_simp
  (first | (go_at_call 9; (with_reducible refine ((AL _).out).mono ?_); rintro e w1 ⟨rfl, hb⟩; have K1 := sat.grown (show sat _ _ _ from by first | exact K.out | exact K.out.drew) hb; clear hb; have K2 := Lib.hid K1; clear K1 K; (try clear a0); (try clear l0); (try clear f0); (try clear a1); (try clear l1); (try clear f1); (try clear a2); (try clear l2); (try clear f2); (try clear a3); (try clear l3); (try clear f3); (try clear a4); (try clear l4); (try clear f4); (try clear a5); (try clear l5); (try clear f5); have K := K2; clear K2; (try have a0 := K.out.rd 0 rfl); (try have l0 := K.out.ltp 0 rfl); (try have f0 := K.out.fr 0 rfl); (try have a1 := K.out.rd 1 rfl); (try have l1 := K.out.ltp 1 rfl); (try have f1 := K.out.fr 1 rfl); (try have a2 := K.out.rd 2 rfl); (try have l2 := K.out.ltp 2 rfl); (try have f2 := K.out.fr 2 rfl); (try have a3 := K.out.rd 3 rfl); (try have l3 := K.out.ltp 3 rfl); (try have f3 := K.out.fr 3 rfl)))
  refine shown hkC _ _ (by (try dsimp only); (exact sat.rd 0 (by repeat (with_reducible first | exact K.out | apply sat.alloc_any | apply sat.drew | apply sat.drewN)) rfl)) ?_; clear hkC kC hHeld; intro hHeld
  (try simp only [Act.put, p0, p1, p2])
  refine tk 9 (some 97) ?_
  (try simp only [Act.put, p0, p1, p2])
  refine wpAnyH_done (by kernel_rfl) (NoPanic.normal ?_) _
  cases la with
  | true =>
    have hla' : s.k + 1 < s.conf.all := by simpa using hla
    rw [if_pos hla'] at hr
    go_wp2
    go_ret
    subst hr
    refine ⟨rfl, snapA_shut (g := g) (s := { s with same := (true && eqb), words := setI s.words s.slot x, k := s.k + 1 }) ?_⟩
    have K1 := K.out
    rw [u64s_set] at K1
    simp only [snapP, SnapM.v, setI, List.length_set]
    first | exact K1 | exact K1.drew
  | false =>
    have hla' : ¬ s.k + 1 < s.conf.all := by simpa using hla
    rw [if_neg hla'] at hr
    cases eqb
    all_goals
      go_wp2_with (first | ((with_reducible refine at_store ?_); refine st_store 0 K.out rfl rfl rfl rfl ?_ ?_ ?_ ?_; (· kernel_rfl); (· simp); (· simp [Value.oneCell']); intro w1 K1; simp only [List.set, putL] at K1; have K2 := Lib.hid K1; clear K1 K; (try clear a0); (try clear l0); (try clear a1); (try clear l1); (try clear a2); (try clear l2); have K := K2; clear K2; have a0 := K.out.rd 0 rfl; have l0 := K.out.ltp 0 rfl; have a1 := K.out.rd 1 rfl; have l1 := K.out.ltp 1 rfl))
      go_ret
      subst hr
      first
      | (refine ⟨by first | rfl | exact ret_i HP.out, snapA_shut (g := g) (s := { s with same := (true && true), words := setI s.words s.slot x, k := 0, pass := s.pass + 1, phase := if (true && true) = true then 1 else 0 }) ?_⟩; have K1 := K.out; rw [u64s_set] at K1; (try simp only [HP.out] at K1); simp only [snapP, SnapM.v, setI, List.length_set]; exact K1)
      | (refine ⟨by first | rfl | exact ret_i HP.out, snapA_shut (g := g) (s := { s with same := (true && false), words := setI s.words s.slot x, k := 0, pass := s.pass + 1, phase := if (true && false) = true then 1 else 0 }) ?_⟩; have K1 := K.out; rw [u64s_set] at K1; (try simp only [HP.out] at K1); simp only [snapP, SnapM.v, setI, List.length_set]; exact K1)
theorem sstep_k0f (la eqb : Bool) (b bm : Nat) (s : SnapM) (m : MemM) (ho : s.ok) (hp : s.phase = 0) (hk : s.k = 0) (hroom : m.log.length < 1000000000) (hsm : s.same0 = false) (heq : decide (m.peek s.slot = getI s.words s.slot) = eqb) (hla : decide (s.k + 1 < s.conf.all) = la) (h : sat E w (snapA b s :: memA bm m :: L)) :
    Calls Try.prog 30 #[.pointer (some ⟨b, 0, none⟩), .pointer (some ⟨bm, 0, none⟩)] w fun e w' => e = .returned (.int .i64 (s.step m).1.phase) ∧ sat E w' (snapA b (s.step m).1 :: memA bm (s.step m).2 :: L) := by
  obtain ⟨g, h⟩ := snapA_open h
  have K := Lib.hid h
  clear h
  have a0 := K.out.rd 0 rfl; have l0 := K.out.ltp 0 rfl; have a1 := K.out.rd 1 rfl; have l1 := K.out.ltp 1 rfl
  have c0 : (s.phase == 0) = true := by simpa using hp
  have c1 : (s.k == 0) = true := by simpa using hk
  have B := ho.slot_bd
  obtain ⟨B0, B1⟩ := B
  have hal := ho.conf.all_bd
  obtain ⟨k0, k1⟩ := And.intro ho.k0 ho.k1
  obtain ⟨st0, st1⟩ := And.intro ho.st0 ho.st1
  obtain ⟨p0, p1⟩ := And.intro ho.p0 ho.p1
  have AL := fun w => Lib.hid (all_calls s.conf w ho.conf)
  obtain ⟨al0, al1⟩ := hal
  have v1 : IntKind.i64.wrap (s.start + s.k) = s.start + s.k := wi (by omega) (by omega)
  have v2 : Int.tmod (s.start + s.k) s.conf.all = s.slot := by unfold SnapM.slot; rw [Int.tmod_eq_emod_of_nonneg (by omega)]
  have v3 : IntKind.i64.wrap s.slot = s.slot := wi (by omega) (by omega)
  have z1 : (s.conf.all == 0) = false := by simp; omega
  have z2 : ¬ s.conf.all = 0 := by omega
  have hlen := ho.len
  have n0 : s.slot < s.words.length := by omega
  have gd := getD_cell B0 n0
  have d2 : decide (s.pass > 0) = false := by rw [← hsm]; unfold SnapM.same0; rw [if_pos hk]
  have LD := fun w (h : sat E w (memA bm m :: snapP b g ({ s with same := false } : SnapM) :: u64A g s.words :: L)) => Lib.hid (load_calls bm m s.who s.slot hroom h)
  have e := s.step_eq m hp
  rw [hsm, heq] at e
  generalize m.peek s.slot = x at LD e heq
  generalize getI s.words s.slot = y at gd heq
  have c2 : (x == y) = eqb := by rw [← heq]; rfl
  rw [e]
  obtain ⟨r, hr⟩ : ∃ r, r = s.rest (false && eqb) x := ⟨_, rfl⟩
  rw [← hr]
  unfold SnapM.rest at hr
  have HP := Lib.hid hp
  clear e hsm hp hk heq
  clear ho
  go_enter Try.func30, Try.ntmps30
  go_wp2_with (first | ((with_reducible refine at_store ?_); refine st_store 0 K.out rfl rfl rfl rfl ?_ ?_ ?_ ?_; (· kernel_rfl); (· simp); (· simp [Value.oneCell']); intro w1 K1; simp only [List.set, putL] at K1; have K2 := Lib.hid K1; clear K1 K; (try clear a0); (try clear l0); (try clear a1); (try clear l1); (try clear a2); (try clear l2); have K := K2; clear K2; have a0 := K.out.rd 0 rfl; have l0 := K.out.ltp 0 rfl; have a1 := K.out.rd 1 rfl; have l1 := K.out.ltp 1 rfl))
  have K1 : sat E _ (snapP b g ({ s with same := false } : SnapM) :: u64A g s.words :: memA bm m :: L) := K.out
  clear K a0 l0 a1 l1
  have K := Lib.hid K1
  clear K1
  have a0 := K.out.rd 0 rfl; have l0 := K.out.ltp 0 rfl; have a1 := K.out.rd 1 rfl; have l1 := K.out.ltp 1 rfl
  refine wp_region_noPanic ?_
  refine wp_region_held_drew (S := (fun w' => ∀ j, w'.cell? ⟨b, j, none⟩ = (SnapM.v ({ s with same := false } : SnapM) g)[j]?)) (by kernel_rfl) ?_ (fun hHeld => ?_)
  · ((try dsimp only); (exact sat.rd 0 (by repeat (with_reducible first | exact K.out | apply sat.alloc_any | apply sat.drew | apply sat.drewN)) rfl))
  refine tk 0 (some 29) ?_
  (try simp only [Act.put, p0, p1, p2])
  refine tk 1 (some 30) ?_
  (try simp only [Act.put, p0, p1, p2])
  refine tk 2 (some 31) ?_
  (try simp only [Act.put, p0, p1, p2])
  refine tk 3 (some 32) ?_
  (try simp only [Act.put, p0, p1, p2])
  refine tk 4 (some 33) ?_
  (try simp only [Act.put, p0, p1, p2])
  refine tk 5 (some 34) ?_
  (try simp only [Act.put, p0, p1, p2])
  refine tk 6 (some 35) ?_
  (try simp only [Act.put, p0, p1, p2])
  refine tk 7 (some 36) ?_
  (try simp only [Act.put, p0, p1, p2])
  refine tk 8 (some 37) ?_
  (try simp only [Act.put, p0, p1, p2])
  refine tk 9 (some 38) ?_
  (try simp only [Act.put, p0, p1, p2])
  refine tk 10 (some 39) ?_
  (try simp only [Act.put, p0, p1, p2])
  refine tk 11 (some 40) ?_
  (try simp only [Act.put, p0, p1, p2])
  refine tk 12 (some 41) ?_
  (try simp only [Act.put, p0, p1, p2])
  refine wpAnyH_ready (rs := [13]) (by kernel_rfl) (by simp) ?_
  refine AllReadyH.cons (o := _) rfl (fun kC hkC => ?_) AllReadyH.nil
  go_simp
  (first | (go_at_call 9; (with_reducible refine ((AL _).out).mono ?_); rintro e w1 ⟨rfl, hb⟩; have K1 := sat.grown (show sat _ _ _ from by first | exact K.out | exact K.out.drew) hb; clear hb; have K2 := Lib.hid K1; clear K1 K; (try clear a0); (try clear l0); (try clear f0); (try clear a1); (try clear l1); (try clear f1); (try clear a2); (try clear l2); (try clear f2); (try clear a3); (try clear l3); (try clear f3); (try clear a4); (try clear l4); (try clear f4); (try clear a5); (try clear l5); (try clear f5); have K := K2; clear K2; (try have a0 := K.out.rd 0 rfl); (try have l0 := K.out.ltp 0 rfl); (try have f0 := K.out.fr 0 rfl); (try have a1 := K.out.rd 1 rfl); (try have l1 := K.out.ltp 1 rfl); (try have f1 := K.out.fr 1 rfl); (try have a2 := K.out.rd 2 rfl); (try have l2 := K.out.ltp 2 rfl); (try have f2 := K.out.fr 2 rfl); (try have a3 := K.out.rd 3 rfl); (try have l3 := K.out.ltp 3 rfl); (try have f3 := K.out.fr 3 rfl)))
  refine shown hkC _ _ (by (try dsimp only); (exact sat.rd 0 (by repeat (with_reducible first | exact K.out | apply sat.alloc_any | apply sat.drew | apply sat.drewN)) rfl)) ?_; clear hkC kC hHeld; intro hHeld
  (try simp only [Act.put, p0, p1, p2])
  refine tk 14 (some 43) ?_
  (try simp only [Act.put, p0, p1, p2])
  refine tk 15 (some 5) ?_
  (try simp only [Act.put, p0, p1, p2])
  refine wpAnyH_done (by kernel_rfl) (NoPanic.normal ?_) _
  go_wp2_with fail
  refine wp_region_noPanic ?_
  refine wp_region_held_drew (S := (fun w' => ∀ j, w'.cell? ⟨b, j, none⟩ = (SnapM.v ({ s with same := false } : SnapM) g)[j]?)) (by kernel_rfl) ?_ (fun hHeld => ?_)
  · ((try dsimp only); (exact sat.rd 0 (by repeat (with_reducible first | exact K.out | apply sat.alloc_any | apply sat.drew | apply sat.drewN)) rfl))
  refine tk 0 (some 44) ?_
  (try simp only [Act.put, p0, p1, p2])
  refine tk 1 (some 45) ?_
  (try simp only [Act.put, p0, p1, p2])
  refine tk 2 (some 46) ?_
  (try simp only [Act.put, p0, p1, p2])
  refine tk 3 (some 47) ?_
  (try simp only [Act.put, p0, p1, p2])
  refine tk 4 (some 48) ?_
  (try simp only [Act.put, p0, p1, p2])
  refine tk 5 (some 49) ?_
  (try simp only [Act.put, p0, p1, p2])
  refine tk 6 (some 50) ?_
  (try simp only [Act.put, p0, p1, p2])
  refine tk 7 (some 51) ?_
  (try simp only [Act.put, p0, p1, p2])
  refine tk 8 (some 52) ?_
  (try simp only [Act.put, p0, p1, p2])
  refine tk 9 (some 53) ?_
  (try simp only [Act.put, p0, p1, p2])
  refine wpAnyH_ready (rs := [10]) (by kernel_rfl) (by simp) ?_
  refine AllReadyH.cons (o := _) rfl (fun kC hkC => ?_) AllReadyH.nil
  go_simp
  (first | (go_at_call 23; (with_reducible refine (word_calls s.conf _ s.slot).mono ?_); rintro e w1 ⟨rfl, hb⟩; have K1 := sat.grown (show sat _ _ _ from by first | exact K.out | exact K.out.drew) hb; clear hb; have K2 := Lib.hid K1; clear K1 K; (try clear a0); (try clear l0); (try clear f0); (try clear a1); (try clear l1); (try clear f1); (try clear a2); (try clear l2); (try clear f2); (try clear a3); (try clear l3); (try clear f3); (try clear a4); (try clear l4); (try clear f4); (try clear a5); (try clear l5); (try clear f5); have K := K2; clear K2; (try have a0 := K.out.rd 0 rfl); (try have l0 := K.out.ltp 0 rfl); (try have f0 := K.out.fr 0 rfl); (try have a1 := K.out.rd 1 rfl); (try have l1 := K.out.ltp 1 rfl); (try have f1 := K.out.fr 1 rfl); (try have a2 := K.out.rd 2 rfl); (try have l2 := K.out.ltp 2 rfl); (try have f2 := K.out.fr 2 rfl); (try have a3 := K.out.rd 3 rfl); (try have l3 := K.out.ltp 3 rfl); (try have f3 := K.out.fr 3 rfl)) | (go_at_call 51; (with_reducible refine ((LD _ (show sat E _ _ from by first | exact K.out | exact K.out.drew).cab).out).mono ?_); rintro e w1 ⟨rfl, K1⟩; replace K1 := K1.uncab; have K2 := Lib.hid K1; clear K1 K; (try clear a0); (try clear l0); (try clear f0); (try clear a1); (try clear l1); (try clear f1); (try clear a2); (try clear l2); (try clear f2); (try clear a3); (try clear l3); (try clear f3); (try clear a4); (try clear l4); (try clear f4); (try clear a5); (try clear l5); (try clear f5); have K := K2; clear K2; (try have a0 := K.out.rd 0 rfl); (try have l0 := K.out.ltp 0 rfl); (try have f0 := K.out.fr 0 rfl); (try have a1 := K.out.rd 1 rfl); (try have l1 := K.out.ltp 1 rfl); (try have f1 := K.out.fr 1 rfl); (try have a2 := K.out.rd 2 rfl); (try have l2 := K.out.ltp 2 rfl); (try have f2 := K.out.fr 2 rfl); (try have a3 := K.out.rd 3 rfl); (try have l3 := K.out.ltp 3 rfl); (try have f3 := K.out.fr 3 rfl)))
  refine shown hkC _ _ (by (try dsimp only); (exact sat.rd 0 (by repeat (with_reducible first | exact K.out | apply sat.alloc_any | apply sat.drew | apply sat.drewN)) rfl)) ?_; clear hkC kC hHeld; intro hHeld
  (try simp only [Act.put, p0, p1, p2])
  refine wpAnyH_ready (rs := [11]) (by kernel_rfl) (by simp) ?_
  refine AllReadyH.cons (o := _) rfl (fun kC hkC => ?_) AllReadyH.nil
  go_simp
  (first | (go_at_call 23; (with_reducible refine (word_calls s.conf _ s.slot).mono ?_); rintro e w1 ⟨rfl, hb⟩; have K1 := sat.grown (show sat _ _ _ from by first | exact K.out | exact K.out.drew) hb; clear hb; have K2 := Lib.hid K1; clear K1 K; (try clear a0); (try clear l0); (try clear f0); (try clear a1); (try clear l1); (try clear f1); (try clear a2); (try clear l2); (try clear f2); (try clear a3); (try clear l3); (try clear f3); (try clear a4); (try clear l4); (try clear f4); (try clear a5); (try clear l5); (try clear f5); have K := K2; clear K2; (try have a0 := K.out.rd 0 rfl); (try have l0 := K.out.ltp 0 rfl); (try have f0 := K.out.fr 0 rfl); (try have a1 := K.out.rd 1 rfl); (try have l1 := K.out.ltp 1 rfl); (try have f1 := K.out.fr 1 rfl); (try have a2 := K.out.rd 2 rfl); (try have l2 := K.out.ltp 2 rfl); (try have f2 := K.out.fr 2 rfl); (try have a3 := K.out.rd 3 rfl); (try have l3 := K.out.ltp 3 rfl); (try have f3 := K.out.fr 3 rfl)) | (go_at_call 51; (with_reducible refine ((LD _ (show sat E _ _ from by first | exact K.out | exact K.out.drew).cab).out).mono ?_); rintro e w1 ⟨rfl, K1⟩; replace K1 := K1.uncab; have K2 := Lib.hid K1; clear K1 K; (try clear a0); (try clear l0); (try clear f0); (try clear a1); (try clear l1); (try clear f1); (try clear a2); (try clear l2); (try clear f2); (try clear a3); (try clear l3); (try clear f3); (try clear a4); (try clear l4); (try clear f4); (try clear a5); (try clear l5); (try clear f5); have K := K2; clear K2; (try have a0 := K.out.rd 0 rfl); (try have l0 := K.out.ltp 0 rfl); (try have f0 := K.out.fr 0 rfl); (try have a1 := K.out.rd 1 rfl); (try have l1 := K.out.ltp 1 rfl); (try have f1 := K.out.fr 1 rfl); (try have a2 := K.out.rd 2 rfl); (try have l2 := K.out.ltp 2 rfl); (try have f2 := K.out.fr 2 rfl); (try have a3 := K.out.rd 3 rfl); (try have l3 := K.out.ltp 3 rfl); (try have f3 := K.out.fr 3 rfl)))
  refine shown hkC _ _ (by (try dsimp only); (exact sat.rd 0 (by repeat (with_reducible first | exact K.out | apply sat.alloc_any | apply sat.drew | apply sat.drewN)) rfl)) ?_; clear hkC kC hHeld; intro hHeld
  (try simp only [Act.put, p0, p1, p2])
  refine tk 12 (some 6) ?_
  (try simp only [Act.put, p0, p1, p2])
  refine wpAnyH_done (by kernel_rfl) (NoPanic.normal ?_) _
  go_wp2_with (first | ((with_reducible refine at_store ?_); refine st_store 0 K.out rfl rfl rfl rfl ?_ ?_ ?_ ?_; (· kernel_rfl); (· simp); (· simp [Value.oneCell']); intro w1 K1; simp only [List.set, putL] at K1; have K2 := Lib.hid K1; clear K1 K; (try clear a0); (try clear l0); (try clear a1); (try clear l1); (try clear a2); (try clear l2); have K := K2; clear K2; have a0 := K.out.rd 0 rfl; have l0 := K.out.ltp 0 rfl; have a1 := K.out.rd 1 rfl; have l1 := K.out.ltp 1 rfl) | ((with_reducible refine at_store ?_); refine st_store 1 K.out rfl rfl rfl rfl ?_ ?_ ?_ ?_; (· kernel_rfl); (· show _ + 1 ≤ _; simp [u64s]; omega); (· simp [Value.oneCell']); intro w1 K1; simp only [List.set, putL_one] at K1; have K2 := Lib.hid K1; clear K1 K; (try clear a0); (try clear l0); (try clear a1); (try clear l1); (try clear a2); (try clear l2); have K := K2; clear K2; have a0 := K.out.rd 0 rfl; have l0 := K.out.ltp 0 rfl; have a1 := K.out.rd 1 rfl; have l1 := K.out.ltp 1 rfl))
  have K1 : sat E _ (snapP b g { s with same := (false && eqb), k := s.k + 1 } :: pt g (.cells ((u64s s.words).set s.slot.toNat (.int .u64 x)).toArray 31 (0, 0)) :: memA bm (m.touch s.who 0 s.slot 0 0) :: L) := K.out
  clear K a0 l0 a1 l1
  have K := Lib.hid K1
  clear K1
  have a0 := K.out.rd 0 rfl; have l0 := K.out.ltp 0 rfl; have a1 := K.out.rd 1 rfl; have l1 := K.out.ltp 1 rfl
  refine wp_region_noPanic ?_
  refine wp_region_held_drew (S := (fun w' => ∀ j, w'.cell? ⟨b, j, none⟩ = (SnapM.v ({ s with same := (false && eqb), k := s.k + 1 } : SnapM) g)[j]?)) (by kernel_rfl) ?_ (fun hHeld => ?_)
  · ((try dsimp only); (exact sat.rd 0 (by repeat (with_reducible first | exact K.out | apply sat.alloc_any | apply sat.drew | apply sat.drewN)) rfl))
  refine tk 0 (some 88) ?_
  (try simp only [Act.put, p0, p1, p2])
  refine tk 1 (some 89) ?_
  (try simp only [Act.put, p0, p1, p2])
  refine tk 2 (some 90) ?_
  (try simp only [Act.put, p0, p1, p2])
  refine tk 3 (some 91) ?_
  (try simp only [Act.put, p0, p1, p2])
  refine tk 4 (some 92) ?_
  (try simp only [Act.put, p0, p1, p2])
  refine tk 5 (some 93) ?_
  (try simp only [Act.put, p0, p1, p2])
  refine tk 6 (some 94) ?_
  (try simp only [Act.put, p0, p1, p2])
  refine tk 7 (some 95) ?_
  (try simp only [Act.put, p0, p1, p2])
  refine wpAnyH_ready (rs := [8]) (by kernel_rfl) (by simp) ?_
  refine AllReadyH.cons (o := _) rfl (fun kC hkC => ?_) AllReadyH.nil
  go_simp
  (first | (go_at_call 9; (with_reducible refine ((AL _).out).mono ?_); rintro e w1 ⟨rfl, hb⟩; have K1 := sat.grown (show sat _ _ _ from by first | exact K.out | exact K.out.drew) hb; clear hb; have K2 := Lib.hid K1; clear K1 K; (try clear a0); (try clear l0); (try clear f0); (try clear a1); (try clear l1); (try clear f1); (try clear a2); (try clear l2); (try clear f2); (try clear a3); (try clear l3); (try clear f3); (try clear a4); (try clear l4); (try clear f4); (try clear a5); (try clear l5); (try clear f5); have K := K2; clear K2; (try have a0 := K.out.rd 0 rfl); (try have l0 := K.out.ltp 0 rfl); (try have f0 := K.out.fr 0 rfl); (try have a1 := K.out.rd 1 rfl); (try have l1 := K.out.ltp 1 rfl); (try have f1 := K.out.fr 1 rfl); (try have a2 := K.out.rd 2 rfl); (try have l2 := K.out.ltp 2 rfl); (try have f2 := K.out.fr 2 rfl); (try have a3 := K.out.rd 3 rfl); (try have l3 := K.out.ltp 3 rfl); (try have f3 := K.out.fr 3 rfl)))
  refine shown hkC _ _ (by (try dsimp only); (exact sat.rd 0 (by repeat (with_reducible first | exact K.out | apply sat.alloc_any | apply sat.drew | apply sat.drewN)) rfl)) ?_; clear hkC kC hHeld; intro hHeld
  (try simp only [Act.put, p0, p1, p2])
  refine tk 9 (some 97) ?_
  (try simp only [Act.put, p0, p1, p2])
  refine wpAnyH_done (by kernel_rfl) (NoPanic.normal ?_) _
  cases la with
  | true =>
    have hla' : s.k + 1 < s.conf.all := by simpa using hla
    rw [if_pos hla'] at hr
    go_wp2
    go_ret
    subst hr
    refine ⟨rfl, snapA_shut (g := g) (s := { s with same := (false && eqb), words := setI s.words s.slot x, k := s.k + 1 }) ?_⟩
    have K1 := K.out
    rw [u64s_set] at K1
    simp only [snapP, SnapM.v, setI, List.length_set]
    first | exact K1 | exact K1.drew
  | false =>
    have hla' : ¬ s.k + 1 < s.conf.all := by simpa using hla
    rw [if_neg hla'] at hr
    cases eqb
    all_goals
      go_wp2_with (first | ((with_reducible refine at_store ?_); refine st_store 0 K.out rfl rfl rfl rfl ?_ ?_ ?_ ?_; (· kernel_rfl); (· simp); (· simp [Value.oneCell']); intro w1 K1; simp only [List.set, putL] at K1; have K2 := Lib.hid K1; clear K1 K; (try clear a0); (try clear l0); (try clear a1); (try clear l1); (try clear a2); (try clear l2); have K := K2; clear K2; have a0 := K.out.rd 0 rfl; have l0 := K.out.ltp 0 rfl; have a1 := K.out.rd 1 rfl; have l1 := K.out.ltp 1 rfl))
      go_ret
      subst hr
      first
      | (refine ⟨by first | rfl | exact ret_i HP.out, snapA_shut (g := g) (s := { s with same := (false && true), words := setI s.words s.slot x, k := 0, pass := s.pass + 1, phase := if (false && true) = true then 1 else 0 }) ?_⟩; have K1 := K.out; rw [u64s_set] at K1; (try simp only [HP.out] at K1); simp only [snapP, SnapM.v, setI, List.length_set]; exact K1)
      | (refine ⟨by first | rfl | exact ret_i HP.out, snapA_shut (g := g) (s := { s with same := (false && false), words := setI s.words s.slot x, k := 0, pass := s.pass + 1, phase := if (false && false) = true then 1 else 0 }) ?_⟩; have K1 := K.out; rw [u64s_set] at K1; (try simp only [HP.out] at K1); simp only [snapP, SnapM.v, setI, List.length_set]; exact K1)
theorem sstep_knt (la eqb : Bool) (b bm : Nat) (s : SnapM) (m : MemM) (ho : s.ok) (hp : s.phase = 0) (hk : s.k ≠ 0) (hroom : m.log.length < 1000000000) (hsm : s.same0 = true) (heq : decide (m.peek s.slot = getI s.words s.slot) = eqb) (hla : decide (s.k + 1 < s.conf.all) = la) (h : sat E w (snapA b s :: memA bm m :: L)) :
    Calls Try.prog 30 #[.pointer (some ⟨b, 0, none⟩), .pointer (some ⟨bm, 0, none⟩)] w fun e w' => e = .returned (.int .i64 (s.step m).1.phase) ∧ sat E w' (snapA b (s.step m).1 :: memA bm (s.step m).2 :: L) := by
  obtain ⟨g, h⟩ := snapA_open h
  have K := Lib.hid h
  clear h
  have a0 := K.out.rd 0 rfl; have l0 := K.out.ltp 0 rfl; have a1 := K.out.rd 1 rfl; have l1 := K.out.ltp 1 rfl
  have c0 : (s.phase == 0) = true := by simpa using hp
  have c1 : (s.k == 0) = false := by simpa using hk
  have B := ho.slot_bd
  obtain ⟨B0, B1⟩ := B
  have hal := ho.conf.all_bd
  obtain ⟨k0, k1⟩ := And.intro ho.k0 ho.k1
  obtain ⟨st0, st1⟩ := And.intro ho.st0 ho.st1
  obtain ⟨p0, p1⟩ := And.intro ho.p0 ho.p1
  have AL := fun w => Lib.hid (all_calls s.conf w ho.conf)
  obtain ⟨al0, al1⟩ := hal
  have v1 : IntKind.i64.wrap (s.start + s.k) = s.start + s.k := wi (by omega) (by omega)
  have v2 : Int.tmod (s.start + s.k) s.conf.all = s.slot := by unfold SnapM.slot; rw [Int.tmod_eq_emod_of_nonneg (by omega)]
  have v3 : IntKind.i64.wrap s.slot = s.slot := wi (by omega) (by omega)
  have z1 : (s.conf.all == 0) = false := by simp; omega
  have z2 : ¬ s.conf.all = 0 := by omega
  have hlen := ho.len
  have n0 : s.slot < s.words.length := by omega
  have gd := getD_cell B0 n0
  have d2 : s.same = true := by have q := hsm; unfold SnapM.same0 at q; rw [if_neg hk] at q; exact q
  have LD := fun w (h : sat E w (memA bm m :: snapP b g ({ s with same := true } : SnapM) :: u64A g s.words :: L)) => Lib.hid (load_calls bm m s.who s.slot hroom h)
  have e := s.step_eq m hp
  rw [hsm, heq] at e
  generalize m.peek s.slot = x at LD e heq
  generalize getI s.words s.slot = y at gd heq
  have c2 : (x == y) = eqb := by rw [← heq]; rfl
  rw [e]
  obtain ⟨r, hr⟩ : ∃ r, r = s.rest (true && eqb) x := ⟨_, rfl⟩
  rw [← hr]
  unfold SnapM.rest at hr
  have HP := Lib.hid hp
  clear e hsm hp hk heq
  clear ho
  go_enter Try.func30, Try.ntmps30
  go_wp2_with (first | ((with_reducible refine at_store ?_); refine st_store 0 K.out rfl rfl rfl rfl ?_ ?_ ?_ ?_; (· kernel_rfl); (· simp); (· simp [Value.oneCell']); intro w1 K1; simp only [List.set, putL] at K1; have K2 := Lib.hid K1; clear K1 K; (try clear a0); (try clear l0); (try clear a1); (try clear l1); (try clear a2); (try clear l2); have K := K2; clear K2; have a0 := K.out.rd 0 rfl; have l0 := K.out.ltp 0 rfl; have a1 := K.out.rd 1 rfl; have l1 := K.out.ltp 1 rfl))
  have K1 := K.out
  simp only [snapP, SnapM.v, d2] at K1
  clear K a0 l0 a1 l1
  have K := Lib.hid K1
  clear K1
  have a0 := K.out.rd 0 rfl; have l0 := K.out.ltp 0 rfl; have a1 := K.out.rd 1 rfl; have l1 := K.out.ltp 1 rfl
  refine wp_region_noPanic ?_
  refine wp_region_held_drew (S := (fun w' => ∀ j, w'.cell? ⟨b, j, none⟩ = (SnapM.v ({ s with same := true } : SnapM) g)[j]?)) (by kernel_rfl) ?_ (fun hHeld => ?_)
  · ((try dsimp only); (exact sat.rd 0 (by repeat (with_reducible first | exact K.out | apply sat.alloc_any | apply sat.drew | apply sat.drewN)) rfl))
  refine tk 0 (some 29) ?_
  (try simp only [Act.put, p0, p1, p2])
  refine tk 1 (some 30) ?_
  (try simp only [Act.put, p0, p1, p2])
  refine tk 2 (some 31) ?_
  (try simp only [Act.put, p0, p1, p2])
  refine tk 3 (some 32) ?_
  (try simp only [Act.put, p0, p1, p2])
  refine tk 4 (some 33) ?_
  (try simp only [Act.put, p0, p1, p2])
  refine tk 5 (some 34) ?_
  (try simp only [Act.put, p0, p1, p2])
  refine tk 6 (some 35) ?_
  (try simp only [Act.put, p0, p1, p2])
  refine tk 7 (some 36) ?_
  (try simp only [Act.put, p0, p1, p2])
  refine tk 8 (some 37) ?_
  (try simp only [Act.put, p0, p1, p2])
  refine tk 9 (some 38) ?_
  (try simp only [Act.put, p0, p1, p2])
  refine tk 10 (some 39) ?_
  (try simp only [Act.put, p0, p1, p2])
  refine tk 11 (some 40) ?_
  (try simp only [Act.put, p0, p1, p2])
  refine tk 12 (some 41) ?_
  (try simp only [Act.put, p0, p1, p2])
  refine wpAnyH_ready (rs := [13]) (by kernel_rfl) (by simp) ?_
  refine AllReadyH.cons (o := _) rfl (fun kC hkC => ?_) AllReadyH.nil
  go_simp
  (first | (go_at_call 9; (with_reducible refine ((AL _).out).mono ?_); rintro e w1 ⟨rfl, hb⟩; have K1 := sat.grown (show sat _ _ _ from by first | exact K.out | exact K.out.drew) hb; clear hb; have K2 := Lib.hid K1; clear K1 K; (try clear a0); (try clear l0); (try clear f0); (try clear a1); (try clear l1); (try clear f1); (try clear a2); (try clear l2); (try clear f2); (try clear a3); (try clear l3); (try clear f3); (try clear a4); (try clear l4); (try clear f4); (try clear a5); (try clear l5); (try clear f5); have K := K2; clear K2; (try have a0 := K.out.rd 0 rfl); (try have l0 := K.out.ltp 0 rfl); (try have f0 := K.out.fr 0 rfl); (try have a1 := K.out.rd 1 rfl); (try have l1 := K.out.ltp 1 rfl); (try have f1 := K.out.fr 1 rfl); (try have a2 := K.out.rd 2 rfl); (try have l2 := K.out.ltp 2 rfl); (try have f2 := K.out.fr 2 rfl); (try have a3 := K.out.rd 3 rfl); (try have l3 := K.out.ltp 3 rfl); (try have f3 := K.out.fr 3 rfl)))
  refine shown hkC _ _ (by (try dsimp only); (exact sat.rd 0 (by repeat (with_reducible first | exact K.out | apply sat.alloc_any | apply sat.drew | apply sat.drewN)) rfl)) ?_; clear hkC kC hHeld; intro hHeld
  (try simp only [Act.put, p0, p1, p2])
  refine tk 14 (some 43) ?_
  (try simp only [Act.put, p0, p1, p2])
  refine tk 15 (some 5) ?_
  (try simp only [Act.put, p0, p1, p2])
  refine wpAnyH_done (by kernel_rfl) (NoPanic.normal ?_) _
  go_wp2_with fail
  refine wp_region_noPanic ?_
  refine wp_region_held_drew (S := (fun w' => ∀ j, w'.cell? ⟨b, j, none⟩ = (SnapM.v ({ s with same := true } : SnapM) g)[j]?)) (by kernel_rfl) ?_ (fun hHeld => ?_)
  · ((try dsimp only); (exact sat.rd 0 (by repeat (with_reducible first | exact K.out | apply sat.alloc_any | apply sat.drew | apply sat.drewN)) rfl))
  refine tk 0 (some 44) ?_
  (try simp only [Act.put, p0, p1, p2])
  refine tk 1 (some 45) ?_
  (try simp only [Act.put, p0, p1, p2])
  refine tk 2 (some 46) ?_
  (try simp only [Act.put, p0, p1, p2])
  refine tk 3 (some 47) ?_
  (try simp only [Act.put, p0, p1, p2])
  refine tk 4 (some 48) ?_
  (try simp only [Act.put, p0, p1, p2])
  refine tk 5 (some 49) ?_
  (try simp only [Act.put, p0, p1, p2])
  refine tk 6 (some 50) ?_
  (try simp only [Act.put, p0, p1, p2])
  refine tk 7 (some 51) ?_
  (try simp only [Act.put, p0, p1, p2])
  refine tk 8 (some 52) ?_
  (try simp only [Act.put, p0, p1, p2])
  refine tk 9 (some 53) ?_
  (try simp only [Act.put, p0, p1, p2])
  refine wpAnyH_ready (rs := [10]) (by kernel_rfl) (by simp) ?_
  refine AllReadyH.cons (o := _) rfl (fun kC hkC => ?_) AllReadyH.nil
  go_simp
  (first | (go_at_call 23; (with_reducible refine (word_calls s.conf _ s.slot).mono ?_); rintro e w1 ⟨rfl, hb⟩; have K1 := sat.grown (show sat _ _ _ from by first | exact K.out | exact K.out.drew) hb; clear hb; have K2 := Lib.hid K1; clear K1 K; (try clear a0); (try clear l0); (try clear f0); (try clear a1); (try clear l1); (try clear f1); (try clear a2); (try clear l2); (try clear f2); (try clear a3); (try clear l3); (try clear f3); (try clear a4); (try clear l4); (try clear f4); (try clear a5); (try clear l5); (try clear f5); have K := K2; clear K2; (try have a0 := K.out.rd 0 rfl); (try have l0 := K.out.ltp 0 rfl); (try have f0 := K.out.fr 0 rfl); (try have a1 := K.out.rd 1 rfl); (try have l1 := K.out.ltp 1 rfl); (try have f1 := K.out.fr 1 rfl); (try have a2 := K.out.rd 2 rfl); (try have l2 := K.out.ltp 2 rfl); (try have f2 := K.out.fr 2 rfl); (try have a3 := K.out.rd 3 rfl); (try have l3 := K.out.ltp 3 rfl); (try have f3 := K.out.fr 3 rfl)) | (go_at_call 51; (with_reducible refine ((LD _ (show sat E _ _ from by first | exact K.out | exact K.out.drew).cab).out).mono ?_); rintro e w1 ⟨rfl, K1⟩; replace K1 := K1.uncab; have K2 := Lib.hid K1; clear K1 K; (try clear a0); (try clear l0); (try clear f0); (try clear a1); (try clear l1); (try clear f1); (try clear a2); (try clear l2); (try clear f2); (try clear a3); (try clear l3); (try clear f3); (try clear a4); (try clear l4); (try clear f4); (try clear a5); (try clear l5); (try clear f5); have K := K2; clear K2; (try have a0 := K.out.rd 0 rfl); (try have l0 := K.out.ltp 0 rfl); (try have f0 := K.out.fr 0 rfl); (try have a1 := K.out.rd 1 rfl); (try have l1 := K.out.ltp 1 rfl); (try have f1 := K.out.fr 1 rfl); (try have a2 := K.out.rd 2 rfl); (try have l2 := K.out.ltp 2 rfl); (try have f2 := K.out.fr 2 rfl); (try have a3 := K.out.rd 3 rfl); (try have l3 := K.out.ltp 3 rfl); (try have f3 := K.out.fr 3 rfl)))
  refine shown hkC _ _ (by (try dsimp only); (exact sat.rd 0 (by repeat (with_reducible first | exact K.out | apply sat.alloc_any | apply sat.drew | apply sat.drewN)) rfl)) ?_; clear hkC kC hHeld; intro hHeld
  (try simp only [Act.put, p0, p1, p2])
  refine wpAnyH_ready (rs := [11]) (by kernel_rfl) (by simp) ?_
  refine AllReadyH.cons (o := _) rfl (fun kC hkC => ?_) AllReadyH.nil
  go_simp
  (first | (go_at_call 23; (with_reducible refine (word_calls s.conf _ s.slot).mono ?_); rintro e w1 ⟨rfl, hb⟩; have K1 := sat.grown (show sat _ _ _ from by first | exact K.out | exact K.out.drew) hb; clear hb; have K2 := Lib.hid K1; clear K1 K; (try clear a0); (try clear l0); (try clear f0); (try clear a1); (try clear l1); (try clear f1); (try clear a2); (try clear l2); (try clear f2); (try clear a3); (try clear l3); (try clear f3); (try clear a4); (try clear l4); (try clear f4); (try clear a5); (try clear l5); (try clear f5); have K := K2; clear K2; (try have a0 := K.out.rd 0 rfl); (try have l0 := K.out.ltp 0 rfl); (try have f0 := K.out.fr 0 rfl); (try have a1 := K.out.rd 1 rfl); (try have l1 := K.out.ltp 1 rfl); (try have f1 := K.out.fr 1 rfl); (try have a2 := K.out.rd 2 rfl); (try have l2 := K.out.ltp 2 rfl); (try have f2 := K.out.fr 2 rfl); (try have a3 := K.out.rd 3 rfl); (try have l3 := K.out.ltp 3 rfl); (try have f3 := K.out.fr 3 rfl)) | (go_at_call 51; (with_reducible refine ((LD _ (show sat E _ _ from by first | exact K.out | exact K.out.drew).cab).out).mono ?_); rintro e w1 ⟨rfl, K1⟩; replace K1 := K1.uncab; have K2 := Lib.hid K1; clear K1 K; (try clear a0); (try clear l0); (try clear f0); (try clear a1); (try clear l1); (try clear f1); (try clear a2); (try clear l2); (try clear f2); (try clear a3); (try clear l3); (try clear f3); (try clear a4); (try clear l4); (try clear f4); (try clear a5); (try clear l5); (try clear f5); have K := K2; clear K2; (try have a0 := K.out.rd 0 rfl); (try have l0 := K.out.ltp 0 rfl); (try have f0 := K.out.fr 0 rfl); (try have a1 := K.out.rd 1 rfl); (try have l1 := K.out.ltp 1 rfl); (try have f1 := K.out.fr 1 rfl); (try have a2 := K.out.rd 2 rfl); (try have l2 := K.out.ltp 2 rfl); (try have f2 := K.out.fr 2 rfl); (try have a3 := K.out.rd 3 rfl); (try have l3 := K.out.ltp 3 rfl); (try have f3 := K.out.fr 3 rfl)))
  refine shown hkC _ _ (by (try dsimp only); (exact sat.rd 0 (by repeat (with_reducible first | exact K.out | apply sat.alloc_any | apply sat.drew | apply sat.drewN)) rfl)) ?_; clear hkC kC hHeld; intro hHeld
  (try simp only [Act.put, p0, p1, p2])
  refine tk 12 (some 6) ?_
  (try simp only [Act.put, p0, p1, p2])
  refine wpAnyH_done (by kernel_rfl) (NoPanic.normal ?_) _
  go_wp2_with (first | ((with_reducible refine at_store ?_); refine st_store 0 K.out rfl rfl rfl rfl ?_ ?_ ?_ ?_; (· kernel_rfl); (· simp); (· simp [Value.oneCell']); intro w1 K1; simp only [List.set, putL] at K1; have K2 := Lib.hid K1; clear K1 K; (try clear a0); (try clear l0); (try clear a1); (try clear l1); (try clear a2); (try clear l2); have K := K2; clear K2; have a0 := K.out.rd 0 rfl; have l0 := K.out.ltp 0 rfl; have a1 := K.out.rd 1 rfl; have l1 := K.out.ltp 1 rfl) | ((with_reducible refine at_store ?_); refine st_store 1 K.out rfl rfl rfl rfl ?_ ?_ ?_ ?_; (· kernel_rfl); (· show _ + 1 ≤ _; simp [u64s]; omega); (· simp [Value.oneCell']); intro w1 K1; simp only [List.set, putL_one] at K1; have K2 := Lib.hid K1; clear K1 K; (try clear a0); (try clear l0); (try clear a1); (try clear l1); (try clear a2); (try clear l2); have K := K2; clear K2; have a0 := K.out.rd 0 rfl; have l0 := K.out.ltp 0 rfl; have a1 := K.out.rd 1 rfl; have l1 := K.out.ltp 1 rfl))
  have K1 : sat E _ (snapP b g { s with same := (true && eqb), k := s.k + 1 } :: pt g (.cells ((u64s s.words).set s.slot.toNat (.int .u64 x)).toArray 31 (0, 0)) :: memA bm (m.touch s.who 0 s.slot 0 0) :: L) := K.out
  clear K a0 l0 a1 l1
  have K := Lib.hid K1
  clear K1
  have a0 := K.out.rd 0 rfl; have l0 := K.out.ltp 0 rfl; have a1 := K.out.rd 1 rfl; have l1 := K.out.ltp 1 rfl
  refine wp_region_noPanic ?_
  refine wp_region_held_drew (S := (fun w' => ∀ j, w'.cell? ⟨b, j, none⟩ = (SnapM.v ({ s with same := (true && eqb), k := s.k + 1 } : SnapM) g)[j]?)) (by kernel_rfl) ?_ (fun hHeld => ?_)
  · ((try dsimp only); (exact sat.rd 0 (by repeat (with_reducible first | exact K.out | apply sat.alloc_any | apply sat.drew | apply sat.drewN)) rfl))
  refine tk 0 (some 88) ?_
  (try simp only [Act.put, p0, p1, p2])
  refine tk 1 (some 89) ?_
  (try simp only [Act.put, p0, p1, p2])
  refine tk 2 (some 90) ?_
  (try simp only [Act.put, p0, p1, p2])
  refine tk 3 (some 91) ?_
  (try simp only [Act.put, p0, p1, p2])
  refine tk 4 (some 92) ?_
  (try simp only [Act.put, p0, p1, p2])
  refine tk 5 (some 93) ?_
  (try simp only [Act.put, p0, p1, p2])
  refine tk 6 (some 94) ?_
  (try simp only [Act.put, p0, p1, p2])
  refine tk 7 (some 95) ?_
  (try simp only [Act.put, p0, p1, p2])
  refine wpAnyH_ready (rs := [8]) (by kernel_rfl) (by simp) ?_
  refine AllReadyH.cons (o := _) rfl (fun kC hkC => ?_) AllReadyH.nil
  go_simp
  (first | (go_at_call 9; (with_reducible refine ((AL _).out).mono ?_); rintro e w1 ⟨rfl, hb⟩; have K1 := sat.grown (show sat _ _ _ from by first | exact K.out | exact K.out.drew) hb; clear hb; have K2 := Lib.hid K1; clear K1 K; (try clear a0); (try clear l0); (try clear f0); (try clear a1); (try clear l1); (try clear f1); (try clear a2); (try clear l2); (try clear f2); (try clear a3); (try clear l3); (try clear f3); (try clear a4); (try clear l4); (try clear f4); (try clear a5); (try clear l5); (try clear f5); have K := K2; clear K2; (try have a0 := K.out.rd 0 rfl); (try have l0 := K.out.ltp 0 rfl); (try have f0 := K.out.fr 0 rfl); (try have a1 := K.out.rd 1 rfl); (try have l1 := K.out.ltp 1 rfl); (try have f1 := K.out.fr 1 rfl); (try have a2 := K.out.rd 2 rfl); (try have l2 := K.out.ltp 2 rfl); (try have f2 := K.out.fr 2 rfl); (try have a3 := K.out.rd 3 rfl); (try have l3 := K.out.ltp 3 rfl); (try have f3 := K.out.fr 3 rfl)))
  refine shown hkC _ _ (by (try dsimp only); (exact sat.rd 0 (by repeat (with_reducible first | exact K.out | apply sat.alloc_any | apply sat.drew | apply sat.drewN)) rfl)) ?_; clear hkC kC hHeld; intro hHeld
  (try simp only [Act.put, p0, p1, p2])
  refine tk 9 (some 97) ?_
  (try simp only [Act.put, p0, p1, p2])
  refine wpAnyH_done (by kernel_rfl) (NoPanic.normal ?_) _
  cases la with
  | true =>
    have hla' : s.k + 1 < s.conf.all := by simpa using hla
    rw [if_pos hla'] at hr
    go_wp2
    go_ret
    subst hr
    refine ⟨rfl, snapA_shut (g := g) (s := { s with same := (true && eqb), words := setI s.words s.slot x, k := s.k + 1 }) ?_⟩
    have K1 := K.out
    rw [u64s_set] at K1
    simp only [snapP, SnapM.v, setI, List.length_set]
    first | exact K1 | exact K1.drew
  | false =>
    have hla' : ¬ s.k + 1 < s.conf.all := by simpa using hla
    rw [if_neg hla'] at hr
    cases eqb
    all_goals
      go_wp2_with (first | ((with_reducible refine at_store ?_); refine st_store 0 K.out rfl rfl rfl rfl ?_ ?_ ?_ ?_; (· kernel_rfl); (· simp); (· simp [Value.oneCell']); intro w1 K1; simp only [List.set, putL] at K1; have K2 := Lib.hid K1; clear K1 K; (try clear a0); (try clear l0); (try clear a1); (try clear l1); (try clear a2); (try clear l2); have K := K2; clear K2; have a0 := K.out.rd 0 rfl; have l0 := K.out.ltp 0 rfl; have a1 := K.out.rd 1 rfl; have l1 := K.out.ltp 1 rfl))
      go_ret
      subst hr
      first
      | (refine ⟨by first | rfl | exact ret_i HP.out, snapA_shut (g := g) (s := { s with same := (true && true), words := setI s.words s.slot x, k := 0, pass := s.pass + 1, phase := if (true && true) = true then 1 else 0 }) ?_⟩; have K1 := K.out; rw [u64s_set] at K1; (try simp only [HP.out] at K1); simp only [snapP, SnapM.v, setI, List.length_set]; exact K1)
      | (refine ⟨by first | rfl | exact ret_i HP.out, snapA_shut (g := g) (s := { s with same := (true && false), words := setI s.words s.slot x, k := 0, pass := s.pass + 1, phase := if (true && false) = true then 1 else 0 }) ?_⟩; have K1 := K.out; rw [u64s_set] at K1; (try simp only [HP.out] at K1); simp only [snapP, SnapM.v, setI, List.length_set]; exact K1)
theorem sstep_knf (la eqb : Bool) (b bm : Nat) (s : SnapM) (m : MemM) (ho : s.ok) (hp : s.phase = 0) (hk : s.k ≠ 0) (hroom : m.log.length < 1000000000) (hsm : s.same0 = false) (heq : decide (m.peek s.slot = getI s.words s.slot) = eqb) (hla : decide (s.k + 1 < s.conf.all) = la) (h : sat E w (snapA b s :: memA bm m :: L)) :
    Calls Try.prog 30 #[.pointer (some ⟨b, 0, none⟩), .pointer (some ⟨bm, 0, none⟩)] w fun e w' => e = .returned (.int .i64 (s.step m).1.phase) ∧ sat E w' (snapA b (s.step m).1 :: memA bm (s.step m).2 :: L) := by
  obtain ⟨g, h⟩ := snapA_open h
  have K := Lib.hid h
  clear h
  have a0 := K.out.rd 0 rfl; have l0 := K.out.ltp 0 rfl; have a1 := K.out.rd 1 rfl; have l1 := K.out.ltp 1 rfl
  have c0 : (s.phase == 0) = true := by simpa using hp
  have c1 : (s.k == 0) = false := by simpa using hk
  have B := ho.slot_bd
  obtain ⟨B0, B1⟩ := B
  have hal := ho.conf.all_bd
  obtain ⟨k0, k1⟩ := And.intro ho.k0 ho.k1
  obtain ⟨st0, st1⟩ := And.intro ho.st0 ho.st1
  obtain ⟨p0, p1⟩ := And.intro ho.p0 ho.p1
  have AL := fun w => Lib.hid (all_calls s.conf w ho.conf)
  obtain ⟨al0, al1⟩ := hal
  have v1 : IntKind.i64.wrap (s.start + s.k) = s.start + s.k := wi (by omega) (by omega)
  have v2 : Int.tmod (s.start + s.k) s.conf.all = s.slot := by unfold SnapM.slot; rw [Int.tmod_eq_emod_of_nonneg (by omega)]
  have v3 : IntKind.i64.wrap s.slot = s.slot := wi (by omega) (by omega)
  have z1 : (s.conf.all == 0) = false := by simp; omega
  have z2 : ¬ s.conf.all = 0 := by omega
  have hlen := ho.len
  have n0 : s.slot < s.words.length := by omega
  have gd := getD_cell B0 n0
  have d2 : s.same = false := by have q := hsm; unfold SnapM.same0 at q; rw [if_neg hk] at q; exact q
  have LD := fun w (h : sat E w (memA bm m :: snapP b g ({ s with same := false } : SnapM) :: u64A g s.words :: L)) => Lib.hid (load_calls bm m s.who s.slot hroom h)
  have e := s.step_eq m hp
  rw [hsm, heq] at e
  generalize m.peek s.slot = x at LD e heq
  generalize getI s.words s.slot = y at gd heq
  have c2 : (x == y) = eqb := by rw [← heq]; rfl
  rw [e]
  obtain ⟨r, hr⟩ : ∃ r, r = s.rest (false && eqb) x := ⟨_, rfl⟩
  rw [← hr]
  unfold SnapM.rest at hr
  have HP := Lib.hid hp
  clear e hsm hp hk heq
  clear ho
  go_enter Try.func30, Try.ntmps30
  go_wp2_with (first | ((with_reducible refine at_store ?_); refine st_store 0 K.out rfl rfl rfl rfl ?_ ?_ ?_ ?_; (· kernel_rfl); (· simp); (· simp [Value.oneCell']); intro w1 K1; simp only [List.set, putL] at K1; have K2 := Lib.hid K1; clear K1 K; (try clear a0); (try clear l0); (try clear a1); (try clear l1); (try clear a2); (try clear l2); have K := K2; clear K2; have a0 := K.out.rd 0 rfl; have l0 := K.out.ltp 0 rfl; have a1 := K.out.rd 1 rfl; have l1 := K.out.ltp 1 rfl))
  have K1 := K.out
  simp only [snapP, SnapM.v, d2] at K1
  clear K a0 l0 a1 l1
  have K := Lib.hid K1
  clear K1
  have a0 := K.out.rd 0 rfl; have l0 := K.out.ltp 0 rfl; have a1 := K.out.rd 1 rfl; have l1 := K.out.ltp 1 rfl
  refine wp_region_noPanic ?_
  refine wp_region_held_drew (S := (fun w' => ∀ j, w'.cell? ⟨b, j, none⟩ = (SnapM.v ({ s with same := false } : SnapM) g)[j]?)) (by kernel_rfl) ?_ (fun hHeld => ?_)
  · ((try dsimp only); (exact sat.rd 0 (by repeat (with_reducible first | exact K.out | apply sat.alloc_any | apply sat.drew | apply sat.drewN)) rfl))
  refine tk 0 (some 29) ?_
  (try simp only [Act.put, p0, p1, p2])
  refine tk 1 (some 30) ?_
  (try simp only [Act.put, p0, p1, p2])
  refine tk 2 (some 31) ?_
  (try simp only [Act.put, p0, p1, p2])
  refine tk 3 (some 32) ?_
  (try simp only [Act.put, p0, p1, p2])
  refine tk 4 (some 33) ?_
  (try simp only [Act.put, p0, p1, p2])
  refine tk 5 (some 34) ?_
  (try simp only [Act.put, p0, p1, p2])
  refine tk 6 (some 35) ?_
  (try simp only [Act.put, p0, p1, p2])
  refine tk 7 (some 36) ?_
  (try simp only [Act.put, p0, p1, p2])
  refine tk 8 (some 37) ?_
  (try simp only [Act.put, p0, p1, p2])
  refine tk 9 (some 38) ?_
  (try simp only [Act.put, p0, p1, p2])
  refine tk 10 (some 39) ?_
  (try simp only [Act.put, p0, p1, p2])
  refine tk 11 (some 40) ?_
  (try simp only [Act.put, p0, p1, p2])
  refine tk 12 (some 41) ?_
  (try simp only [Act.put, p0, p1, p2])
  refine wpAnyH_ready (rs := [13]) (by kernel_rfl) (by simp) ?_
  refine AllReadyH.cons (o := _) rfl (fun kC hkC => ?_) AllReadyH.nil
  go_simp
  (first | (go_at_call 9; (with_reducible refine ((AL _).out).mono ?_); rintro e w1 ⟨rfl, hb⟩; have K1 := sat.grown (show sat _ _ _ from by first | exact K.out | exact K.out.drew) hb; clear hb; have K2 := Lib.hid K1; clear K1 K; (try clear a0); (try clear l0); (try clear f0); (try clear a1); (try clear l1); (try clear f1); (try clear a2); (try clear l2); (try clear f2); (try clear a3); (try clear l3); (try clear f3); (try clear a4); (try clear l4); (try clear f4); (try clear a5); (try clear l5); (try clear f5); have K := K2; clear K2; (try have a0 := K.out.rd 0 rfl); (try have l0 := K.out.ltp 0 rfl); (try have f0 := K.out.fr 0 rfl); (try have a1 := K.out.rd 1 rfl); (try have l1 := K.out.ltp 1 rfl); (try have f1 := K.out.fr 1 rfl); (try have a2 := K.out.rd 2 rfl); (try have l2 := K.out.ltp 2 rfl); (try have f2 := K.out.fr 2 rfl); (try have a3 := K.out.rd 3 rfl); (try have l3 := K.out.ltp 3 rfl); (try have f3 := K.out.fr 3 rfl)))
  refine shown hkC _ _ (by (try dsimp only); (exact sat.rd 0 (by repeat (with_reducible first | exact K.out | apply sat.alloc_any | apply sat.drew | apply sat.drewN)) rfl)) ?_; clear hkC kC hHeld; intro hHeld
  (try simp only [Act.put, p0, p1, p2])
  refine tk 14 (some 43) ?_
  (try simp only [Act.put, p0, p1, p2])
  refine tk 15 (some 5) ?_
  (try simp only [Act.put, p0, p1, p2])
  refine wpAnyH_done (by kernel_rfl) (NoPanic.normal ?_) _
  go_wp2_with fail
  refine wp_region_noPanic ?_
  refine wp_region_held_drew (S := (fun w' => ∀ j, w'.cell? ⟨b, j, none⟩ = (SnapM.v ({ s with same := false } : SnapM) g)[j]?)) (by kernel_rfl) ?_ (fun hHeld => ?_)
  · ((try dsimp only); (exact sat.rd 0 (by repeat (with_reducible first | exact K.out | apply sat.alloc_any | apply sat.drew | apply sat.drewN)) rfl))
  refine tk 0 (some 44) ?_
  (try simp only [Act.put, p0, p1, p2])
  refine tk 1 (some 45) ?_
  (try simp only [Act.put, p0, p1, p2])
  refine tk 2 (some 46) ?_
  (try simp only [Act.put, p0, p1, p2])
  refine tk 3 (some 47) ?_
  (try simp only [Act.put, p0, p1, p2])
  refine tk 4 (some 48) ?_
  (try simp only [Act.put, p0, p1, p2])
  refine tk 5 (some 49) ?_
  (try simp only [Act.put, p0, p1, p2])
  refine tk 6 (some 50) ?_
  (try simp only [Act.put, p0, p1, p2])
  refine tk 7 (some 51) ?_
  (try simp only [Act.put, p0, p1, p2])
  refine tk 8 (some 52) ?_
  (try simp only [Act.put, p0, p1, p2])
  refine tk 9 (some 53) ?_
  (try simp only [Act.put, p0, p1, p2])
  refine wpAnyH_ready (rs := [10]) (by kernel_rfl) (by simp) ?_
  refine AllReadyH.cons (o := _) rfl (fun kC hkC => ?_) AllReadyH.nil
  go_simp
  (first | (go_at_call 23; (with_reducible refine (word_calls s.conf _ s.slot).mono ?_); rintro e w1 ⟨rfl, hb⟩; have K1 := sat.grown (show sat _ _ _ from by first | exact K.out | exact K.out.drew) hb; clear hb; have K2 := Lib.hid K1; clear K1 K; (try clear a0); (try clear l0); (try clear f0); (try clear a1); (try clear l1); (try clear f1); (try clear a2); (try clear l2); (try clear f2); (try clear a3); (try clear l3); (try clear f3); (try clear a4); (try clear l4); (try clear f4); (try clear a5); (try clear l5); (try clear f5); have K := K2; clear K2; (try have a0 := K.out.rd 0 rfl); (try have l0 := K.out.ltp 0 rfl); (try have f0 := K.out.fr 0 rfl); (try have a1 := K.out.rd 1 rfl); (try have l1 := K.out.ltp 1 rfl); (try have f1 := K.out.fr 1 rfl); (try have a2 := K.out.rd 2 rfl); (try have l2 := K.out.ltp 2 rfl); (try have f2 := K.out.fr 2 rfl); (try have a3 := K.out.rd 3 rfl); (try have l3 := K.out.ltp 3 rfl); (try have f3 := K.out.fr 3 rfl)) | (go_at_call 51; (with_reducible refine ((LD _ (show sat E _ _ from by first | exact K.out | exact K.out.drew).cab).out).mono ?_); rintro e w1 ⟨rfl, K1⟩; replace K1 := K1.uncab; have K2 := Lib.hid K1; clear K1 K; (try clear a0); (try clear l0); (try clear f0); (try clear a1); (try clear l1); (try clear f1); (try clear a2); (try clear l2); (try clear f2); (try clear a3); (try clear l3); (try clear f3); (try clear a4); (try clear l4); (try clear f4); (try clear a5); (try clear l5); (try clear f5); have K := K2; clear K2; (try have a0 := K.out.rd 0 rfl); (try have l0 := K.out.ltp 0 rfl); (try have f0 := K.out.fr 0 rfl); (try have a1 := K.out.rd 1 rfl); (try have l1 := K.out.ltp 1 rfl); (try have f1 := K.out.fr 1 rfl); (try have a2 := K.out.rd 2 rfl); (try have l2 := K.out.ltp 2 rfl); (try have f2 := K.out.fr 2 rfl); (try have a3 := K.out.rd 3 rfl); (try have l3 := K.out.ltp 3 rfl); (try have f3 := K.out.fr 3 rfl)))
  refine shown hkC _ _ (by (try dsimp only); (exact sat.rd 0 (by repeat (with_reducible first | exact K.out | apply sat.alloc_any | apply sat.drew | apply sat.drewN)) rfl)) ?_; clear hkC kC hHeld; intro hHeld
  (try simp only [Act.put, p0, p1, p2])
  refine wpAnyH_ready (rs := [11]) (by kernel_rfl) (by simp) ?_
  refine AllReadyH.cons (o := _) rfl (fun kC hkC => ?_) AllReadyH.nil
  go_simp
  (first | (go_at_call 23; (with_reducible refine (word_calls s.conf _ s.slot).mono ?_); rintro e w1 ⟨rfl, hb⟩; have K1 := sat.grown (show sat _ _ _ from by first | exact K.out | exact K.out.drew) hb; clear hb; have K2 := Lib.hid K1; clear K1 K; (try clear a0); (try clear l0); (try clear f0); (try clear a1); (try clear l1); (try clear f1); (try clear a2); (try clear l2); (try clear f2); (try clear a3); (try clear l3); (try clear f3); (try clear a4); (try clear l4); (try clear f4); (try clear a5); (try clear l5); (try clear f5); have K := K2; clear K2; (try have a0 := K.out.rd 0 rfl); (try have l0 := K.out.ltp 0 rfl); (try have f0 := K.out.fr 0 rfl); (try have a1 := K.out.rd 1 rfl); (try have l1 := K.out.ltp 1 rfl); (try have f1 := K.out.fr 1 rfl); (try have a2 := K.out.rd 2 rfl); (try have l2 := K.out.ltp 2 rfl); (try have f2 := K.out.fr 2 rfl); (try have a3 := K.out.rd 3 rfl); (try have l3 := K.out.ltp 3 rfl); (try have f3 := K.out.fr 3 rfl)) | (go_at_call 51; (with_reducible refine ((LD _ (show sat E _ _ from by first | exact K.out | exact K.out.drew).cab).out).mono ?_); rintro e w1 ⟨rfl, K1⟩; replace K1 := K1.uncab; have K2 := Lib.hid K1; clear K1 K; (try clear a0); (try clear l0); (try clear f0); (try clear a1); (try clear l1); (try clear f1); (try clear a2); (try clear l2); (try clear f2); (try clear a3); (try clear l3); (try clear f3); (try clear a4); (try clear l4); (try clear f4); (try clear a5); (try clear l5); (try clear f5); have K := K2; clear K2; (try have a0 := K.out.rd 0 rfl); (try have l0 := K.out.ltp 0 rfl); (try have f0 := K.out.fr 0 rfl); (try have a1 := K.out.rd 1 rfl); (try have l1 := K.out.ltp 1 rfl); (try have f1 := K.out.fr 1 rfl); (try have a2 := K.out.rd 2 rfl); (try have l2 := K.out.ltp 2 rfl); (try have f2 := K.out.fr 2 rfl); (try have a3 := K.out.rd 3 rfl); (try have l3 := K.out.ltp 3 rfl); (try have f3 := K.out.fr 3 rfl)))
  refine shown hkC _ _ (by (try dsimp only); (exact sat.rd 0 (by repeat (with_reducible first | exact K.out | apply sat.alloc_any | apply sat.drew | apply sat.drewN)) rfl)) ?_; clear hkC kC hHeld; intro hHeld
  (try simp only [Act.put, p0, p1, p2])
  refine tk 12 (some 6) ?_
  (try simp only [Act.put, p0, p1, p2])
  refine wpAnyH_done (by kernel_rfl) (NoPanic.normal ?_) _
  go_wp2_with (first | ((with_reducible refine at_store ?_); refine st_store 0 K.out rfl rfl rfl rfl ?_ ?_ ?_ ?_; (· kernel_rfl); (· simp); (· simp [Value.oneCell']); intro w1 K1; simp only [List.set, putL] at K1; have K2 := Lib.hid K1; clear K1 K; (try clear a0); (try clear l0); (try clear a1); (try clear l1); (try clear a2); (try clear l2); have K := K2; clear K2; have a0 := K.out.rd 0 rfl; have l0 := K.out.ltp 0 rfl; have a1 := K.out.rd 1 rfl; have l1 := K.out.ltp 1 rfl) | ((with_reducible refine at_store ?_); refine st_store 1 K.out rfl rfl rfl rfl ?_ ?_ ?_ ?_; (· kernel_rfl); (· show _ + 1 ≤ _; simp [u64s]; omega); (· simp [Value.oneCell']); intro w1 K1; simp only [List.set, putL_one] at K1; have K2 := Lib.hid K1; clear K1 K; (try clear a0); (try clear l0); (try clear a1); (try clear l1); (try clear a2); (try clear l2); have K := K2; clear K2; have a0 := K.out.rd 0 rfl; have l0 := K.out.ltp 0 rfl; have a1 := K.out.rd 1 rfl; have l1 := K.out.ltp 1 rfl))
  have K1 : sat E _ (snapP b g { s with same := (false && eqb), k := s.k + 1 } :: pt g (.cells ((u64s s.words).set s.slot.toNat (.int .u64 x)).toArray 31 (0, 0)) :: memA bm (m.touch s.who 0 s.slot 0 0) :: L) := K.out
  clear K a0 l0 a1 l1
  have K := Lib.hid K1
  clear K1
  have a0 := K.out.rd 0 rfl; have l0 := K.out.ltp 0 rfl; have a1 := K.out.rd 1 rfl; have l1 := K.out.ltp 1 rfl
  refine wp_region_noPanic ?_
  refine wp_region_held_drew (S := (fun w' => ∀ j, w'.cell? ⟨b, j, none⟩ = (SnapM.v ({ s with same := (false && eqb), k := s.k + 1 } : SnapM) g)[j]?)) (by kernel_rfl) ?_ (fun hHeld => ?_)
  · ((try dsimp only); (exact sat.rd 0 (by repeat (with_reducible first | exact K.out | apply sat.alloc_any | apply sat.drew | apply sat.drewN)) rfl))
  refine tk 0 (some 88) ?_
  (try simp only [Act.put, p0, p1, p2])
  refine tk 1 (some 89) ?_
  (try simp only [Act.put, p0, p1, p2])
  refine tk 2 (some 90) ?_
  (try simp only [Act.put, p0, p1, p2])
  refine tk 3 (some 91) ?_
  (try simp only [Act.put, p0, p1, p2])
  refine tk 4 (some 92) ?_
  (try simp only [Act.put, p0, p1, p2])
  refine tk 5 (some 93) ?_
  (try simp only [Act.put, p0, p1, p2])
  refine tk 6 (some 94) ?_
  (try simp only [Act.put, p0, p1, p2])
  refine tk 7 (some 95) ?_
  (try simp only [Act.put, p0, p1, p2])
  refine wpAnyH_ready (rs := [8]) (by kernel_rfl) (by simp) ?_
  refine AllReadyH.cons (o := _) rfl (fun kC hkC => ?_) AllReadyH.nil
  go_simp
  (first | (go_at_call 9; (with_reducible refine ((AL _).out).mono ?_); rintro e w1 ⟨rfl, hb⟩; have K1 := sat.grown (show sat _ _ _ from by first | exact K.out | exact K.out.drew) hb; clear hb; have K2 := Lib.hid K1; clear K1 K; (try clear a0); (try clear l0); (try clear f0); (try clear a1); (try clear l1); (try clear f1); (try clear a2); (try clear l2); (try clear f2); (try clear a3); (try clear l3); (try clear f3); (try clear a4); (try clear l4); (try clear f4); (try clear a5); (try clear l5); (try clear f5); have K := K2; clear K2; (try have a0 := K.out.rd 0 rfl); (try have l0 := K.out.ltp 0 rfl); (try have f0 := K.out.fr 0 rfl); (try have a1 := K.out.rd 1 rfl); (try have l1 := K.out.ltp 1 rfl); (try have f1 := K.out.fr 1 rfl); (try have a2 := K.out.rd 2 rfl); (try have l2 := K.out.ltp 2 rfl); (try have f2 := K.out.fr 2 rfl); (try have a3 := K.out.rd 3 rfl); (try have l3 := K.out.ltp 3 rfl); (try have f3 := K.out.fr 3 rfl)))
  refine shown hkC _ _ (by (try dsimp only); (exact sat.rd 0 (by repeat (with_reducible first | exact K.out | apply sat.alloc_any | apply sat.drew | apply sat.drewN)) rfl)) ?_; clear hkC kC hHeld; intro hHeld
  (try simp only [Act.put, p0, p1, p2])
  refine tk 9 (some 97) ?_
  (try simp only [Act.put, p0, p1, p2])
  refine wpAnyH_done (by kernel_rfl) (NoPanic.normal ?_) _
  cases la with
  | true =>
    have hla' : s.k + 1 < s.conf.all := by simpa using hla
    rw [if_pos hla'] at hr
    go_wp2
    go_ret
    subst hr
    refine ⟨rfl, snapA_shut (g := g) (s := { s with same := (false && eqb), words := setI s.words s.slot x, k := s.k + 1 }) ?_⟩
    have K1 := K.out
    rw [u64s_set] at K1
    simp only [snapP, SnapM.v, setI, List.length_set]
    first | exact K1 | exact K1.drew
  | false =>
    have hla' : ¬ s.k + 1 < s.conf.all := by simpa using hla
    rw [if_neg hla'] at hr
    cases eqb
    all_goals
      go_wp2_with (first | ((with_reducible refine at_store ?_); refine st_store 0 K.out rfl rfl rfl rfl ?_ ?_ ?_ ?_; (· kernel_rfl); (· simp); (· simp [Value.oneCell']); intro w1 K1; simp only [List.set, putL] at K1; have K2 := Lib.hid K1; clear K1 K; (try clear a0); (try clear l0); (try clear a1); (try clear l1); (try clear a2); (try clear l2); have K := K2; clear K2; have a0 := K.out.rd 0 rfl; have l0 := K.out.ltp 0 rfl; have a1 := K.out.rd 1 rfl; have l1 := K.out.ltp 1 rfl))
      go_ret
      subst hr
      first
      | (refine ⟨by first | rfl | exact ret_i HP.out, snapA_shut (g := g) (s := { s with same := (false && true), words := setI s.words s.slot x, k := 0, pass := s.pass + 1, phase := if (false && true) = true then 1 else 0 }) ?_⟩; have K1 := K.out; rw [u64s_set] at K1; (try simp only [HP.out] at K1); simp only [snapP, SnapM.v, setI, List.length_set]; exact K1)
      | (refine ⟨by first | rfl | exact ret_i HP.out, snapA_shut (g := g) (s := { s with same := (false && false), words := setI s.words s.slot x, k := 0, pass := s.pass + 1, phase := if (false && false) = true then 1 else 0 }) ?_⟩; have K1 := K.out; rw [u64s_set] at K1; (try simp only [HP.out] at K1); simp only [snapP, SnapM.v, setI, List.length_set]; exact K1)
/-- A step of a Snap. -/
theorem sstep_calls (b bm : Nat) (s : SnapM) (m : MemM) (ho : s.ok) (hroom : m.log.length < 1000000000) (h : sat E w (snapA b s :: memA bm m :: L)) :
    Calls Try.prog 30 #[.pointer (some ⟨b, 0, none⟩), .pointer (some ⟨bm, 0, none⟩)] w fun e w' => e = .returned (.int .i64 (s.step m).1.phase) ∧ sat E w' (snapA b (s.step m).1 :: memA bm (s.step m).2 :: L) := by
  by_cases hp : s.phase = 0
  · by_cases hk : s.k = 0
    · cases hs : s.same0
      · exact sstep_k0f _ _ b bm s m ho hp hk hroom hs rfl rfl h
      · exact sstep_k0t _ _ b bm s m ho hp hk hroom hs rfl rfl h
    · cases hs : s.same0
      · exact sstep_knf _ _ b bm s m ho hp hk hroom hs rfl rfl h
      · exact sstep_knt _ _ b bm s m ho hp hk hroom hs rfl rfl h
  · have e : s.step m = (s, m) := by unfold SnapM.step; rw [if_pos hp]
    rw [e]
    exact sstep_off b bm s m hp h
end
end Go.Proofs.Ytdhcomklmckhoaa
