/- Several texts in one: Snap SnapN Ok. Each says ahead of it what it shows. -/
import Derived.Test.YtegdhojhnmgjgaaGreatB4
import Derived.Test.YtegdhojhnmgjgaaGreatB2
set_option linter.unusedVariables false
set_option linter.unusedSimpArgs false
/- All places at one time (package snap): what each of its functions does. Conditions: a Right layout, a thread of it, room for what is noted. -/
namespace Go.Proofs.YtegdhojhnmgjgaaGreat
open Go.RowKit Go.SepYtegdhojhnmgjgaaGreat
set_option maxRecDepth 100000
set_option maxHeartbeats 1000000
attribute [local go_sem] min2_w max2_w min_w max_w
abbrev SnapM.v (s : SnapM) (g : Nat) : List Value := [.int .i64 s.conf.th, .int .i64 s.conf.sl, .int .i64 s.conf.src, .int .i64 s.conf.dl, .int .i64 s.who, .int .i64 s.start, .int .i64 s.k, .int .i64 s.pass, .bool s.same, .slice (some ⟨g, 0, none⟩) s.words.length s.words.length, .int .i64 s.phase]
abbrev snapP (b g : Nat) (s : SnapM) : SA := pt b (.cells (s.v g).toArray 155 (0, 0))
abbrev u64A (g : Nat) (l : List Int) : SA := pt g (.cells (u64s l).toArray 33 (0, 0))
def snapA (b : Nat) (s : SnapM) : SA := fun h => ∃ g : Nat, bag [snapP b g s, u64A g s.words] h
structure SnapM.ok (s : SnapM) : Prop where
  conf : s.conf.ok
  who0 : 0 ≤ s.who
  who1 : s.who < s.conf.th
  st0 : 0 ≤ s.start
  st1 : s.start < s.conf.all
  k0 : 0 ≤ s.k
  k1 : s.k < s.conf.all
  p0 : 0 ≤ s.pass
  p1 : s.pass ≤ 1000000000
  len : (s.words.length : Int) = s.conf.all
theorem SnapM.ok.slot_bd {s : SnapM} (h : s.ok) : 0 ≤ s.slot ∧ s.slot < s.conf.all := by
  have := h.conf.all_bd
  unfold SnapM.slot
  exact ⟨Int.emod_nonneg _ (by omega), Int.emod_lt_of_pos _ (by omega)⟩
section
variable {E w : World} {L : List SA}
theorem snapA_open {b : Nat} {s : SnapM} (h : sat E w (snapA b s :: L)) : ∃ g : Nat, sat E w (snapP b g s :: u64A g s.words :: L) := by
  obtain ⟨g, h⟩ := h.ex
  exact ⟨g, h.unbag⟩
theorem snapA_shut {b g : Nat} {s : SnapM} (h : sat E w (snapP b g s :: u64A g s.words :: L)) : sat E w (snapA b s :: L) :=
  sat.mkex g (sat.bag (M := [_, _]) h)
theorem _root_.Go.SepYtegdhojhnmgjgaaGreat.sat.cab {A B C : SA} (h : sat E w (A :: B :: C :: L)) : sat E w (C :: A :: B :: L) := h.pick 2 rfl
theorem _root_.Go.SepYtegdhojhnmgjgaaGreat.sat.uncab {A B C : SA} (h : sat E w (C :: A :: B :: L)) : sat E w (A :: B :: C :: L) := (h.pick 2 rfl).pick 2 rfl
theorem sphase_calls (b : Nat) (s : SnapM) (h : sat E w (snapA b s :: L)) :
    Calls Tryz.prog 164 #[.pointer (some ⟨b, 0, none⟩)] w fun e w' => e = .returned (.int .i64 s.phase) ∧ w = w' := by
  obtain ⟨g, h⟩ := snapA_open h
  have a0 := h.rd 0 rfl
  clear h
  go_enter Tryz.func164, Tryz.ntmps164
  go_wp2
  go_ret
  exact ⟨rfl, rfl⟩
theorem sstep_off (b bm : Nat) (s : SnapM) (m : MemM) (hp : s.phase ≠ 0) (h : sat E w (snapA b s :: memA bm m :: L)) :
    Calls Tryz.prog 80 #[.pointer (some ⟨b, 0, none⟩), .pointer (some ⟨bm, 0, none⟩)] w fun e w' => e = .returned (.int .i64 s.phase) ∧ sat E w' (snapA b s :: memA bm m :: L) := by
  obtain ⟨g, h⟩ := snapA_open h
  have K := Lib.hid h
  clear h
  have a0 := K.out.rd 0 rfl; have l0 := K.out.ltp 0 rfl
  have c0 : (s.phase == 0) = false := by simpa using hp
  clear hp
  go_enter Tryz.func80, Tryz.ntmps80
  go_wp2
  go_ret
  exact ⟨rfl, snapA_shut K.out⟩
theorem snapS {b g : Nat} {s s' : SnapM} {M : List SA} (h : sat E w (snapP b g s' :: M)) (hc : s'.conf = s.conf) (hw : s'.who = s.who) (hs : s'.start = s.start) (hk : s'.k = s.k) :
    w.cell? ⟨b, 0, none⟩ = some (.int .i64 s.conf.th) ∧ w.cell? ⟨b, 1, none⟩ = some (.int .i64 s.conf.sl) ∧ w.cell? ⟨b, 2, none⟩ = some (.int .i64 s.conf.src) ∧ w.cell? ⟨b, 3, none⟩ = some (.int .i64 s.conf.dl) ∧ w.cell? ⟨b, 4, none⟩ = some (.int .i64 s.who) ∧ w.cell? ⟨b, 5, none⟩ = some (.int .i64 s.start) ∧ w.cell? ⟨b, 6, none⟩ = some (.int .i64 s.k) := by
  have := h.rd 0 rfl
  rw [← hc, ← hw, ← hs, ← hk]
  exact ⟨this 0, this 1, this 2, this 3, this 4, this 5, this 6⟩
theorem u64s_set (l : List Int) (i : Nat) (x : Int) : (u64s l).set i (.int .u64 x) = u64s (l.set i x) := by simp [u64s]
/-- What a step does behind the word that it read. -/
def SnapM.rest (s : SnapM) (same : Bool) (x : Int) : SnapM :=
  if s.k + 1 < s.conf.all then { s with same := same, words := setI s.words s.slot x, k := s.k + 1 }
  else { s with same := same, words := setI s.words s.slot x, k := 0, pass := s.pass + 1, phase := if same then 1 else 0 }
def SnapM.same0 (s : SnapM) : Bool := if s.k = 0 then decide (s.pass > 0) else s.same
theorem SnapM.step_eq (s : SnapM) (m : MemM) (hp : s.phase = 0) : s.step m = (s.rest (s.same0 && decide (m.peek s.slot = getI s.words s.slot)) (m.peek s.slot), m.touch s.who 0 s.slot 0 0) := by
  unfold SnapM.step SnapM.rest SnapM.same0
  rw [if_neg (by simpa using hp)]
-- printed by snaps.py from here on
theorem sstep_k0t (la eqb : Bool) (b bm : Nat) (s : SnapM) (m : MemM) (ho : s.ok) (hp : s.phase = 0) (hk : s.k = 0) (hroom : m.log.length < 1000000000) (hsm : s.same0 = true) (heq : decide (m.peek s.slot = getI s.words s.slot) = eqb) (hla : decide (s.k + 1 < s.conf.all) = la) (h : sat E w (snapA b s :: memA bm m :: L)) :
    Calls Tryz.prog 80 #[.pointer (some ⟨b, 0, none⟩), .pointer (some ⟨bm, 0, none⟩)] w fun e w' => e = .returned (.int .i64 (s.step m).1.phase) ∧ sat E w' (snapA b (s.step m).1 :: memA bm (s.step m).2 :: L) := by
  obtain ⟨g, h⟩ := snapA_open h
  have K := Lib.hid h
  clear h
  have a0 := K.out.rd 0 rfl; have l0 := K.out.ltp 0 rfl; have a1 := K.out.rd 1 rfl; have l1 := K.out.ltp 1 rfl
  have c0 : (s.phase == 0) = true := by simpa using hp
  have c1 : (s.k == 0) = true := by simpa using hk
  have B := ho.slot_bd
  obtain ⟨B0, B1⟩ := B
  have hal := ho.conf.all_bd
  obtain ⟨k0, k1⟩ := And.intro ho.k0 ho.k1
  obtain ⟨st0, st1⟩ := And.intro ho.st0 ho.st1
  obtain ⟨p0, p1⟩ := And.intro ho.p0 ho.p1
  have AL := fun w => Lib.hid (all_calls s.conf w ho.conf)
  obtain ⟨al0, al1⟩ := hal
  have v1 : IntKind.i64.wrap (s.start + s.k) = s.start + s.k := wi (by omega) (by omega)
  have v2 : Int.tmod (s.start + s.k) s.conf.all = s.slot := by unfold SnapM.slot; rw [Int.tmod_eq_emod_of_nonneg (by omega)]
  have v3 : IntKind.i64.wrap s.slot = s.slot := wi (by omega) (by omega)
  have z1 : (s.conf.all == 0) = false := by simp; omega
  have z2 : ¬ s.conf.all = 0 := by omega
  have hlen := ho.len
  have n0 : s.slot < s.words.length := by omega
  have gd := getD_cell B0 n0
  have d2 : decide (s.pass > 0) = true := by rw [← hsm]; unfold SnapM.same0; rw [if_pos hk]
  have LD := fun w (h : sat E w (memA bm m :: snapP b g ({ s with same := true } : SnapM) :: u64A g s.words :: L)) => Lib.hid (load_calls bm m s.who s.slot hroom h)
  have e := s.step_eq m hp
  rw [hsm, heq] at e
  generalize m.peek s.slot = x at LD e heq
  generalize getI s.words s.slot = y at gd heq
  have c2 : (x == y) = eqb := by rw [← heq]; rfl
  rw [e]
  obtain ⟨r, hr⟩ : ∃ r, r = s.rest (true && eqb) x := ⟨_, rfl⟩
  rw [← hr]
  unfold SnapM.rest at hr
  have HP := Lib.hid hp
  clear e hsm hp hk heq
  clear ho
  go_enter Tryz.func80, Tryz.ntmps80
  go_wp2_with (first | ((with_reducible refine at_store ?_); refine st_store 0 K.out rfl rfl rfl rfl ?_ ?_ ?_ ?_; (· kernel_rfl); (· simp); (· simp [Value.oneCell']); intro w1 K1; simp only [List.set, putL] at K1; have K2 := Lib.hid K1; clear K1 K; (try clear a0); (try clear l0); (try clear a1); (try clear l1); (try clear a2); (try clear l2); have K := K2; clear K2; have a0 := K.out.rd 0 rfl; have l0 := K.out.ltp 0 rfl; have a1 := K.out.rd 1 rfl; have l1 := K.out.ltp 1 rfl))
  have K1 : sat E _ (snapP b g ({ s with same := true } : SnapM) :: u64A g s.words :: memA bm m :: L) := K.out
  clear K a0 l0 a1 l1
  have K := Lib.hid K1
  clear K1
  have a0 := K.out.rd 0 rfl; have l0 := K.out.ltp 0 rfl; have a1 := K.out.rd 1 rfl; have l1 := K.out.ltp 1 rfl
  refine wp_region_noPanic ?_
  refine wp_region_held_drew (S := (fun w' => ∀ j, w'.cell? ⟨b, j, none⟩ = (SnapM.v ({ s with same := true } : SnapM) g)[j]?)) (by kernel_rfl) ?_ (fun hHeld => ?_)
  · ((try dsimp only); (exact sat.rd 0 (by repeat (with_reducible first | exact K.out | apply sat.alloc_any | apply sat.drew | apply sat.drewN)) rfl))
  refine tk 0 (some 29) ?_
  (try simp only [Act.put, p0, p1, p2])
  refine tk 1 (some 30) ?_
  (try simp only [Act.put, p0, p1, p2])
  refine tk 2 (some 31) ?_
  (try simp only [Act.put, p0, p1, p2])
  refine tk 3 (some 32) ?_
  (try simp only [Act.put, p0, p1, p2])
  refine tk 4 (some 33) ?_
  (try simp only [Act.put, p0, p1, p2])
  refine tk 5 (some 34) ?_
  (try simp only [Act.put, p0, p1, p2])
  refine tk 6 (some 35) ?_
  (try simp only [Act.put, p0, p1, p2])
  refine tk 7 (some 36) ?_
  (try simp only [Act.put, p0, p1, p2])
  refine tk 8 (some 37) ?_
  (try simp only [Act.put, p0, p1, p2])
  refine tk 9 (some 38) ?_
  (try simp only [Act.put, p0, p1, p2])
  refine tk 10 (some 39) ?_
  (try simp only [Act.put, p0, p1, p2])
  refine tk 11 (some 40) ?_
  (try simp only [Act.put, p0, p1, p2])
  refine tk 12 (some 41) ?_
  (try simp only [Act.put, p0, p1, p2])
  refine wpAnyH_ready (rs := [13]) (by kernel_rfl) (by simp) ?_
  refine AllReadyH.cons (o := _) rfl (fun kC hkC => ?_) AllReadyH.nil
  go_simp
  (first | (go_at_call 31; (with_reducible refine ((AL _).out).mono ?_); rintro e w1 ⟨rfl, hb⟩; have K1 := sat.grown (show sat _ _ _ from by first | exact K.out | exact K.out.drew) hb; clear hb; have K2 := Lib.hid K1; clear K1 K; (try clear a0); (try clear l0); (try clear f0); (try clear a1); (try clear l1); (try clear f1); (try clear a2); (try clear l2); (try clear f2); (try clear a3); (try clear l3); (try clear f3); (try clear a4); (try clear l4); (try clear f4); (try clear a5); (try clear l5); (try clear f5); have K := K2; clear K2; (try have a0 := K.out.rd 0 rfl); (try have l0 := K.out.ltp 0 rfl); (try have f0 := K.out.fr 0 rfl); (try have a1 := K.out.rd 1 rfl); (try have l1 := K.out.ltp 1 rfl); (try have f1 := K.out.fr 1 rfl); (try have a2 := K.out.rd 2 rfl); (try have l2 := K.out.ltp 2 rfl); (try have f2 := K.out.fr 2 rfl); (try have a3 := K.out.rd 3 rfl); (try have l3 := K.out.ltp 3 rfl); (try have f3 := K.out.fr 3 rfl)))
  refine shown hkC _ _ (by (try dsimp only); (exact sat.rd 0 (by repeat (with_reducible first | exact K.out | apply sat.alloc_any | apply sat.drew | apply sat.drewN)) rfl)) ?_; clear hkC kC hHeld; intro hHeld
  (try simp only [Act.put, p0, p1, p2])
  refine tk 14 (some 43) ?_
  (try simp only [Act.put, p0, p1, p2])
  refine tk 15 (some 5) ?_
  (try simp only [Act.put, p0, p1, p2])
  refine wpAnyH_done (by kernel_rfl) (NoPanic.normal ?_) _
  go_wp2_with fail
  refine wp_region_noPanic ?_
  refine wp_region_held_drew (S := (fun w' => ∀ j, w'.cell? ⟨b, j, none⟩ = (SnapM.v ({ s with same := true } : SnapM) g)[j]?)) (by kernel_rfl) ?_ (fun hHeld => ?_)
  · ((try dsimp only); (exact sat.rd 0 (by repeat (with_reducible first | exact K.out | apply sat.alloc_any | apply sat.drew | apply sat.drewN)) rfl))
  refine tk 0 (some 44) ?_
  (try simp only [Act.put, p0, p1, p2])
  refine tk 1 (some 45) ?_
  (try simp only [Act.put, p0, p1, p2])
  refine tk 2 (some 46) ?_
  (try simp only [Act.put, p0, p1, p2])
  refine tk 3 (some 47) ?_
  (try simp only [Act.put, p0, p1, p2])
  refine tk 4 (some 48) ?_
  (try simp only [Act.put, p0, p1, p2])
  refine tk 5 (some 49) ?_
  (try simp only [Act.put, p0, p1, p2])
  refine tk 6 (some 50) ?_
  (try simp only [Act.put, p0, p1, p2])
  refine tk 7 (some 51) ?_
  (try simp only [Act.put, p0, p1, p2])
  refine tk 8 (some 52) ?_
  (try simp only [Act.put, p0, p1, p2])
  refine tk 9 (some 53) ?_
  (try simp only [Act.put, p0, p1, p2])
  refine wpAnyH_ready (rs := [10]) (by kernel_rfl) (by simp) ?_
  refine AllReadyH.cons (o := _) rfl (fun kC hkC => ?_) AllReadyH.nil
  go_simp
  (first | (go_at_call 33; (with_reducible refine (word_calls s.conf _ s.slot).mono ?_); rintro e w1 ⟨rfl, hb⟩; have K1 := sat.grown (show sat _ _ _ from by first | exact K.out | exact K.out.drew) hb; clear hb; have K2 := Lib.hid K1; clear K1 K; (try clear a0); (try clear l0); (try clear f0); (try clear a1); (try clear l1); (try clear f1); (try clear a2); (try clear l2); (try clear f2); (try clear a3); (try clear l3); (try clear f3); (try clear a4); (try clear l4); (try clear f4); (try clear a5); (try clear l5); (try clear f5); have K := K2; clear K2; (try have a0 := K.out.rd 0 rfl); (try have l0 := K.out.ltp 0 rfl); (try have f0 := K.out.fr 0 rfl); (try have a1 := K.out.rd 1 rfl); (try have l1 := K.out.ltp 1 rfl); (try have f1 := K.out.fr 1 rfl); (try have a2 := K.out.rd 2 rfl); (try have l2 := K.out.ltp 2 rfl); (try have f2 := K.out.fr 2 rfl); (try have a3 := K.out.rd 3 rfl); (try have l3 := K.out.ltp 3 rfl); (try have f3 := K.out.fr 3 rfl)) | (go_at_call 95; (with_reducible refine ((LD _ (show sat E _ _ from by first | exact K.out | exact K.out.drew).cab).out).mono ?_); rintro e w1 ⟨rfl, K1⟩; replace K1 := K1.uncab; have K2 := Lib.hid K1; clear K1 K; (try clear a0); (try clear l0); (try clear f0); (try clear a1); (try clear l1); (try clear f1); (try clear a2); (try clear l2); (try clear f2); (try clear a3); (try clear l3); (try clear f3); (try clear a4); (try clear l4); (try clear f4); (try clear a5); (try clear l5); (try clear f5); have K := K2; clear K2; (try have a0 := K.out.rd 0 rfl); (try have l0 := K.out.ltp 0 rfl); (try have f0 := K.out.fr 0 rfl); (try have a1 := K.out.rd 1 rfl); (try have l1 := K.out.ltp 1 rfl); (try have f1 := K.out.fr 1 rfl); (try have a2 := K.out.rd 2 rfl); (try have l2 := K.out.ltp 2 rfl); (try have f2 := K.out.fr 2 rfl); (try have a3 := K.out.rd 3 rfl); (try have l3 := K.out.ltp 3 rfl); (try have f3 := K.out.fr 3 rfl)))
  refine shown hkC _ _ (by (try dsimp only); (exact sat.rd 0 (by repeat (with_reducible first | exact K.out | apply sat.alloc_any | apply sat.drew | apply sat.drewN)) rfl)) ?_; clear hkC kC hHeld; intro hHeld
  (try simp only [Act.put, p0, p1, p2])
  refine wpAnyH_ready (rs := [11]) (by kernel_rfl) (by simp) ?_
  refine AllReadyH.cons (o := _) rfl (fun kC hkC => ?_) AllReadyH.nil
  go_simp
  (first | (go_at_call 33; (with_reducible refine (word_calls s.conf _ s.slot).mono ?_); rintro e w1 ⟨rfl, hb⟩; have K1 := sat.grown (show sat _ _ _ from by first | exact K.out | exact K.out.drew) hb; clear hb; have K2 := Lib.hid K1; clear K1 K; (try clear a0); (try clear l0); (try clear f0); (try clear a1); (try clear l1); (try clear f1); (try clear a2); (try clear l2); (try clear f2); (try clear a3); (try clear l3); (try clear f3); (try clear a4); (try clear l4); (try clear f4); (try clear a5); (try clear l5); (try clear f5); have K := K2; clear K2; (try have a0 := K.out.rd 0 rfl); (try have l0 := K.out.ltp 0 rfl); (try have f0 := K.out.fr 0 rfl); (try have a1 := K.out.rd 1 rfl); (try have l1 := K.out.ltp 1 rfl); (try have f1 := K.out.fr 1 rfl); (try have a2 := K.out.rd 2 rfl); (try have l2 := K.out.ltp 2 rfl); (try have f2 := K.out.fr 2 rfl); (try have a3 := K.out.rd 3 rfl); (try have l3 := K.out.ltp 3 rfl); (try have f3 := K.out.fr 3 rfl)) | (go_at_call 95; (with_reducible refine ((LD _ (show sat E _ _ from by first | exact K.out | exact K.out.drew).cab).out).mono ?_); rintro e w1 ⟨rfl, K1⟩; replace K1 := K1.uncab; have K2 := Lib.hid K1; clear K1 K; (try clear a0); (try clear l0); (try clear f0); (try clear a1); (try clear l1); (try clear f1); (try clear a2); (try clear l2); (try clear f2); (try clear a3); (try clear l3); (try clear f3); (try clear a4); (try clear l4); (try clear f4); (try clear a5); (try clear l5); (try clear f5); have K := K2; clear K2; (try have a0 := K.out.rd 0 rfl); (try have l0 := K.out.ltp 0 rfl); (try have f0 := K.out.fr 0 rfl); (try have a1 := K.out.rd 1 rfl); (try have l1 := K.out.ltp 1 rfl); (try have f1 := K.out.fr 1 rfl); (try have a2 := K.out.rd 2 rfl); (try have l2 := K.out.ltp 2 rfl); (try have f2 := K.out.fr 2 rfl); (try have a3 := K.out.rd 3 rfl); (try have l3 := K.out.ltp 3 rfl); (try have f3 := K.out.fr 3 rfl)))
  refine shown hkC _ _ (by (try dsimp only); (exact sat.rd 0 (by repeat (with_reducible first | exact K.out | apply sat.alloc_any | apply sat.drew | apply sat.drewN)) rfl)) ?_; clear hkC kC hHeld; intro hHeld
  (try simp only [Act.put, p0, p1, p2])
  refine tk 12 (some 6) ?_
  (try simp only [Act.put, p0, p1, p2])
  refine wpAnyH_done (by kernel_rfl) (NoPanic.normal ?_) _
  go_wp2_with (first | ((with_reducible refine at_store ?_); refine st_store 0 K.out rfl rfl rfl rfl ?_ ?_ ?_ ?_; (· kernel_rfl); (· simp); (· simp [Value.oneCell']); intro w1 K1; simp only [List.set, putL] at K1; have K2 := Lib.hid K1; clear K1 K; (try clear a0); (try clear l0); (try clear a1); (try clear l1); (try clear a2); (try clear l2); have K := K2; clear K2; have a0 := K.out.rd 0 rfl; have l0 := K.out.ltp 0 rfl; have a1 := K.out.rd 1 rfl; have l1 := K.out.ltp 1 rfl) | ((with_reducible refine at_store ?_); refine st_store 1 K.out rfl rfl rfl rfl ?_ ?_ ?_ ?_; (· kernel_rfl); (· show _ + 1 ≤ _; simp [u64s]; omega); (· simp [Value.oneCell']); intro w1 K1; simp only [List.set, putL_one] at K1; have K2 := Lib.hid K1; clear K1 K; (try clear a0); (try clear l0); (try clear a1); (try clear l1); (try clear a2); (try clear l2); have K := K2; clear K2; have a0 := K.out.rd 0 rfl; have l0 := K.out.ltp 0 rfl; have a1 := K.out.rd 1 rfl; have l1 := K.out.ltp 1 rfl))
  have K1 : sat E _ (snapP b g { s with same := (true && eqb), k := s.k + 1 } :: pt g (.cells ((u64s s.words).set s.slot.toNat (.int .u64 x)).toArray 33 (0, 0)) :: memA bm (m.touch s.who 0 s.slot 0 0) :: L) := K.out
  clear K a0 l0 a1 l1
  have K := Lib.hid K1
  clear K1
  have a0 := K.out.rd 0 rfl; have l0 := K.out.ltp 0 rfl; have a1 := K.out.rd 1 rfl; have l1 := K.out.ltp 1 rfl
  refine wp_region_noPanic ?_
  refine wp_region_held_drew (S := (fun w' => ∀ j, w'.cell? ⟨b, j, none⟩ = (SnapM.v ({ s with same := (true && eqb), k := s.k + 1 } : SnapM) g)[j]?)) (by kernel_rfl) ?_ (fun hHeld => ?_)
  · ((try dsimp only); (exact sat.rd 0 (by repeat (with_reducible first | exact K.out | apply sat.alloc_any | apply sat.drew | apply sat.drewN)) rfl))
  refine tk 0 (some 88) ?_
  (try simp only [Act.put, p0, p1, p2])
  refine tk 1 (some 89) ?_
  (try simp only [Act.put, p0, p1, p2])
  refine tk 2 (some 90) ?_
  (try simp only [Act.put, p0, p1, p2])
  refine tk 3 (some 91) ?_
  (try simp only [Act.put, p0, p1, p2])
  refine tk 4 (some 92) ?_
  (try simp only [Act.put, p0, p1, p2])
  refine tk 5 (some 93) ?_
  (try simp only [Act.put, p0, p1, p2])
  refine tk 6 (some 94) ?_
  (try simp only [Act.put, p0, p1, p2])
  refine tk 7 (some 95) ?_
  (try simp only [Act.put, p0, p1, p2])
  refine wpAnyH_ready (rs := [8]) (by kernel_rfl) (by simp) ?_
  refine AllReadyH.cons (o := _) rfl (fun kC hkC => ?_) AllReadyH.nil
  go_simp
  (first | (go_at_call 31; (with_reducible refine ((AL _).out).mono ?_); rintro e w1 ⟨rfl, hb⟩; have K1 := sat.grown (show sat _ _ _ from by first | exact K.out | exact K.out.drew) hb; clear hb; have K2 := Lib.hid K1; clear K1 K; (try clear a0); (try clear l0); (try clear f0); (try clear a1); (try clear l1); (try clear f1); (try clear a2); (try clear l2); (try clear f2); (try clear a3); (try clear l3); (try clear f3); (try clear a4); (try clear l4); (try clear f4); (try clear a5); (try clear l5); (try clear f5); have K := K2; clear K2; (try have a0 := K.out.rd 0 rfl); (try have l0 := K.out.ltp 0 rfl); (try have f0 := K.out.fr 0 rfl); (try have a1 := K.out.rd 1 rfl); (try have l1 := K.out.ltp 1 rfl); (try have f1 := K.out.fr 1 rfl); (try have a2 := K.out.rd 2 rfl); (try have l2 := K.out.ltp 2 rfl); (try have f2 := K.out.fr 2 rfl); (try have a3 := K.out.rd 3 rfl); (try have l3 := K.out.ltp 3 rfl); (try have f3 := K.out.fr 3 rfl)))
  refine shown hkC _ _ (by (try dsimp only); (exact sat.rd 0 (by repeat (with_reducible first | exact K.out | apply sat.alloc_any | apply sat.drew | apply sat.drewN)) rfl)) ?_; clear hkC kC hHeld; intro hHeld
  (try simp only [Act.put, p0, p1, p2])
  refine tk 9 (some 97) ?_
  (try simp only [Act.put, p0, p1, p2])
  refine wpAnyH_done (by kernel_rfl) (NoPanic.normal ?_) _
  cases la with
  | true =>
    have hla' : s.k + 1 < s.conf.all := by simpa using hla
    rw [if_pos hla'] at hr
    go_wp2
    go_ret
    subst hr
    refine ⟨rfl, snapA_shut (g := g) (s := { s with same := (true && eqb), words := setI s.words s.slot x, k := s.k + 1 }) ?_⟩
    have K1 := K.out
    rw [u64s_set] at K1
    simp only [snapP, SnapM.v, setI, List.length_set]
    first | exact K1 | exact K1.drew
  | false =>
    have hla' : ¬ s.k + 1 < s.conf.all := by simpa using hla
    rw [if_neg hla'] at hr
    cases eqb
    all_goals
      go_wp2_with (first | ((with_reducible refine at_store ?_); refine st_store 0 K.out rfl rfl rfl rfl ?_ ?_ ?_ ?_; (· kernel_rfl); (· simp); (· simp [Value.oneCell']); intro w1 K1; simp only [List.set, putL] at K1; have K2 := Lib.hid K1; clear K1 K; (try clear a0); (try clear l0); (try clear a1); (try clear l1); (try clear a2); (try clear l2); have K := K2; clear K2; have a0 := K.out.rd 0 rfl; have l0 := K.out.ltp 0 rfl; have a1 := K.out.rd 1 rfl; have l1 := K.out.ltp 1 rfl))
      go_ret
      subst hr
      first
      | (refine ⟨by first | rfl | exact ret_i HP.out, snapA_shut (g := g) (s := { s with same := (true && true), words := setI s.words s.slot x, k := 0, pass := s.pass + 1, phase := if (true && true) = true then 1 else 0 }) ?_⟩; have K1 := K.out; rw [u64s_set] at K1; (try simp only [HP.out] at K1); simp only [snapP, SnapM.v, setI, List.length_set]; exact K1)
      | (refine ⟨by first | rfl | exact ret_i HP.out, snapA_shut (g := g) (s := { s with same := (true && false), words := setI s.words s.slot x, k := 0, pass := s.pass + 1, phase := if (true && false) = true then 1 else 0 }) ?_⟩; have K1 := K.out; rw [u64s_set] at K1; (try simp only [HP.out] at K1); simp only [snapP, SnapM.v, setI, List.length_set]; exact K1)
theorem sstep_k0f (la eqb : Bool) (b bm : Nat) (s : SnapM) (m : MemM) (ho : s.ok) (hp : s.phase = 0) (hk : s.k = 0) (hroom : m.log.length < 1000000000) (hsm : s.same0 = false) (heq : decide (m.peek s.slot = getI s.words s.slot) = eqb) (hla : decide (s.k + 1 < s.conf.all) = la) (h : sat E w (snapA b s :: memA bm m :: L)) :
    Calls Tryz.prog 80 #[.pointer (some ⟨b, 0, none⟩), .pointer (some ⟨bm, 0, none⟩)] w fun e w' => e = .returned (.int .i64 (s.step m).1.phase) ∧ sat E w' (snapA b (s.step m).1 :: memA bm (s.step m).2 :: L) := by
  obtain ⟨g, h⟩ := snapA_open h
  have K := Lib.hid h
  clear h
  have a0 := K.out.rd 0 rfl; have l0 := K.out.ltp 0 rfl; have a1 := K.out.rd 1 rfl; have l1 := K.out.ltp 1 rfl
  have c0 : (s.phase == 0) = true := by simpa using hp
  have c1 : (s.k == 0) = true := by simpa using hk
  have B := ho.slot_bd
  obtain ⟨B0, B1⟩ := B
  have hal := ho.conf.all_bd
  obtain ⟨k0, k1⟩ := And.intro ho.k0 ho.k1
  obtain ⟨st0, st1⟩ := And.intro ho.st0 ho.st1
  obtain ⟨p0, p1⟩ := And.intro ho.p0 ho.p1
  have AL := fun w => Lib.hid (all_calls s.conf w ho.conf)
  obtain ⟨al0, al1⟩ := hal
  have v1 : IntKind.i64.wrap (s.start + s.k) = s.start + s.k := wi (by omega) (by omega)
  have v2 : Int.tmod (s.start + s.k) s.conf.all = s.slot := by unfold SnapM.slot; rw [Int.tmod_eq_emod_of_nonneg (by omega)]
  have v3 : IntKind.i64.wrap s.slot = s.slot := wi (by omega) (by omega)
  have z1 : (s.conf.all == 0) = false := by simp; omega
  have z2 : ¬ s.conf.all = 0 := by omega
  have hlen := ho.len
  have n0 : s.slot < s.words.length := by omega
  have gd := getD_cell B0 n0
  have d2 : decide (s.pass > 0) = false := by rw [← hsm]; unfold SnapM.same0; rw [if_pos hk]
  have LD := fun w (h : sat E w (memA bm m :: snapP b g ({ s with same := false } : SnapM) :: u64A g s.words :: L)) => Lib.hid (load_calls bm m s.who s.slot hroom h)
  have e := s.step_eq m hp
  rw [hsm, heq] at e
  generalize m.peek s.slot = x at LD e heq
  generalize getI s.words s.slot = y at gd heq
  have c2 : (x == y) = eqb := by rw [← heq]; rfl
  rw [e]
  obtain ⟨r, hr⟩ : ∃ r, r = s.rest (false && eqb) x := ⟨_, rfl⟩
  rw [← hr]
  unfold SnapM.rest at hr
  have HP := Lib.hid hp
  clear e hsm hp hk heq
  clear ho
  go_enter Tryz.func80, Tryz.ntmps80
  go_wp2_with (first | ((with_reducible refine at_store ?_); refine st_store 0 K.out rfl rfl rfl rfl ?_ ?_ ?_ ?_; (· kernel_rfl); (· simp); (· simp [Value.oneCell']); intro w1 K1; simp only [List.set, putL] at K1; have K2 := Lib.hid K1; clear K1 K; (try clear a0); (try clear l0); (try clear a1); (try clear l1); (try clear a2); (try clear l2); have K := K2; clear K2; have a0 := K.out.rd 0 rfl; have l0 := K.out.ltp 0 rfl; have a1 := K.out.rd 1 rfl; have l1 := K.out.ltp 1 rfl))
  have K1 : sat E _ (snapP b g ({ s with same := false } : SnapM) :: u64A g s.words :: memA bm m :: L) := K.out
  clear K a0 l0 a1 l1
  have K := Lib.hid K1
  clear K1
  have a0 := K.out.rd 0 rfl; have l0 := K.out.ltp 0 rfl; have a1 := K.out.rd 1 rfl; have l1 := K.out.ltp 1 rfl
  refine wp_region_noPanic ?_
  refine wp_region_held_drew (S := (fun w' => ∀ j, w'.cell? ⟨b, j, none⟩ = (SnapM.v ({ s with same := false } : SnapM) g)[j]?)) (by kernel_rfl) ?_ (fun hHeld => ?_)
  · ((try dsimp only); (exact sat.rd 0 (by repeat (with_reducible first | exact K.out | apply sat.alloc_any | apply sat.drew | apply sat.drewN)) rfl))
  refine tk 0 (some 29) ?_
  (try simp only [Act.put, p0, p1, p2])
  refine tk 1 (some 30) ?_
  (try simp only [Act.put, p0, p1, p2])
  refine tk 2 (some 31) ?_
  (try simp only [Act.put, p0, p1, p2])
  refine tk 3 (some 32) ?_
  (try simp only [Act.put, p0, p1, p2])
  refine tk 4 (some 33) ?_
  (try simp only [Act.put, p0, p1, p2])
  refine tk 5 (some 34) ?_
  (try simp only [Act.put, p0, p1, p2])
  refine tk 6 (some 35) ?_
  (try simp only [Act.put, p0, p1, p2])
  refine tk 7 (some 36) ?_
  (try simp only [Act.put, p0, p1, p2])
  refine tk 8 (some 37) ?_
  (try simp only [Act.put, p0, p1, p2])
  refine tk 9 (some 38) ?_
  (try simp only [Act.put, p0, p1, p2])
  refine tk 10 (some 39) ?_
  (try simp only [Act.put, p0, p1, p2])
  refine tk 11 (some 40) ?_
  (try simp only [Act.put, p0, p1, p2])
  refine tk 12 (some 41) ?_
  (try simp only [Act.put, p0, p1, p2])
  refine wpAnyH_ready (rs := [13]) (by kernel_rfl) (by simp) ?_
  refine AllReadyH.cons (o := _) rfl (fun kC hkC => ?_) AllReadyH.nil
  go_simp
  (first | (go_at_call 31; (with_reducible refine ((AL _).out).mono ?_); rintro e w1 ⟨rfl, hb⟩; have K1 := sat.grown (show sat _ _ _ from by first | exact K.out | exact K.out.drew) hb; clear hb; have K2 := Lib.hid K1; clear K1 K; (try clear a0); (try clear l0); (try clear f0); (try clear a1); (try clear l1); (try clear f1); (try clear a2); (try clear l2); (try clear f2); (try clear a3); (try clear l3); (try clear f3); (try clear a4); (try clear l4); (try clear f4); (try clear a5); (try clear l5); (try clear f5); have K := K2; clear K2; (try have a0 := K.out.rd 0 rfl); (try have l0 := K.out.ltp 0 rfl); (try have f0 := K.out.fr 0 rfl); (try have a1 := K.out.rd 1 rfl); (try have l1 := K.out.ltp 1 rfl); (try have f1 := K.out.fr 1 rfl); (try have a2 := K.out.rd 2 rfl); (try have l2 := K.out.ltp 2 rfl); (try have f2 := K.out.fr 2 rfl); (try have a3 := K.out.rd 3 rfl); (try have l3 := K.out.ltp 3 rfl); (try have f3 := K.out.fr 3 rfl)))
  refine shown hkC _ _ (by (try dsimp only); (exact sat.rd 0 (by repeat (with_reducible first | exact K.out | apply sat.alloc_any | apply sat.drew | apply sat.drewN)) rfl)) ?_; clear hkC kC hHeld; intro hHeld
  (try simp only [Act.put, p0, p1, p2])
  refine tk 14 (some 43) ?_
  (try simp only [Act.put, p0, p1, p2])
  refine tk 15 (some 5) ?_
  (try simp only [Act.put, p0, p1, p2])
  refine wpAnyH_done (by kernel_rfl) (NoPanic.normal ?_) _
  go_wp2_with fail
  refine wp_region_noPanic ?_
  refine wp_region_held_drew (S := (fun w' => ∀ j, w'.cell? ⟨b, j, none⟩ = (SnapM.v ({ s with same := false } : SnapM) g)[j]?)) (by kernel_rfl) ?_ (fun hHeld => ?_)
  · ((try dsimp only); (exact sat.rd 0 (by repeat (with_reducible first | exact K.out | apply sat.alloc_any | apply sat.drew | apply sat.drewN)) rfl))
  refine tk 0 (some 44) ?_
  (try simp only [Act.put, p0, p1, p2])
  refine tk 1 (some 45) ?_
  (try simp only [Act.put, p0, p1, p2])
  refine tk 2 (some 46) ?_
  (try simp only [Act.put, p0, p1, p2])
  refine tk 3 (some 47) ?_
  (try simp only [Act.put, p0, p1, p2])
  refine tk 4 (some 48) ?_
  (try simp only [Act.put, p0, p1, p2])
  refine tk 5 (some 49) ?_
  (try simp only [Act.put, p0, p1, p2])
  refine tk 6 (some 50) ?_
  (try simp only [Act.put, p0, p1, p2])
  refine tk 7 (some 51) ?_
  (try simp only [Act.put, p0, p1, p2])
  refine tk 8 (some 52) ?_
  (try simp only [Act.put, p0, p1, p2])
  refine tk 9 (some 53) ?_
  (try simp only [Act.put, p0, p1, p2])
  refine wpAnyH_ready (rs := [10]) (by kernel_rfl) (by simp) ?_
  refine AllReadyH.cons (o := _) rfl (fun kC hkC => ?_) AllReadyH.nil
  go_simp
  (first | (go_at_call 33; (with_reducible refine (word_calls s.conf _ s.slot).mono ?_); rintro e w1 ⟨rfl, hb⟩; have K1 := sat.grown (show sat _ _ _ from by first | exact K.out | exact K.out.drew) hb; clear hb; have K2 := Lib.hid K1; clear K1 K; (try clear a0); (try clear l0); (try clear f0); (try clear a1); (try clear l1); (try clear f1); (try clear a2); (try clear l2); (try clear f2); (try clear a3); (try clear l3); (try clear f3); (try clear a4); (try clear l4); (try clear f4); (try clear a5); (try clear l5); (try clear f5); have K := K2; clear K2; (try have a0 := K.out.rd 0 rfl); (try have l0 := K.out.ltp 0 rfl); (try have f0 := K.out.fr 0 rfl); (try have a1 := K.out.rd 1 rfl); (try have l1 := K.out.ltp 1 rfl); (try have f1 := K.out.fr 1 rfl); (try have a2 := K.out.rd 2 rfl); (try have l2 := K.out.ltp 2 rfl); (try have f2 := K.out.fr 2 rfl); (try have a3 := K.out.rd 3 rfl); (try have l3 := K.out.ltp 3 rfl); (try have f3 := K.out.fr 3 rfl)) | (go_at_call 95; (with_reducible refine ((LD _ (show sat E _ _ from by first | exact K.out | exact K.out.drew).cab).out).mono ?_); rintro e w1 ⟨rfl, K1⟩; replace K1 := K1.uncab; have K2 := Lib.hid K1; clear K1 K; (try clear a0); (try clear l0); (try clear f0); (try clear a1); (try clear l1); (try clear f1); (try clear a2); (try clear l2); (try clear f2); (try clear a3); (try clear l3); (try clear f3); (try clear a4); (try clear l4); (try clear f4); (try clear a5); (try clear l5); (try clear f5); have K := K2; clear K2; (try have a0 := K.out.rd 0 rfl); (try have l0 := K.out.ltp 0 rfl); (try have f0 := K.out.fr 0 rfl); (try have a1 := K.out.rd 1 rfl); (try have l1 := K.out.ltp 1 rfl); (try have f1 := K.out.fr 1 rfl); (try have a2 := K.out.rd 2 rfl); (try have l2 := K.out.ltp 2 rfl); (try have f2 := K.out.fr 2 rfl); (try have a3 := K.out.rd 3 rfl); (try have l3 := K.out.ltp 3 rfl); (try have f3 := K.out.fr 3 rfl)))
  refine shown hkC _ _ (by (try dsimp only); (exact sat.rd 0 (by repeat (with_reducible first | exact K.out | apply sat.alloc_any | apply sat.drew | apply sat.drewN)) rfl)) ?_; clear hkC kC hHeld; intro hHeld
  (try simp only [Act.put, p0, p1, p2])
  refine wpAnyH_ready (rs := [11]) (by kernel_rfl) (by simp) ?_
  refine AllReadyH.cons (o := _) rfl (fun kC hkC => ?_) AllReadyH.nil
  go_simp
  (first | (go_at_call 33; (with_reducible refine (word_calls s.conf _ s.slot).mono ?_); rintro e w1 ⟨rfl, hb⟩; have K1 := sat.grown (show sat _ _ _ from by first | exact K.out | exact K.out.drew) hb; clear hb; have K2 := Lib.hid K1; clear K1 K; (try clear a0); (try clear l0); (try clear f0); (try clear a1); (try clear l1); (try clear f1); (try clear a2); (try clear l2); (try clear f2); (try clear a3); (try clear l3); (try clear f3); (try clear a4); (try clear l4); (try clear f4); (try clear a5); (try clear l5); (try clear f5); have K := K2; clear K2; (try have a0 := K.out.rd 0 rfl); (try have l0 := K.out.ltp 0 rfl); (try have f0 := K.out.fr 0 rfl); (try have a1 := K.out.rd 1 rfl); (try have l1 := K.out.ltp 1 rfl); (try have f1 := K.out.fr 1 rfl); (try have a2 := K.out.rd 2 rfl); (try have l2 := K.out.ltp 2 rfl); (try have f2 := K.out.fr 2 rfl); (try have a3 := K.out.rd 3 rfl); (try have l3 := K.out.ltp 3 rfl); (try have f3 := K.out.fr 3 rfl)) | (go_at_call 95; (with_reducible refine ((LD _ (show sat E _ _ from by first | exact K.out | exact K.out.drew).cab).out).mono ?_); rintro e w1 ⟨rfl, K1⟩; replace K1 := K1.uncab; have K2 := Lib.hid K1; clear K1 K; (try clear a0); (try clear l0); (try clear f0); (try clear a1); (try clear l1); (try clear f1); (try clear a2); (try clear l2); (try clear f2); (try clear a3); (try clear l3); (try clear f3); (try clear a4); (try clear l4); (try clear f4); (try clear a5); (try clear l5); (try clear f5); have K := K2; clear K2; (try have a0 := K.out.rd 0 rfl); (try have l0 := K.out.ltp 0 rfl); (try have f0 := K.out.fr 0 rfl); (try have a1 := K.out.rd 1 rfl); (try have l1 := K.out.ltp 1 rfl); (try have f1 := K.out.fr 1 rfl); (try have a2 := K.out.rd 2 rfl); (try have l2 := K.out.ltp 2 rfl); (try have f2 := K.out.fr 2 rfl); (try have a3 := K.out.rd 3 rfl); (try have l3 := K.out.ltp 3 rfl); (try have f3 := K.out.fr 3 rfl)))
  refine shown hkC _ _ (by (try dsimp only); (exact sat.rd 0 (by repeat (with_reducible first | exact K.out | apply sat.alloc_any | apply sat.drew | apply sat.drewN)) rfl)) ?_; clear hkC kC hHeld; intro hHeld
  (try simp only [Act.put, p0, p1, p2])
  refine tk 12 (some 6) ?_
  (try simp only [Act.put, p0, p1, p2])
  refine wpAnyH_done (by kernel_rfl) (NoPanic.normal ?_) _
  go_wp2_with (first | ((with_reducible refine at_store ?_); refine st_store 0 K.out rfl rfl rfl rfl ?_ ?_ ?_ ?_; (· kernel_rfl); (· simp); (· simp [Value.oneCell']); intro w1 K1; simp only [List.set, putL] at K1; have K2 := Lib.hid K1; clear K1 K; (try clear a0); (try clear l0); (try clear a1); (try clear l1); (try clear a2); (try clear l2); have K := K2; clear K2; have a0 := K.out.rd 0 rfl; have l0 := K.out.ltp 0 rfl; have a1 := K.out.rd 1 rfl; have l1 := K.out.ltp 1 rfl) | ((with_reducible refine at_store ?_); refine st_store 1 K.out rfl rfl rfl rfl ?_ ?_ ?_ ?_; (· kernel_rfl); (· show _ + 1 ≤ _; simp [u64s]; omega); (· simp [Value.oneCell']); intro w1 K1; simp only [List.set, putL_one] at K1; have K2 := Lib.hid K1; clear K1 K; (try clear a0); (try clear l0); (try clear a1); (try clear l1); (try clear a2); (try clear l2); have K := K2; clear K2; have a0 := K.out.rd 0 rfl; have l0 := K.out.ltp 0 rfl; have a1 := K.out.rd 1 rfl; have l1 := K.out.ltp 1 rfl))
  have K1 : sat E _ (snapP b g { s with same := (false && eqb), k := s.k + 1 } :: pt g (.cells ((u64s s.words).set s.slot.toNat (.int .u64 x)).toArray 33 (0, 0)) :: memA bm (m.touch s.who 0 s.slot 0 0) :: L) := K.out
  clear K a0 l0 a1 l1
  have K := Lib.hid K1
  clear K1
  have a0 := K.out.rd 0 rfl; have l0 := K.out.ltp 0 rfl; have a1 := K.out.rd 1 rfl; have l1 := K.out.ltp 1 rfl
  refine wp_region_noPanic ?_
  refine wp_region_held_drew (S := (fun w' => ∀ j, w'.cell? ⟨b, j, none⟩ = (SnapM.v ({ s with same := (false && eqb), k := s.k + 1 } : SnapM) g)[j]?)) (by kernel_rfl) ?_ (fun hHeld => ?_)
  · ((try dsimp only); (exact sat.rd 0 (by repeat (with_reducible first | exact K.out | apply sat.alloc_any | apply sat.drew | apply sat.drewN)) rfl))
  refine tk 0 (some 88) ?_
  (try simp only [Act.put, p0, p1, p2])
  refine tk 1 (some 89) ?_
  (try simp only [Act.put, p0, p1, p2])
  refine tk 2 (some 90) ?_
  (try simp only [Act.put, p0, p1, p2])
  refine tk 3 (some 91) ?_
  (try simp only [Act.put, p0, p1, p2])
  refine tk 4 (some 92) ?_
  (try simp only [Act.put, p0, p1, p2])
  refine tk 5 (some 93) ?_
  (try simp only [Act.put, p0, p1, p2])
  refine tk 6 (some 94) ?_
  (try simp only [Act.put, p0, p1, p2])
  refine tk 7 (some 95) ?_
  (try simp only [Act.put, p0, p1, p2])
  refine wpAnyH_ready (rs := [8]) (by kernel_rfl) (by simp) ?_
  refine AllReadyH.cons (o := _) rfl (fun kC hkC => ?_) AllReadyH.nil
  go_simp
  (first | (go_at_call 31; (with_reducible refine ((AL _).out).mono ?_); rintro e w1 ⟨rfl, hb⟩; have K1 := sat.grown (show sat _ _ _ from by first | exact K.out | exact K.out.drew) hb; clear hb; have K2 := Lib.hid K1; clear K1 K; (try clear a0); (try clear l0); (try clear f0); (try clear a1); (try clear l1); (try clear f1); (try clear a2); (try clear l2); (try clear f2); (try clear a3); (try clear l3); (try clear f3); (try clear a4); (try clear l4); (try clear f4); (try clear a5); (try clear l5); (try clear f5); have K := K2; clear K2; (try have a0 := K.out.rd 0 rfl); (try have l0 := K.out.ltp 0 rfl); (try have f0 := K.out.fr 0 rfl); (try have a1 := K.out.rd 1 rfl); (try have l1 := K.out.ltp 1 rfl); (try have f1 := K.out.fr 1 rfl); (try have a2 := K.out.rd 2 rfl); (try have l2 := K.out.ltp 2 rfl); (try have f2 := K.out.fr 2 rfl); (try have a3 := K.out.rd 3 rfl); (try have l3 := K.out.ltp 3 rfl); (try have f3 := K.out.fr 3 rfl)))
  refine shown hkC _ _ (by (try dsimp only); (exact sat.rd 0 (by repeat (with_reducible first | exact K.out | apply sat.alloc_any | apply sat.drew | apply sat.drewN)) rfl)) ?_; clear hkC kC hHeld; intro hHeld
  (try simp only [Act.put, p0, p1, p2])
  refine tk 9 (some 97) ?_
  (try simp only [Act.put, p0, p1, p2])
  refine wpAnyH_done (by kernel_rfl) (NoPanic.normal ?_) _
  cases la with
  | true =>
    have hla' : s.k + 1 < s.conf.all := by simpa using hla
    rw [if_pos hla'] at hr
    go_wp2
    go_ret
    subst hr
    refine ⟨rfl, snapA_shut (g := g) (s := { s with same := (false && eqb), words := setI s.words s.slot x, k := s.k + 1 }) ?_⟩
    have K1 := K.out
    rw [u64s_set] at K1
    simp only [snapP, SnapM.v, setI, List.length_set]
    first | exact K1 | exact K1.drew
  | false =>
    have hla' : ¬ s.k + 1 < s.conf.all := by simpa using hla
    rw [if_neg hla'] at hr
    cases eqb
    all_goals
      go_wp2_with (first | ((with_reducible refine at_store ?_); refine st_store 0 K.out rfl rfl rfl rfl ?_ ?_ ?_ ?_; (· kernel_rfl); (· simp); (· simp [Value.oneCell']); intro w1 K1; simp only [List.set, putL] at K1; have K2 := Lib.hid K1; clear K1 K; (try clear a0); (try clear l0); (try clear a1); (try clear l1); (try clear a2); (try clear l2); have K := K2; clear K2; have a0 := K.out.rd 0 rfl; have l0 := K.out.ltp 0 rfl; have a1 := K.out.rd 1 rfl; have l1 := K.out.ltp 1 rfl))
      go_ret
      subst hr
      first
      | (refine ⟨by first | rfl | exact ret_i HP.out, snapA_shut (g := g) (s := { s with same := (false && true), words := setI s.words s.slot x, k := 0, pass := s.pass + 1, phase := if (false && true) = true then 1 else 0 }) ?_⟩; have K1 := K.out; rw [u64s_set] at K1; (try simp only [HP.out] at K1); simp only [snapP, SnapM.v, setI, List.length_set]; exact K1)
      | (refine ⟨by first | rfl | exact ret_i HP.out, snapA_shut (g := g) (s := { s with same := (false && false), words := setI s.words s.slot x, k := 0, pass := s.pass + 1, phase := if (false && false) = true then 1 else 0 }) ?_⟩; have K1 := K.out; rw [u64s_set] at K1; (try simp only [HP.out] at K1); simp only [snapP, SnapM.v, setI, List.length_set]; exact K1)
theorem sstep_knt (la eqb : Bool) (b bm : Nat) (s : SnapM) (m : MemM) (ho : s.ok) (hp : s.phase = 0) (hk : s.k ≠ 0) (hroom : m.log.length < 1000000000) (hsm : s.same0 = true) (heq : decide (m.peek s.slot = getI s.words s.slot) = eqb) (hla : decide (s.k + 1 < s.conf.all) = la) (h : sat E w (snapA b s :: memA bm m :: L)) :
    Calls Tryz.prog 80 #[.pointer (some ⟨b, 0, none⟩), .pointer (some ⟨bm, 0, none⟩)] w fun e w' => e = .returned (.int .i64 (s.step m).1.phase) ∧ sat E w' (snapA b (s.step m).1 :: memA bm (s.step m).2 :: L) := by
  obtain ⟨g, h⟩ := snapA_open h
  have K := Lib.hid h
  clear h
  have a0 := K.out.rd 0 rfl; have l0 := K.out.ltp 0 rfl; have a1 := K.out.rd 1 rfl; have l1 := K.out.ltp 1 rfl
  have c0 : (s.phase == 0) = true := by simpa using hp
  have c1 : (s.k == 0) = false := by simpa using hk
  have B := ho.slot_bd
  obtain ⟨B0, B1⟩ := B
  have hal := ho.conf.all_bd
  obtain ⟨k0, k1⟩ := And.intro ho.k0 ho.k1
  obtain ⟨st0, st1⟩ := And.intro ho.st0 ho.st1
  obtain ⟨p0, p1⟩ := And.intro ho.p0 ho.p1
  have AL := fun w => Lib.hid (all_calls s.conf w ho.conf)
  obtain ⟨al0, al1⟩ := hal
  have v1 : IntKind.i64.wrap (s.start + s.k) = s.start + s.k := wi (by omega) (by omega)
  have v2 : Int.tmod (s.start + s.k) s.conf.all = s.slot := by unfold SnapM.slot; rw [Int.tmod_eq_emod_of_nonneg (by omega)]
  have v3 : IntKind.i64.wrap s.slot = s.slot := wi (by omega) (by omega)
  have z1 : (s.conf.all == 0) = false := by simp; omega
  have z2 : ¬ s.conf.all = 0 := by omega
  have hlen := ho.len
  have n0 : s.slot < s.words.length := by omega
  have gd := getD_cell B0 n0
  have d2 : s.same = true := by have q := hsm; unfold SnapM.same0 at q; rw [if_neg hk] at q; exact q
  have LD := fun w (h : sat E w (memA bm m :: snapP b g ({ s with same := true } : SnapM) :: u64A g s.words :: L)) => Lib.hid (load_calls bm m s.who s.slot hroom h)
  have e := s.step_eq m hp
  rw [hsm, heq] at e
  generalize m.peek s.slot = x at LD e heq
  generalize getI s.words s.slot = y at gd heq
  have c2 : (x == y) = eqb := by rw [← heq]; rfl
  rw [e]
  obtain ⟨r, hr⟩ : ∃ r, r = s.rest (true && eqb) x := ⟨_, rfl⟩
  rw [← hr]
  unfold SnapM.rest at hr
  have HP := Lib.hid hp
  clear e hsm hp hk heq
  clear ho
  go_enter Tryz.func80, Tryz.ntmps80
  go_wp2_with (first | ((with_reducible refine at_store ?_); refine st_store 0 K.out rfl rfl rfl rfl ?_ ?_ ?_ ?_; (· kernel_rfl); (· simp); (· simp [Value.oneCell']); intro w1 K1; simp only [List.set, putL] at K1; have K2 := Lib.hid K1; clear K1 K; (try clear a0); (try clear l0); (try clear a1); (try clear l1); (try clear a2); (try clear l2); have K := K2; clear K2; have a0 := K.out.rd 0 rfl; have l0 := K.out.ltp 0 rfl; have a1 := K.out.rd 1 rfl; have l1 := K.out.ltp 1 rfl))
  have K1 := K.out
  simp only [snapP, SnapM.v, d2] at K1
  clear K a0 l0 a1 l1
  have K := Lib.hid K1
  clear K1
  have a0 := K.out.rd 0 rfl; have l0 := K.out.ltp 0 rfl; have a1 := K.out.rd 1 rfl; have l1 := K.out.ltp 1 rfl
  refine wp_region_noPanic ?_
  refine wp_region_held_drew (S := (fun w' => ∀ j, w'.cell? ⟨b, j, none⟩ = (SnapM.v ({ s with same := true } : SnapM) g)[j]?)) (by kernel_rfl) ?_ (fun hHeld => ?_)
  · ((try dsimp only); (exact sat.rd 0 (by repeat (with_reducible first | exact K.out | apply sat.alloc_any | apply sat.drew | apply sat.drewN)) rfl))
  refine tk 0 (some 29) ?_
  (try simp only [Act.put, p0, p1, p2])
  refine tk 1 (some 30) ?_
  (try simp only [Act.put, p0, p1, p2])
  refine tk 2 (some 31) ?_
  (try simp only [Act.put, p0, p1, p2])
  refine tk 3 (some 32) ?_
  (try simp only [Act.put, p0, p1, p2])
  refine tk 4 (some 33) ?_
  (try simp only [Act.put, p0, p1, p2])
  refine tk 5 (some 34) ?_
  (try simp only [Act.put, p0, p1, p2])
  refine tk 6 (some 35) ?_
  (try simp only [Act.put, p0, p1, p2])
  refine tk 7 (some 36) ?_
  (try simp only [Act.put, p0, p1, p2])
  refine tk 8 (some 37) ?_
  (try simp only [Act.put, p0, p1, p2])
  refine tk 9 (some 38) ?_
  (try simp only [Act.put, p0, p1, p2])
  refine tk 10 (some 39) ?_
  (try simp only [Act.put, p0, p1, p2])
  refine tk 11 (some 40) ?_
  (try simp only [Act.put, p0, p1, p2])
  refine tk 12 (some 41) ?_
  (try simp only [Act.put, p0, p1, p2])
  refine wpAnyH_ready (rs := [13]) (by kernel_rfl) (by simp) ?_
  refine AllReadyH.cons (o := _) rfl (fun kC hkC => ?_) AllReadyH.nil
  go_simp
  (first | (go_at_call 31; (with_reducible refine ((AL _).out).mono ?_); rintro e w1 ⟨rfl, hb⟩; have K1 := sat.grown (show sat _ _ _ from by first | exact K.out | exact K.out.drew) hb; clear hb; have K2 := Lib.hid K1; clear K1 K; (try clear a0); (try clear l0); (try clear f0); (try clear a1); (try clear l1); (try clear f1); (try clear a2); (try clear l2); (try clear f2); (try clear a3); (try clear l3); (try clear f3); (try clear a4); (try clear l4); (try clear f4); (try clear a5); (try clear l5); (try clear f5); have K := K2; clear K2; (try have a0 := K.out.rd 0 rfl); (try have l0 := K.out.ltp 0 rfl); (try have f0 := K.out.fr 0 rfl); (try have a1 := K.out.rd 1 rfl); (try have l1 := K.out.ltp 1 rfl); (try have f1 := K.out.fr 1 rfl); (try have a2 := K.out.rd 2 rfl); (try have l2 := K.out.ltp 2 rfl); (try have f2 := K.out.fr 2 rfl); (try have a3 := K.out.rd 3 rfl); (try have l3 := K.out.ltp 3 rfl); (try have f3 := K.out.fr 3 rfl)))
  refine shown hkC _ _ (by (try dsimp only); (exact sat.rd 0 (by repeat (with_reducible first | exact K.out | apply sat.alloc_any | apply sat.drew | apply sat.drewN)) rfl)) ?_; clear hkC kC hHeld; intro hHeld
  (try simp only [Act.put, p0, p1, p2])
  refine tk 14 (some 43) ?_
  (try simp only [Act.put, p0, p1, p2])
  refine tk 15 (some 5) ?_
  (try simp only [Act.put, p0, p1, p2])
  refine wpAnyH_done (by kernel_rfl) (NoPanic.normal ?_) _
  go_wp2_with fail
  refine wp_region_noPanic ?_
  refine wp_region_held_drew (S := (fun w' => ∀ j, w'.cell? ⟨b, j, none⟩ = (SnapM.v ({ s with same := true } : SnapM) g)[j]?)) (by kernel_rfl) ?_ (fun hHeld => ?_)
  · ((try dsimp only); (exact sat.rd 0 (by repeat (with_reducible first | exact K.out | apply sat.alloc_any | apply sat.drew | apply sat.drewN)) rfl))
  refine tk 0 (some 44) ?_
  (try simp only [Act.put, p0, p1, p2])
  refine tk 1 (some 45) ?_
  (try simp only [Act.put, p0, p1, p2])
  refine tk 2 (some 46) ?_
  (try simp only [Act.put, p0, p1, p2])
  refine tk 3 (some 47) ?_
  (try simp only [Act.put, p0, p1, p2])
  refine tk 4 (some 48) ?_
  (try simp only [Act.put, p0, p1, p2])
  refine tk 5 (some 49) ?_
  (try simp only [Act.put, p0, p1, p2])
  refine tk 6 (some 50) ?_
  (try simp only [Act.put, p0, p1, p2])
  refine tk 7 (some 51) ?_
  (try simp only [Act.put, p0, p1, p2])
  refine tk 8 (some 52) ?_
  (try simp only [Act.put, p0, p1, p2])
  refine tk 9 (some 53) ?_
  (try simp only [Act.put, p0, p1, p2])
  refine wpAnyH_ready (rs := [10]) (by kernel_rfl) (by simp) ?_
  refine AllReadyH.cons (o := _) rfl (fun kC hkC => ?_) AllReadyH.nil
  go_simp
  (first | (go_at_call 33; (with_reducible refine (word_calls s.conf _ s.slot).mono ?_); rintro e w1 ⟨rfl, hb⟩; have K1 := sat.grown (show sat _ _ _ from by first | exact K.out | exact K.out.drew) hb; clear hb; have K2 := Lib.hid K1; clear K1 K; (try clear a0); (try clear l0); (try clear f0); (try clear a1); (try clear l1); (try clear f1); (try clear a2); (try clear l2); (try clear f2); (try clear a3); (try clear l3); (try clear f3); (try clear a4); (try clear l4); (try clear f4); (try clear a5); (try clear l5); (try clear f5); have K := K2; clear K2; (try have a0 := K.out.rd 0 rfl); (try have l0 := K.out.ltp 0 rfl); (try have f0 := K.out.fr 0 rfl); (try have a1 := K.out.rd 1 rfl); (try have l1 := K.out.ltp 1 rfl); (try have f1 := K.out.fr 1 rfl); (try have a2 := K.out.rd 2 rfl); (try have l2 := K.out.ltp 2 rfl); (try have f2 := K.out.fr 2 rfl); (try have a3 := K.out.rd 3 rfl); (try have l3 := K.out.ltp 3 rfl); (try have f3 := K.out.fr 3 rfl)) | (go_at_call 95; (with_reducible refine ((LD _ (show sat E _ _ from by first | exact K.out | exact K.out.drew).cab).out).mono ?_); rintro e w1 ⟨rfl, K1⟩; replace K1 := K1.uncab; have K2 := Lib.hid K1; clear K1 K; (try clear a0); (try clear l0); (try clear f0); (try clear a1); (try clear l1); (try clear f1); (try clear a2); (try clear l2); (try clear f2); (try clear a3); (try clear l3); (try clear f3); (try clear a4); (try clear l4); (try clear f4); (try clear a5); (try clear l5); (try clear f5); have K := K2; clear K2; (try have a0 := K.out.rd 0 rfl); (try have l0 := K.out.ltp 0 rfl); (try have f0 := K.out.fr 0 rfl); (try have a1 := K.out.rd 1 rfl); (try have l1 := K.out.ltp 1 rfl); (try have f1 := K.out.fr 1 rfl); (try have a2 := K.out.rd 2 rfl); (try have l2 := K.out.ltp 2 rfl); (try have f2 := K.out.fr 2 rfl); (try have a3 := K.out.rd 3 rfl); (try have l3 := K.out.ltp 3 rfl); (try have f3 := K.out.fr 3 rfl)))
  refine shown hkC _ _ (by (try dsimp only); (exact sat.rd 0 (by repeat (with_reducible first | exact K.out | apply sat.alloc_any | apply sat.drew | apply sat.drewN)) rfl)) ?_; clear hkC kC hHeld; intro hHeld
  (try simp only [Act.put, p0, p1, p2])
  refine wpAnyH_ready (rs := [11]) (by kernel_rfl) (by simp) ?_
  refine AllReadyH.cons (o := _) rfl (fun kC hkC => ?_) AllReadyH.nil
  go_simp
  (first | (go_at_call 33; (with_reducible refine (word_calls s.conf _ s.slot).mono ?_); rintro e w1 ⟨rfl, hb⟩; have K1 := sat.grown (show sat _ _ _ from by first | exact K.out | exact K.out.drew) hb; clear hb; have K2 := Lib.hid K1; clear K1 K; (try clear a0); (try clear l0); (try clear f0); (try clear a1); (try clear l1); (try clear f1); (try clear a2); (try clear l2); (try clear f2); (try clear a3); (try clear l3); (try clear f3); (try clear a4); (try clear l4); (try clear f4); (try clear a5); (try clear l5); (try clear f5); have K := K2; clear K2; (try have a0 := K.out.rd 0 rfl); (try have l0 := K.out.ltp 0 rfl); (try have f0 := K.out.fr 0 rfl); (try have a1 := K.out.rd 1 rfl); (try have l1 := K.out.ltp 1 rfl); (try have f1 := K.out.fr 1 rfl); (try have a2 := K.out.rd 2 rfl); (try have l2 := K.out.ltp 2 rfl); (try have f2 := K.out.fr 2 rfl); (try have a3 := K.out.rd 3 rfl); (try have l3 := K.out.ltp 3 rfl); (try have f3 := K.out.fr 3 rfl)) | (go_at_call 95; (with_reducible refine ((LD _ (show sat E _ _ from by first | exact K.out | exact K.out.drew).cab).out).mono ?_); rintro e w1 ⟨rfl, K1⟩; replace K1 := K1.uncab; have K2 := Lib.hid K1; clear K1 K; (try clear a0); (try clear l0); (try clear f0); (try clear a1); (try clear l1); (try clear f1); (try clear a2); (try clear l2); (try clear f2); (try clear a3); (try clear l3); (try clear f3); (try clear a4); (try clear l4); (try clear f4); (try clear a5); (try clear l5); (try clear f5); have K := K2; clear K2; (try have a0 := K.out.rd 0 rfl); (try have l0 := K.out.ltp 0 rfl); (try have f0 := K.out.fr 0 rfl); (try have a1 := K.out.rd 1 rfl); (try have l1 := K.out.ltp 1 rfl); (try have f1 := K.out.fr 1 rfl); (try have a2 := K.out.rd 2 rfl); (try have l2 := K.out.ltp 2 rfl); (try have f2 := K.out.fr 2 rfl); (try have a3 := K.out.rd 3 rfl); (try have l3 := K.out.ltp 3 rfl); (try have f3 := K.out.fr 3 rfl)))
  refine shown hkC _ _ (by (try dsimp only); (exact sat.rd 0 (by repeat (with_reducible first | exact K.out | apply sat.alloc_any | apply sat.drew | apply sat.drewN)) rfl)) ?_; clear hkC kC hHeld; intro hHeld
  (try simp only [Act.put, p0, p1, p2])
  refine tk 12 (some 6) ?_
  (try simp only [Act.put, p0, p1, p2])
  refine wpAnyH_done (by kernel_rfl) (NoPanic.normal ?_) _
  go_wp2_with (first | ((with_reducible refine at_store ?_); refine st_store 0 K.out rfl rfl rfl rfl ?_ ?_ ?_ ?_; (· kernel_rfl); (· simp); (· simp [Value.oneCell']); intro w1 K1; simp only [List.set, putL] at K1; have K2 := Lib.hid K1; clear K1 K; (try clear a0); (try clear l0); (try clear a1); (try clear l1); (try clear a2); (try clear l2); have K := K2; clear K2; have a0 := K.out.rd 0 rfl; have l0 := K.out.ltp 0 rfl; have a1 := K.out.rd 1 rfl; have l1 := K.out.ltp 1 rfl) | ((with_reducible refine at_store ?_); refine st_store 1 K.out rfl rfl rfl rfl ?_ ?_ ?_ ?_; (· kernel_rfl); (· show _ + 1 ≤ _; simp [u64s]; omega); (· simp [Value.oneCell']); intro w1 K1; simp only [List.set, putL_one] at K1; have K2 := Lib.hid K1; clear K1 K; (try clear a0); (try clear l0); (try clear a1); (try clear l1); (try clear a2); (try clear l2); have K := K2; clear K2; have a0 := K.out.rd 0 rfl; have l0 := K.out.ltp 0 rfl; have a1 := K.out.rd 1 rfl; have l1 := K.out.ltp 1 rfl))
  have K1 : sat E _ (snapP b g { s with same := (true && eqb), k := s.k + 1 } :: pt g (.cells ((u64s s.words).set s.slot.toNat (.int .u64 x)).toArray 33 (0, 0)) :: memA bm (m.touch s.who 0 s.slot 0 0) :: L) := K.out
  clear K a0 l0 a1 l1
  have K := Lib.hid K1
  clear K1
  have a0 := K.out.rd 0 rfl; have l0 := K.out.ltp 0 rfl; have a1 := K.out.rd 1 rfl; have l1 := K.out.ltp 1 rfl
  refine wp_region_noPanic ?_
  refine wp_region_held_drew (S := (fun w' => ∀ j, w'.cell? ⟨b, j, none⟩ = (SnapM.v ({ s with same := (true && eqb), k := s.k + 1 } : SnapM) g)[j]?)) (by kernel_rfl) ?_ (fun hHeld => ?_)
  · ((try dsimp only); (exact sat.rd 0 (by repeat (with_reducible first | exact K.out | apply sat.alloc_any | apply sat.drew | apply sat.drewN)) rfl))
  refine tk 0 (some 88) ?_
  (try simp only [Act.put, p0, p1, p2])
  refine tk 1 (some 89) ?_
  (try simp only [Act.put, p0, p1, p2])
  refine tk 2 (some 90) ?_
  (try simp only [Act.put, p0, p1, p2])
  refine tk 3 (some 91) ?_
  (try simp only [Act.put, p0, p1, p2])
  refine tk 4 (some 92) ?_
  (try simp only [Act.put, p0, p1, p2])
  refine tk 5 (some 93) ?_
  (try simp only [Act.put, p0, p1, p2])
  refine tk 6 (some 94) ?_
  (try simp only [Act.put, p0, p1, p2])
  refine tk 7 (some 95) ?_
  (try simp only [Act.put, p0, p1, p2])
  refine wpAnyH_ready (rs := [8]) (by kernel_rfl) (by simp) ?_
  refine AllReadyH.cons (o := _) rfl (fun kC hkC => ?_) AllReadyH.nil
  go_simp
  (first | (go_at_call 31; (with_reducible refine ((AL _).out).mono ?_); rintro e w1 ⟨rfl, hb⟩; have K1 := sat.grown (show sat _ _ _ from by first | exact K.out | exact K.out.drew) hb; clear hb; have K2 := Lib.hid K1; clear K1 K; (try clear a0); (try clear l0); (try clear f0); (try clear a1); (try clear l1); (try clear f1); (try clear a2); (try clear l2); (try clear f2); (try clear a3); (try clear l3); (try clear f3); (try clear a4); (try clear l4); (try clear f4); (try clear a5); (try clear l5); (try clear f5); have K := K2; clear K2; (try have a0 := K.out.rd 0 rfl); (try have l0 := K.out.ltp 0 rfl); (try have f0 := K.out.fr 0 rfl); (try have a1 := K.out.rd 1 rfl); (try have l1 := K.out.ltp 1 rfl); (try have f1 := K.out.fr 1 rfl); (try have a2 := K.out.rd 2 rfl); (try have l2 := K.out.ltp 2 rfl); (try have f2 := K.out.fr 2 rfl); (try have a3 := K.out.rd 3 rfl); (try have l3 := K.out.ltp 3 rfl); (try have f3 := K.out.fr 3 rfl)))
  refine shown hkC _ _ (by (try dsimp only); (exact sat.rd 0 (by repeat (with_reducible first | exact K.out | apply sat.alloc_any | apply sat.drew | apply sat.drewN)) rfl)) ?_; clear hkC kC hHeld; intro hHeld
  (try simp only [Act.put, p0, p1, p2])
  refine tk 9 (some 97) ?_
  (try simp only [Act.put, p0, p1, p2])
  refine wpAnyH_done (by kernel_rfl) (NoPanic.normal ?_) _
  cases la with
  | true =>
    have hla' : s.k + 1 < s.conf.all := by simpa using hla
    rw [if_pos hla'] at hr
    go_wp2
    go_ret
    subst hr
    refine ⟨rfl, snapA_shut (g := g) (s := { s with same := (true && eqb), words := setI s.words s.slot x, k := s.k + 1 }) ?_⟩
    have K1 := K.out
    rw [u64s_set] at K1
    simp only [snapP, SnapM.v, setI, List.length_set]
    first | exact K1 | exact K1.drew
  | false =>
    have hla' : ¬ s.k + 1 < s.conf.all := by simpa using hla
    rw [if_neg hla'] at hr
    cases eqb
    all_goals
      go_wp2_with (first | ((with_reducible refine at_store ?_); refine st_store 0 K.out rfl rfl rfl rfl ?_ ?_ ?_ ?_; (· kernel_rfl); (· simp); (· simp [Value.oneCell']); intro w1 K1; simp only [List.set, putL] at K1; have K2 := Lib.hid K1; clear K1 K; (try clear a0); (try clear l0); (try clear a1); (try clear l1); (try clear a2); (try clear l2); have K := K2; clear K2; have a0 := K.out.rd 0 rfl; have l0 := K.out.ltp 0 rfl; have a1 := K.out.rd 1 rfl; have l1 := K.out.ltp 1 rfl))
      go_ret
      subst hr
      first
      | (refine ⟨by first | rfl | exact ret_i HP.out, snapA_shut (g := g) (s := { s with same := (true && true), words := setI s.words s.slot x, k := 0, pass := s.pass + 1, phase := if (true && true) = true then 1 else 0 }) ?_⟩; have K1 := K.out; rw [u64s_set] at K1; (try simp only [HP.out] at K1); simp only [snapP, SnapM.v, setI, List.length_set]; exact K1)
      | (refine ⟨by first | rfl | exact ret_i HP.out, snapA_shut (g := g) (s := { s with same := (true && false), words := setI s.words s.slot x, k := 0, pass := s.pass + 1, phase := if (true && false) = true then 1 else 0 }) ?_⟩; have K1 := K.out; rw [u64s_set] at K1; (try simp only [HP.out] at K1); simp only [snapP, SnapM.v, setI, List.length_set]; exact K1)
theorem sstep_knf (la eqb : Bool) (b bm : Nat) (s : SnapM) (m : MemM) (ho : s.ok) (hp : s.phase = 0) (hk : s.k ≠ 0) (hroom : m.log.length < 1000000000) (hsm : s.same0 = false) (heq : decide (m.peek s.slot = getI s.words s.slot) = eqb) (hla : decide (s.k + 1 < s.conf.all) = la) (h : sat E w (snapA b s :: memA bm m :: L)) :
    Calls Tryz.prog 80 #[.pointer (some ⟨b, 0, none⟩), .pointer (some ⟨bm, 0, none⟩)] w fun e w' => e = .returned (.int .i64 (s.step m).1.phase) ∧ sat E w' (snapA b (s.step m).1 :: memA bm (s.step m).2 :: L) := by
  obtain ⟨g, h⟩ := snapA_open h
  have K := Lib.hid h
  clear h
  have a0 := K.out.rd 0 rfl; have l0 := K.out.ltp 0 rfl; have a1 := K.out.rd 1 rfl; have l1 := K.out.ltp 1 rfl
  have c0 : (s.phase == 0) = true := by simpa using hp
  have c1 : (s.k == 0) = false := by simpa using hk
  have B := ho.slot_bd
  obtain ⟨B0, B1⟩ := B
  have hal := ho.conf.all_bd
  obtain ⟨k0, k1⟩ := And.intro ho.k0 ho.k1
  obtain ⟨st0, st1⟩ := And.intro ho.st0 ho.st1
  obtain ⟨p0, p1⟩ := And.intro ho.p0 ho.p1
  have AL := fun w => Lib.hid (all_calls s.conf w ho.conf)
  obtain ⟨al0, al1⟩ := hal
  have v1 : IntKind.i64.wrap (s.start + s.k) = s.start + s.k := wi (by omega) (by omega)
  have v2 : Int.tmod (s.start + s.k) s.conf.all = s.slot := by unfold SnapM.slot; rw [Int.tmod_eq_emod_of_nonneg (by omega)]
  have v3 : IntKind.i64.wrap s.slot = s.slot := wi (by omega) (by omega)
  have z1 : (s.conf.all == 0) = false := by simp; omega
  have z2 : ¬ s.conf.all = 0 := by omega
  have hlen := ho.len
  have n0 : s.slot < s.words.length := by omega
  have gd := getD_cell B0 n0
  have d2 : s.same = false := by have q := hsm; unfold SnapM.same0 at q; rw [if_neg hk] at q; exact q
  have LD := fun w (h : sat E w (memA bm m :: snapP b g ({ s with same := false } : SnapM) :: u64A g s.words :: L)) => Lib.hid (load_calls bm m s.who s.slot hroom h)
  have e := s.step_eq m hp
  rw [hsm, heq] at e
  generalize m.peek s.slot = x at LD e heq
  generalize getI s.words s.slot = y at gd heq
  have c2 : (x == y) = eqb := by rw [← heq]; rfl
  rw [e]
  obtain ⟨r, hr⟩ : ∃ r, r = s.rest (false && eqb) x := ⟨_, rfl⟩
  rw [← hr]
  unfold SnapM.rest at hr
  have HP := Lib.hid hp
  clear e hsm hp hk heq
  clear ho
  go_enter Tryz.func80, Tryz.ntmps80
  go_wp2_with (first | ((with_reducible refine at_store ?_); refine st_store 0 K.out rfl rfl rfl rfl ?_ ?_ ?_ ?_; (· kernel_rfl); (· simp); (· simp [Value.oneCell']); intro w1 K1; simp only [List.set, putL] at K1; have K2 := Lib.hid K1; clear K1 K; (try clear a0); (try clear l0); (try clear a1); (try clear l1); (try clear a2); (try clear l2); have K := K2; clear K2; have a0 := K.out.rd 0 rfl; have l0 := K.out.ltp 0 rfl; have a1 := K.out.rd 1 rfl; have l1 := K.out.ltp 1 rfl))
  have K1 := K.out
  simp only [snapP, SnapM.v, d2] at K1
  clear K a0 l0 a1 l1
  have K := Lib.hid K1
  clear K1
  have a0 := K.out.rd 0 rfl; have l0 := K.out.ltp 0 rfl; have a1 := K.out.rd 1 rfl; have l1 := K.out.ltp 1 rfl
  refine wp_region_noPanic ?_
  refine wp_region_held_drew (S := (fun w' => ∀ j, w'.cell? ⟨b, j, none⟩ = (SnapM.v ({ s with same := false } : SnapM) g)[j]?)) (by kernel_rfl) ?_ (fun hHeld => ?_)
  · ((try dsimp only); (exact sat.rd 0 (by repeat (with_reducible first | exact K.out | apply sat.alloc_any | apply sat.drew | apply sat.drewN)) rfl))
  refine tk 0 (some 29) ?_
  (try simp only [Act.put, p0, p1, p2])
  refine tk 1 (some 30) ?_
  (try simp only [Act.put, p0, p1, p2])
  refine tk 2 (some 31) ?_
  (try simp only [Act.put, p0, p1, p2])
  refine tk 3 (some 32) ?_
  (try simp only [Act.put, p0, p1, p2])
  refine tk 4 (some 33) ?_
  (try simp only [Act.put, p0, p1, p2])
  refine tk 5 (some 34) ?_
  (try simp only [Act.put, p0, p1, p2])
  refine tk 6 (some 35) ?_
  (try simp only [Act.put, p0, p1, p2])
  refine tk 7 (some 36) ?_
  (try simp only [Act.put, p0, p1, p2])
  refine tk 8 (some 37) ?_
  (try simp only [Act.put, p0, p1, p2])
  refine tk 9 (some 38) ?_
  (try simp only [Act.put, p0, p1, p2])
  refine tk 10 (some 39) ?_
  (try simp only [Act.put, p0, p1, p2])
  refine tk 11 (some 40) ?_
  (try simp only [Act.put, p0, p1, p2])
  refine tk 12 (some 41) ?_
  (try simp only [Act.put, p0, p1, p2])
  refine wpAnyH_ready (rs := [13]) (by kernel_rfl) (by simp) ?_
  refine AllReadyH.cons (o := _) rfl (fun kC hkC => ?_) AllReadyH.nil
  go_simp
  (first | (go_at_call 31; (with_reducible refine ((AL _).out).mono ?_); rintro e w1 ⟨rfl, hb⟩; have K1 := sat.grown (show sat _ _ _ from by first | exact K.out | exact K.out.drew) hb; clear hb; have K2 := Lib.hid K1; clear K1 K; (try clear a0); (try clear l0); (try clear f0); (try clear a1); (try clear l1); (try clear f1); (try clear a2); (try clear l2); (try clear f2); (try clear a3); (try clear l3); (try clear f3); (try clear a4); (try clear l4); (try clear f4); (try clear a5); (try clear l5); (try clear f5); have K := K2; clear K2; (try have a0 := K.out.rd 0 rfl); (try have l0 := K.out.ltp 0 rfl); (try have f0 := K.out.fr 0 rfl); (try have a1 := K.out.rd 1 rfl); (try have l1 := K.out.ltp 1 rfl); (try have f1 := K.out.fr 1 rfl); (try have a2 := K.out.rd 2 rfl); (try have l2 := K.out.ltp 2 rfl); (try have f2 := K.out.fr 2 rfl); (try have a3 := K.out.rd 3 rfl); (try have l3 := K.out.ltp 3 rfl); (try have f3 := K.out.fr 3 rfl)))
  refine shown hkC _ _ (by (try dsimp only); (exact sat.rd 0 (by repeat (with_reducible first | exact K.out | apply sat.alloc_any | apply sat.drew | apply sat.drewN)) rfl)) ?_; clear hkC kC hHeld; intro hHeld
  (try simp only [Act.put, p0, p1, p2])
  refine tk 14 (some 43) ?_
  (try simp only [Act.put, p0, p1, p2])
  refine tk 15 (some 5) ?_
  (try simp only [Act.put, p0, p1, p2])
  refine wpAnyH_done (by kernel_rfl) (NoPanic.normal ?_) _
  go_wp2_with fail
  refine wp_region_noPanic ?_
  refine wp_region_held_drew (S := (fun w' => ∀ j, w'.cell? ⟨b, j, none⟩ = (SnapM.v ({ s with same := false } : SnapM) g)[j]?)) (by kernel_rfl) ?_ (fun hHeld => ?_)
  · ((try dsimp only); (exact sat.rd 0 (by repeat (with_reducible first | exact K.out | apply sat.alloc_any | apply sat.drew | apply sat.drewN)) rfl))
  refine tk 0 (some 44) ?_
  (try simp only [Act.put, p0, p1, p2])
  refine tk 1 (some 45) ?_
  (try simp only [Act.put, p0, p1, p2])
  refine tk 2 (some 46) ?_
  (try simp only [Act.put, p0, p1, p2])
  refine tk 3 (some 47) ?_
  (try simp only [Act.put, p0, p1, p2])
  refine tk 4 (some 48) ?_
  (try simp only [Act.put, p0, p1, p2])
  refine tk 5 (some 49) ?_
  (try simp only [Act.put, p0, p1, p2])
  refine tk 6 (some 50) ?_
  (try simp only [Act.put, p0, p1, p2])
  refine tk 7 (some 51) ?_
  (try simp only [Act.put, p0, p1, p2])
  refine tk 8 (some 52) ?_
  (try simp only [Act.put, p0, p1, p2])
  refine tk 9 (some 53) ?_
  (try simp only [Act.put, p0, p1, p2])
  refine wpAnyH_ready (rs := [10]) (by kernel_rfl) (by simp) ?_
  refine AllReadyH.cons (o := _) rfl (fun kC hkC => ?_) AllReadyH.nil
  go_simp
  (first | (go_at_call 33; (with_reducible refine (word_calls s.conf _ s.slot).mono ?_); rintro e w1 ⟨rfl, hb⟩; have K1 := sat.grown (show sat _ _ _ from by first | exact K.out | exact K.out.drew) hb; clear hb; have K2 := Lib.hid K1; clear K1 K; (try clear a0); (try clear l0); (try clear f0); (try clear a1); (try clear l1); (try clear f1); (try clear a2); (try clear l2); (try clear f2); (try clear a3); (try clear l3); (try clear f3); (try clear a4); (try clear l4); (try clear f4); (try clear a5); (try clear l5); (try clear f5); have K := K2; clear K2; (try have a0 := K.out.rd 0 rfl); (try have l0 := K.out.ltp 0 rfl); (try have f0 := K.out.fr 0 rfl); (try have a1 := K.out.rd 1 rfl); (try have l1 := K.out.ltp 1 rfl); (try have f1 := K.out.fr 1 rfl); (try have a2 := K.out.rd 2 rfl); (try have l2 := K.out.ltp 2 rfl); (try have f2 := K.out.fr 2 rfl); (try have a3 := K.out.rd 3 rfl); (try have l3 := K.out.ltp 3 rfl); (try have f3 := K.out.fr 3 rfl)) | (go_at_call 95; (with_reducible refine ((LD _ (show sat E _ _ from by first | exact K.out | exact K.out.drew).cab).out).mono ?_); rintro e w1 ⟨rfl, K1⟩; replace K1 := K1.uncab; have K2 := Lib.hid K1; clear K1 K; (try clear a0); (try clear l0); (try clear f0); (try clear a1); (try clear l1); (try clear f1); (try clear a2); (try clear l2); (try clear f2); (try clear a3); (try clear l3); (try clear f3); (try clear a4); (try clear l4); (try clear f4); (try clear a5); (try clear l5); (try clear f5); have K := K2; clear K2; (try have a0 := K.out.rd 0 rfl); (try have l0 := K.out.ltp 0 rfl); (try have f0 := K.out.fr 0 rfl); (try have a1 := K.out.rd 1 rfl); (try have l1 := K.out.ltp 1 rfl); (try have f1 := K.out.fr 1 rfl); (try have a2 := K.out.rd 2 rfl); (try have l2 := K.out.ltp 2 rfl); (try have f2 := K.out.fr 2 rfl); (try have a3 := K.out.rd 3 rfl); (try have l3 := K.out.ltp 3 rfl); (try have f3 := K.out.fr 3 rfl)))
  refine shown hkC _ _ (by (try dsimp only); (exact sat.rd 0 (by repeat (with_reducible first | exact K.out | apply sat.alloc_any | apply sat.drew | apply sat.drewN)) rfl)) ?_; clear hkC kC hHeld; intro hHeld
  (try simp only [Act.put, p0, p1, p2])
  refine wpAnyH_ready (rs := [11]) (by kernel_rfl) (by simp) ?_
  refine AllReadyH.cons (o := _) rfl (fun kC hkC => ?_) AllReadyH.nil
  go_simp
  (first | (go_at_call 33; (with_reducible refine (word_calls s.conf _ s.slot).mono ?_); rintro e w1 ⟨rfl, hb⟩; have K1 := sat.grown (show sat _ _ _ from by first | exact K.out | exact K.out.drew) hb; clear hb; have K2 := Lib.hid K1; clear K1 K; (try clear a0); (try clear l0); (try clear f0); (try clear a1); (try clear l1); (try clear f1); (try clear a2); (try clear l2); (try clear f2); (try clear a3); (try clear l3); (try clear f3); (try clear a4); (try clear l4); (try clear f4); (try clear a5); (try clear l5); (try clear f5); have K := K2; clear K2; (try have a0 := K.out.rd 0 rfl); (try have l0 := K.out.ltp 0 rfl); (try have f0 := K.out.fr 0 rfl); (try have a1 := K.out.rd 1 rfl); (try have l1 := K.out.ltp 1 rfl); (try have f1 := K.out.fr 1 rfl); (try have a2 := K.out.rd 2 rfl); (try have l2 := K.out.ltp 2 rfl); (try have f2 := K.out.fr 2 rfl); (try have a3 := K.out.rd 3 rfl); (try have l3 := K.out.ltp 3 rfl); (try have f3 := K.out.fr 3 rfl)) | (go_at_call 95; (with_reducible refine ((LD _ (show sat E _ _ from by first | exact K.out | exact K.out.drew).cab).out).mono ?_); rintro e w1 ⟨rfl, K1⟩; replace K1 := K1.uncab; have K2 := Lib.hid K1; clear K1 K; (try clear a0); (try clear l0); (try clear f0); (try clear a1); (try clear l1); (try clear f1); (try clear a2); (try clear l2); (try clear f2); (try clear a3); (try clear l3); (try clear f3); (try clear a4); (try clear l4); (try clear f4); (try clear a5); (try clear l5); (try clear f5); have K := K2; clear K2; (try have a0 := K.out.rd 0 rfl); (try have l0 := K.out.ltp 0 rfl); (try have f0 := K.out.fr 0 rfl); (try have a1 := K.out.rd 1 rfl); (try have l1 := K.out.ltp 1 rfl); (try have f1 := K.out.fr 1 rfl); (try have a2 := K.out.rd 2 rfl); (try have l2 := K.out.ltp 2 rfl); (try have f2 := K.out.fr 2 rfl); (try have a3 := K.out.rd 3 rfl); (try have l3 := K.out.ltp 3 rfl); (try have f3 := K.out.fr 3 rfl)))
  refine shown hkC _ _ (by (try dsimp only); (exact sat.rd 0 (by repeat (with_reducible first | exact K.out | apply sat.alloc_any | apply sat.drew | apply sat.drewN)) rfl)) ?_; clear hkC kC hHeld; intro hHeld
  (try simp only [Act.put, p0, p1, p2])
  refine tk 12 (some 6) ?_
  (try simp only [Act.put, p0, p1, p2])
  refine wpAnyH_done (by kernel_rfl) (NoPanic.normal ?_) _
  go_wp2_with (first | ((with_reducible refine at_store ?_); refine st_store 0 K.out rfl rfl rfl rfl ?_ ?_ ?_ ?_; (· kernel_rfl); (· simp); (· simp [Value.oneCell']); intro w1 K1; simp only [List.set, putL] at K1; have K2 := Lib.hid K1; clear K1 K; (try clear a0); (try clear l0); (try clear a1); (try clear l1); (try clear a2); (try clear l2); have K := K2; clear K2; have a0 := K.out.rd 0 rfl; have l0 := K.out.ltp 0 rfl; have a1 := K.out.rd 1 rfl; have l1 := K.out.ltp 1 rfl) | ((with_reducible refine at_store ?_); refine st_store 1 K.out rfl rfl rfl rfl ?_ ?_ ?_ ?_; (· kernel_rfl); (· show _ + 1 ≤ _; simp [u64s]; omega); (· simp [Value.oneCell']); intro w1 K1; simp only [List.set, putL_one] at K1; have K2 := Lib.hid K1; clear K1 K; (try clear a0); (try clear l0); (try clear a1); (try clear l1); (try clear a2); (try clear l2); have K := K2; clear K2; have a0 := K.out.rd 0 rfl; have l0 := K.out.ltp 0 rfl; have a1 := K.out.rd 1 rfl; have l1 := K.out.ltp 1 rfl))
  have K1 : sat E _ (snapP b g { s with same := (false && eqb), k := s.k + 1 } :: pt g (.cells ((u64s s.words).set s.slot.toNat (.int .u64 x)).toArray 33 (0, 0)) :: memA bm (m.touch s.who 0 s.slot 0 0) :: L) := K.out
  clear K a0 l0 a1 l1
  have K := Lib.hid K1
  clear K1
  have a0 := K.out.rd 0 rfl; have l0 := K.out.ltp 0 rfl; have a1 := K.out.rd 1 rfl; have l1 := K.out.ltp 1 rfl
  refine wp_region_noPanic ?_
  refine wp_region_held_drew (S := (fun w' => ∀ j, w'.cell? ⟨b, j, none⟩ = (SnapM.v ({ s with same := (false && eqb), k := s.k + 1 } : SnapM) g)[j]?)) (by kernel_rfl) ?_ (fun hHeld => ?_)
  · ((try dsimp only); (exact sat.rd 0 (by repeat (with_reducible first | exact K.out | apply sat.alloc_any | apply sat.drew | apply sat.drewN)) rfl))
  refine tk 0 (some 88) ?_
  (try simp only [Act.put, p0, p1, p2])
  refine tk 1 (some 89) ?_
  (try simp only [Act.put, p0, p1, p2])
  refine tk 2 (some 90) ?_
  (try simp only [Act.put, p0, p1, p2])
  refine tk 3 (some 91) ?_
  (try simp only [Act.put, p0, p1, p2])
  refine tk 4 (some 92) ?_
  (try simp only [Act.put, p0, p1, p2])
  refine tk 5 (some 93) ?_
  (try simp only [Act.put, p0, p1, p2])
  refine tk 6 (some 94) ?_
  (try simp only [Act.put, p0, p1, p2])
  refine tk 7 (some 95) ?_
  (try simp only [Act.put, p0, p1, p2])
  refine wpAnyH_ready (rs := [8]) (by kernel_rfl) (by simp) ?_
  refine AllReadyH.cons (o := _) rfl (fun kC hkC => ?_) AllReadyH.nil
  go_simp
  (first | (go_at_call 31; (with_reducible refine ((AL _).out).mono ?_); rintro e w1 ⟨rfl, hb⟩; have K1 := sat.grown (show sat _ _ _ from by first | exact K.out | exact K.out.drew) hb; clear hb; have K2 := Lib.hid K1; clear K1 K; (try clear a0); (try clear l0); (try clear f0); (try clear a1); (try clear l1); (try clear f1); (try clear a2); (try clear l2); (try clear f2); (try clear a3); (try clear l3); (try clear f3); (try clear a4); (try clear l4); (try clear f4); (try clear a5); (try clear l5); (try clear f5); have K := K2; clear K2; (try have a0 := K.out.rd 0 rfl); (try have l0 := K.out.ltp 0 rfl); (try have f0 := K.out.fr 0 rfl); (try have a1 := K.out.rd 1 rfl); (try have l1 := K.out.ltp 1 rfl); (try have f1 := K.out.fr 1 rfl); (try have a2 := K.out.rd 2 rfl); (try have l2 := K.out.ltp 2 rfl); (try have f2 := K.out.fr 2 rfl); (try have a3 := K.out.rd 3 rfl); (try have l3 := K.out.ltp 3 rfl); (try have f3 := K.out.fr 3 rfl)))
  refine shown hkC _ _ (by (try dsimp only); (exact sat.rd 0 (by repeat (with_reducible first | exact K.out | apply sat.alloc_any | apply sat.drew | apply sat.drewN)) rfl)) ?_; clear hkC kC hHeld; intro hHeld
  (try simp only [Act.put, p0, p1, p2])
  refine tk 9 (some 97) ?_
  (try simp only [Act.put, p0, p1, p2])
  refine wpAnyH_done (by kernel_rfl) (NoPanic.normal ?_) _
  cases la with
  | true =>
    have hla' : s.k + 1 < s.conf.all := by simpa using hla
    rw [if_pos hla'] at hr
    go_wp2
    go_ret
    subst hr
    refine ⟨rfl, snapA_shut (g := g) (s := { s with same := (false && eqb), words := setI s.words s.slot x, k := s.k + 1 }) ?_⟩
    have K1 := K.out
    rw [u64s_set] at K1
    simp only [snapP, SnapM.v, setI, List.length_set]
    first | exact K1 | exact K1.drew
  | false =>
    have hla' : ¬ s.k + 1 < s.conf.all := by simpa using hla
    rw [if_neg hla'] at hr
    cases eqb
    all_goals
      go_wp2_with (first | ((with_reducible refine at_store ?_); refine st_store 0 K.out rfl rfl rfl rfl ?_ ?_ ?_ ?_; (· kernel_rfl); (· simp); (· simp [Value.oneCell']); intro w1 K1; simp only [List.set, putL] at K1; have K2 := Lib.hid K1; clear K1 K; (try clear a0); (try clear l0); (try clear a1); (try clear l1); (try clear a2); (try clear l2); have K := K2; clear K2; have a0 := K.out.rd 0 rfl; have l0 := K.out.ltp 0 rfl; have a1 := K.out.rd 1 rfl; have l1 := K.out.ltp 1 rfl))
      go_ret
      subst hr
      first
      | (refine ⟨by first | rfl | exact ret_i HP.out, snapA_shut (g := g) (s := { s with same := (false && true), words := setI s.words s.slot x, k := 0, pass := s.pass + 1, phase := if (false && true) = true then 1 else 0 }) ?_⟩; have K1 := K.out; rw [u64s_set] at K1; (try simp only [HP.out] at K1); simp only [snapP, SnapM.v, setI, List.length_set]; exact K1)
      | (refine ⟨by first | rfl | exact ret_i HP.out, snapA_shut (g := g) (s := { s with same := (false && false), words := setI s.words s.slot x, k := 0, pass := s.pass + 1, phase := if (false && false) = true then 1 else 0 }) ?_⟩; have K1 := K.out; rw [u64s_set] at K1; (try simp only [HP.out] at K1); simp only [snapP, SnapM.v, setI, List.length_set]; exact K1)
/-- A step of a Snap. -/
theorem sstep_calls (b bm : Nat) (s : SnapM) (m : MemM) (ho : s.ok) (hroom : m.log.length < 1000000000) (h : sat E w (snapA b s :: memA bm m :: L)) :
    Calls Tryz.prog 80 #[.pointer (some ⟨b, 0, none⟩), .pointer (some ⟨bm, 0, none⟩)] w fun e w' => e = .returned (.int .i64 (s.step m).1.phase) ∧ sat E w' (snapA b (s.step m).1 :: memA bm (s.step m).2 :: L) := by
  by_cases hp : s.phase = 0
  · by_cases hk : s.k = 0
    · cases hs : s.same0
      · exact sstep_k0f _ _ b bm s m ho hp hk hroom hs rfl rfl h
      · exact sstep_k0t _ _ b bm s m ho hp hk hroom hs rfl rfl h
    · cases hs : s.same0
      · exact sstep_knf _ _ b bm s m ho hp hk hroom hs rfl rfl h
      · exact sstep_knt _ _ b bm s m ho hp hk hroom hs rfl rfl h
  · have e : s.step m = (s, m) := by unfold SnapM.step; rw [if_pos hp]
    rw [e]
    exact sstep_off b bm s m hp h
end
end Go.Proofs.YtegdhojhnmgjgaaGreat
/- All places at one time (package snap): New and Words. Conditions: a Right layout, a thread of it. -/
namespace Go.Proofs.YtegdhojhnmgjgaaGreat
open Go.RowKit Go.SepYtegdhojhnmgjgaaGreat
set_option maxRecDepth 100000
set_option maxHeartbeats 1000000
attribute [local go_sem] min2_w max2_w min_w max_w
theorem u64Info1 : ∃ q z, Tryz.prog.info? 33 = some q ∧ q.zero = some z ∧ q.size = 1 ∧ q.bytes = 8 ∧ z.cells = #[.int .u64 0] := ⟨_, _, rfl, rfl, rfl, rfl, rfl⟩
theorem u64s_rep (n : Nat) : List.replicate n (Value.int .u64 0) = u64s (List.replicate n 0) := by simp [u64s]
section
variable {E w : World} {L : List SA}
theorem snapnew_calls (c : ConfM) (hc : c.ok) (who start : Int) (h : sat E w L) :
    Calls Tryz.prog 69 #[.agg #[.int .i64 c.th, .int .i64 c.sl, .int .i64 c.src, .int .i64 c.dl], .int .i64 who, .int .i64 start] w (NewA E L (fun g => snapA g (SnapM.new c who start))) := by
  have K := Lib.hid h
  clear h
  have AL := fun w => Lib.hid (all_calls c w hc)
  obtain ⟨al0, al1⟩ := hc.all_bd
  have v0 : IntKind.u64.wrap start = start % 18446744073709551616 := by rw [IntKind.wrap_u64]
  have v1 : IntKind.u64.wrap c.all = c.all := by rw [IntKind.wrap_u64]; omega
  have v2 : (start % 18446744073709551616).tmod c.all = start % 18446744073709551616 % c.all := by rw [Int.tmod_eq_emod_of_nonneg (by omega)]
  have b1 : 0 ≤ start % 18446744073709551616 % c.all := Int.emod_nonneg _ (by omega)
  have b2 : start % 18446744073709551616 % c.all < c.all := Int.emod_lt_of_pos _ (by omega)
  have v3 : IntKind.u64.wrap (start % 18446744073709551616 % c.all) = start % 18446744073709551616 % c.all := by rw [IntKind.wrap_u64]; omega
  have v4 : IntKind.i64.wrap (start % 18446744073709551616 % c.all) = start % 18446744073709551616 % c.all := wi (by omega) (by omega)
  have z1 : (c.all == 0) = false := by simp; omega
  have z2 : ¬ c.all = 0 := by omega
  have lz := Lib.hid (show c.all = (c.all.toNat : Int) by omega)
  have hn : c.all.toNat ≤ 4096 := by omega
  go_enter Tryz.func69, Tryz.ntmps69
  go_wp2_with (first | ((with_reducible refine at_box ?_); refine st_boxf K.out rfl rfl (fun _ => rfl) ?_; intro g1 w1 K1; have K2 := Lib.hid K1; clear K1 K; (try clear a0); (try clear l0); (try clear a1); (try clear l1); (try clear a2); (try clear l2); have K := K2; clear K2; have a0 := K.out.rd 0 rfl; have l0 := K.out.ltp 0 rfl))
  refine wp_region_noPanic ?_
  refine wp_region_held_drew (S := (fun w' => (∀ j, w'.cell? ⟨g1, j, none⟩ = ([.int .i64 c.th, .int .i64 c.sl, .int .i64 c.src, .int .i64 c.dl] : List Value)[j]?))) (by kernel_rfl) ?_ (fun hHeld => ?_)
  · ((try dsimp only); (first | exact sat.rd 1 (by repeat (with_reducible first | exact K.out | apply sat.alloc_any | apply sat.drew | apply sat.drewN)) rfl | exact sat.rd 0 (by repeat (with_reducible first | exact K.out | apply sat.alloc_any | apply sat.drew | apply sat.drewN)) rfl | exact sat.rd 2 (by repeat (with_reducible first | exact K.out | apply sat.alloc_any | apply sat.drew | apply sat.drewN)) rfl))
  refine tk 0 (some 7) ?_
  (try simp only [Act.put, p0, p1, p2])
  refine tk 1 (some 8) ?_
  (try simp only [Act.put, p0, p1, p2])
  refine tk 2 (some 9) ?_
  (try simp only [Act.put, p0, p1, p2])
  refine tk 3 (some 10) ?_
  (try simp only [Act.put, p0, p1, p2])
  refine tk 4 (some 11) ?_
  (try simp only [Act.put, p0, p1, p2])
  refine tk 9 (some 16) ?_
  (try simp only [Act.put, p0, p1, p2])
  refine wpAnyH_ready (rs := [5]) (by kernel_rfl) (by simp) ?_
  refine AllReadyH.cons (o := _) rfl (fun kC hkC => ?_) AllReadyH.nil
  go_simp
  (first | (go_at_call 31; (with_reducible refine ((AL _).out).mono ?_); rintro e w1 ⟨rfl, hb⟩; have K1 := sat.grown (show sat _ _ _ from by first | exact K.out | exact K.out.drew) hb; clear hb; have K2 := Lib.hid K1; clear K1 K; (try clear a0); (try clear l0); (try clear f0); (try clear a1); (try clear l1); (try clear f1); (try clear a2); (try clear l2); (try clear f2); (try clear a3); (try clear l3); (try clear f3); (try clear a4); (try clear l4); (try clear f4); (try clear a5); (try clear l5); (try clear f5); have K := K2; clear K2; (try have a0 := K.out.rd 0 rfl); (try have l0 := K.out.ltp 0 rfl); (try have f0 := K.out.fr 0 rfl); (try have a1 := K.out.rd 1 rfl); (try have l1 := K.out.ltp 1 rfl); (try have f1 := K.out.fr 1 rfl); (try have a2 := K.out.rd 2 rfl); (try have l2 := K.out.ltp 2 rfl); (try have f2 := K.out.fr 2 rfl); (try have a3 := K.out.rd 3 rfl); (try have l3 := K.out.ltp 3 rfl); (try have f3 := K.out.fr 3 rfl)) | (refine rg_makeP (E := E) (d := some 18) 33 8 (.int .u64 0) Tryz.underlying67 u64Info1 (by kernel_rfl) rfl rfl (by first | exact K.out | exact K.out.drew) rfl rfl lz.out lz.out (by omega) (by omega) ?_; intro gm w1 K1; have K2 := Lib.hid K1; clear K1 K; have K := K2; clear K2))
  refine shown hkC _ _ (by (try dsimp only); (first | exact sat.rd 1 (by repeat (with_reducible first | exact K.out | apply sat.alloc_any | apply sat.drew | apply sat.drewN)) rfl | exact sat.rd 0 (by repeat (with_reducible first | exact K.out | apply sat.alloc_any | apply sat.drew | apply sat.drewN)) rfl | exact sat.rd 2 (by repeat (with_reducible first | exact K.out | apply sat.alloc_any | apply sat.drew | apply sat.drewN)) rfl)) ?_; clear hkC kC hHeld; intro hHeld
  (try simp only [Act.put, p0, p1, p2])
  refine tk 6 (some 13) ?_
  (try simp only [Act.put, p0, p1, p2])
  refine tk 7 (some 14) ?_
  (try simp only [Act.put, p0, p1, p2])
  refine tk 8 (some 15) ?_
  (try simp only [Act.put, p0, p1, p2])
  refine wpAnyH_ready (rs := [10]) (by kernel_rfl) (by simp) ?_
  refine AllReadyH.cons (o := _) rfl (fun kC hkC => ?_) AllReadyH.nil
  go_simp
  (first | (go_at_call 31; (with_reducible refine ((AL _).out).mono ?_); rintro e w1 ⟨rfl, hb⟩; have K1 := sat.grown (show sat _ _ _ from by first | exact K.out | exact K.out.drew) hb; clear hb; have K2 := Lib.hid K1; clear K1 K; (try clear a0); (try clear l0); (try clear f0); (try clear a1); (try clear l1); (try clear f1); (try clear a2); (try clear l2); (try clear f2); (try clear a3); (try clear l3); (try clear f3); (try clear a4); (try clear l4); (try clear f4); (try clear a5); (try clear l5); (try clear f5); have K := K2; clear K2; (try have a0 := K.out.rd 0 rfl); (try have l0 := K.out.ltp 0 rfl); (try have f0 := K.out.fr 0 rfl); (try have a1 := K.out.rd 1 rfl); (try have l1 := K.out.ltp 1 rfl); (try have f1 := K.out.fr 1 rfl); (try have a2 := K.out.rd 2 rfl); (try have l2 := K.out.ltp 2 rfl); (try have f2 := K.out.fr 2 rfl); (try have a3 := K.out.rd 3 rfl); (try have l3 := K.out.ltp 3 rfl); (try have f3 := K.out.fr 3 rfl)) | (refine rg_makeP (E := E) (d := some 18) 33 8 (.int .u64 0) Tryz.underlying67 u64Info1 (by kernel_rfl) rfl rfl (by first | exact K.out | exact K.out.drew) rfl rfl lz.out lz.out (by omega) (by omega) ?_; intro gm w1 K1; have K2 := Lib.hid K1; clear K1 K; have K := K2; clear K2))
  refine shown hkC _ _ (by (try dsimp only); (first | exact sat.rd 1 (by repeat (with_reducible first | exact K.out | apply sat.alloc_any | apply sat.drew | apply sat.drewN)) rfl | exact sat.rd 0 (by repeat (with_reducible first | exact K.out | apply sat.alloc_any | apply sat.drew | apply sat.drewN)) rfl | exact sat.rd 2 (by repeat (with_reducible first | exact K.out | apply sat.alloc_any | apply sat.drew | apply sat.drewN)) rfl)) ?_; clear hkC kC hHeld; intro hHeld
  (try simp only [Act.put, p0, p1, p2])
  refine wpAnyH_ready (rs := [11]) (by kernel_rfl) (by simp) ?_
  refine AllReadyH.cons (o := _) rfl (fun kC hkC => ?_) AllReadyH.nil
  (first | (go_at_call 31; (with_reducible refine ((AL _).out).mono ?_); rintro e w1 ⟨rfl, hb⟩; have K1 := sat.grown (show sat _ _ _ from by first | exact K.out | exact K.out.drew) hb; clear hb; have K2 := Lib.hid K1; clear K1 K; (try clear a0); (try clear l0); (try clear f0); (try clear a1); (try clear l1); (try clear f1); (try clear a2); (try clear l2); (try clear f2); (try clear a3); (try clear l3); (try clear f3); (try clear a4); (try clear l4); (try clear f4); (try clear a5); (try clear l5); (try clear f5); have K := K2; clear K2; (try have a0 := K.out.rd 0 rfl); (try have l0 := K.out.ltp 0 rfl); (try have f0 := K.out.fr 0 rfl); (try have a1 := K.out.rd 1 rfl); (try have l1 := K.out.ltp 1 rfl); (try have f1 := K.out.fr 1 rfl); (try have a2 := K.out.rd 2 rfl); (try have l2 := K.out.ltp 2 rfl); (try have f2 := K.out.fr 2 rfl); (try have a3 := K.out.rd 3 rfl); (try have l3 := K.out.ltp 3 rfl); (try have f3 := K.out.fr 3 rfl)) | (refine rg_makeP (E := E) (d := some 18) 33 8 (.int .u64 0) Tryz.underlying67 u64Info1 (by kernel_rfl) rfl rfl (by first | exact K.out | exact K.out.drew) rfl rfl lz.out lz.out (by omega) (by omega) ?_; intro gm w1 K1; have K2 := Lib.hid K1; clear K1 K; have K := K2; clear K2))
  refine shown hkC _ _ (by (try dsimp only); (first | exact sat.rd 1 (by repeat (with_reducible first | exact K.out | apply sat.alloc_any | apply sat.drew | apply sat.drewN)) rfl | exact sat.rd 0 (by repeat (with_reducible first | exact K.out | apply sat.alloc_any | apply sat.drew | apply sat.drewN)) rfl | exact sat.rd 2 (by repeat (with_reducible first | exact K.out | apply sat.alloc_any | apply sat.drew | apply sat.drewN)) rfl)) ?_; clear hkC kC hHeld; intro hHeld
  (try simp only [Act.put, p0, p1, p2])
  refine tk 12 (some 19) ?_
  (try simp only [Act.put, p0, p1, p2])
  refine wpAnyH_ready (rs := [13]) (by kernel_rfl) (by simp) ?_
  refine AllReadyH.cons (o := _) rfl (fun kC hkC => ?_) AllReadyH.nil
  (refine rg_box (E := E) (d := some 20) (by kernel_rfl) rfl rfl (by first | exact K.out | exact K.out.drew) rfl rfl (fun _ => rfl) ?_; intro gx w1 K1; have K2 := Lib.hid K1; clear K1 K; (try clear a0); (try clear l0); (try clear f0); (try clear a1); (try clear l1); (try clear f1); (try clear a2); (try clear l2); (try clear f2); (try clear a3); (try clear l3); (try clear f3); (try clear a4); (try clear l4); (try clear f4); (try clear a5); (try clear l5); (try clear f5); have K := K2; clear K2; (try have a0 := K.out.rd 0 rfl); (try have l0 := K.out.ltp 0 rfl); (try have f0 := K.out.fr 0 rfl); (try have a1 := K.out.rd 1 rfl); (try have l1 := K.out.ltp 1 rfl); (try have f1 := K.out.fr 1 rfl); (try have a2 := K.out.rd 2 rfl); (try have l2 := K.out.ltp 2 rfl); (try have f2 := K.out.fr 2 rfl); (try have a3 := K.out.rd 3 rfl); (try have l3 := K.out.ltp 3 rfl); (try have f3 := K.out.fr 3 rfl))
  refine shown hkC _ _ (by (try dsimp only); (first | exact sat.rd 1 (by repeat (with_reducible first | exact K.out | apply sat.alloc_any | apply sat.drew | apply sat.drewN)) rfl | exact sat.rd 0 (by repeat (with_reducible first | exact K.out | apply sat.alloc_any | apply sat.drew | apply sat.drewN)) rfl | exact sat.rd 2 (by repeat (with_reducible first | exact K.out | apply sat.alloc_any | apply sat.drew | apply sat.drewN)) rfl)) ?_; clear hkC kC hHeld; intro hHeld
  (try simp only [Act.put, p0, p1, p2])
  refine tk 14 (some 6) ?_
  (try simp only [Act.put, p0, p1, p2])
  refine wpAnyH_done (by kernel_rfl) (NoPanic.normal ?_) _
  all_goals
    go_wp2
    go_ret
    refine ⟨gx, rfl, snapA_shut (g := gm) (s := SnapM.new c who start) ?_⟩
    have K1 := (K.out.pick 2 rfl).drop
    rw [u64s_rep] at K1
    simp only [snapP, SnapM.v, SnapM.new, List.length_replicate]
    exact K1
theorem u64s_one (l : List Int) : ∀ v ∈ u64s l, v.oneCell' = true := by
  intro v hv
  obtain ⟨x, _, rfl⟩ := List.mem_map.1 hv
  rfl
/-- The words that a Snap read, copied. -/
theorem swords_calls (b : Nat) (s : SnapM) (hp : s.phase = 1) (hl : s.words.length ≤ 4096) (h : sat E w (snapA b s :: L)) :
    Calls Tryz.prog 106 #[.pointer (some ⟨b, 0, none⟩)] w fun e w' => ∃ g, e = .returned (.slice (some ⟨g, 0, none⟩) s.words.length s.words.length) ∧ sat E w' (u64A g s.words :: snapA b s :: L) := by
  obtain ⟨g0, h⟩ := snapA_open h
  have K := Lib.hid h
  clear h
  have a0 := K.out.rd 0 rfl; have l0 := K.out.ltp 0 rfl; have a1 := K.out.rd 1 rfl; have l1 := K.out.ltp 1 rfl
  have c0 : (s.phase == 1) = true := by simpa using hp
  have hlu : (u64s s.words).length = s.words.length := by simp [u64s]
  have hone := u64s_one s.words
  have HC := Lib.hid hlu
  clear hp hlu
  go_enter Tryz.func106, Tryz.ntmps106
  go_wp2_with (first | ((with_reducible refine at_make ?_); refine st_makeP 33 8 (.int .u64 0) Tryz.underlying67 u64Info1 K.out rfl rfl rfl rfl (by omega) (by omega) ?_; intro gm w1 K1; have K2 := Lib.hid K1; clear K1 K; (try clear a0); (try clear l0); (try clear a1); (try clear l1); (try clear a2); (try clear l2); have K := K2; clear K2; have a0 := K.out.rd 0 rfl; have l0 := K.out.ltp 0 rfl; have a1 := K.out.rd 1 rfl; have l1 := K.out.ltp 1 rfl; have a2 := K.out.rd 2 rfl; have l2 := K.out.ltp 2 rfl) | ((with_reducible refine at_copy ?_); refine st_copy 0 33 K.out (u64s s.words) rfl rfl rfl Tryz.underlying67 (by kernel_rfl) (by rw [HC.out]; exact (Nat.min_self _).symm) (by rw [HC.out, List.length_replicate]) (fun j v hj => by rw [Addr.add_lit, Nat.zero_add, a2, hj]) hone ?_; intro w1 K1; simp only [List.set] at K1; have K2 := Lib.hid K1; clear K1 K; (try clear a0); (try clear l0); (try clear a1); (try clear l1); (try clear a2); (try clear l2); have K := K2; clear K2; have a0 := K.out.rd 0 rfl; have l0 := K.out.ltp 0 rfl; have a1 := K.out.rd 1 rfl; have l1 := K.out.ltp 1 rfl; have a2 := K.out.rd 2 rfl; have l2 := K.out.ltp 2 rfl))
  go_ret
  exact ⟨gm, rfl, sat.swap (snapA_shut (g := g0) (K.out.pick 1 rfl |>.pick 2 rfl |>.pick 1 rfl))⟩
end
end Go.Proofs.YtegdhojhnmgjgaaGreat
/- What a step keeps of the conditions on which the contracts of steps rest: plain lemmas on the model. -/
namespace Go.Proofs.YtegdhojhnmgjgaaGreat
def wfs (l : List Int) : Prop := ∀ x ∈ l, 0 ≤ x ∧ x < 18446744073709551616
theorem wfs_setI {l : List Int} (h : wfs l) (i x : Int) (hx : 0 ≤ x ∧ x < 18446744073709551616) : wfs (setI l i x) := by
  intro y hy
  rcases List.mem_or_eq_of_mem_set hy with hy | rfl
  · exact h y hy
  · exact hx
theorem wfs_getI {l : List Int} (h : wfs l) (i : Int) : 0 ≤ getI l i ∧ getI l i < 18446744073709551616 := by
  unfold getI
  rw [List.getD_eq_getElem?_getD]
  cases hc : l[i.toNat]? with
  | none => simp
  | some x => exact h x (List.mem_of_getElem? hc)
theorem wfs_rep (n : Nat) : wfs (List.replicate n 0) := by
  intro x hx
  obtain ⟨_, rfl⟩ := List.mem_replicate.1 hx
  omega
/-! ### A snap -/
theorem SnapM.new_ok {c : ConfM} (hc : c.ok) {who : Int} (h0 : 0 ≤ who) (h1 : who < c.th) (start : Int) : (SnapM.new c who start).ok := by
  have := hc.all_bd
  refine ⟨hc, h0, h1, Int.emod_nonneg _ (by omega), Int.emod_lt_of_pos _ (by omega), ?_, ?_, ?_, ?_, ?_⟩ <;> simp only [SnapM.new, List.length_replicate] <;> omega
structure SnapM.kept (s s' : SnapM) : Prop where
  ok : s'.ok
  words : wfs s'.words
  conf : s'.conf = s.conf
  who : s'.who = s.who
  start : s'.start = s.start
  pass : s'.pass ≤ s.pass + 1
theorem SnapM.step_kept {s : SnapM} {m : MemM} (ho : s.ok) (hm : m.wf) (hw : wfs s.words) (hp : s.pass < 1000000000) : s.kept (s.step m).1 := by
  have hx := MemM.peek_wf hm s.slot
  have h1 := ho.k0
  have h2 := ho.k1
  have h3 := ho.p0
  have h4 := ho.len
  have h5 := ho.conf.all_bd
  by_cases hq : s.phase = 0
  · rw [s.step_eq m hq]
    unfold SnapM.rest
    split
    · exact ⟨⟨ho.conf, ho.who0, ho.who1, ho.st0, ho.st1, by show 0 ≤ s.k + 1; omega, by assumption, h3, ho.p1, by simpa [setI] using h4⟩, wfs_setI hw _ _ hx, rfl, rfl, rfl, by show s.pass ≤ _; omega⟩
    · exact ⟨⟨ho.conf, ho.who0, ho.who1, ho.st0, ho.st1, by show (0 : Int) ≤ 0; omega, by show 0 < s.conf.all; omega, by show 0 ≤ s.pass + 1; omega, by show s.pass + 1 ≤ _; omega, by simpa [setI] using h4⟩, wfs_setI hw _ _ hx, rfl, rfl, rfl, by show s.pass + 1 ≤ _; omega⟩
  · have e : s.step m = (s, m) := by unfold SnapM.step; rw [if_pos hq]
    rw [e]
    exact ⟨ho, hw, rfl, rfl, rfl, by show s.pass ≤ _; omega⟩
/-! ### A take -/
theorem TakeM.new_ok {c : ConfM} (hc : c.ok) {who slot word : Int} (h0 : 0 ≤ who) (h1 : who < c.th) (s0 : 0 ≤ slot) (s1 : slot < c.all) (hw : 0 ≤ word ∧ word < 18446744073709551616) : (TakeM.new c who slot word).ok :=
  ⟨hc, h0, h1, s0, s1, hw.1, hw.2, Int.le_refl _, by show (0 : Int) ≤ _; omega⟩
structure TakeM.kept (s s' : TakeM) : Prop where
  ok : s'.ok
  conf : s'.conf = s.conf
  who : s'.who = s.who
  slot : s'.slot = s.slot
  word : s'.word = s.word
  steps : s'.steps ≤ s.steps + 1
theorem TakeM.step_kept {s : TakeM} {m : MemM} (ho : s.ok) (hp : s.steps < 1000000000) : s.kept (s.step m).1 := by
  have h0 := ho.st0
  unfold TakeM.step
  split
  · exact ⟨ho, rfl, rfl, rfl, rfl, by show s.steps ≤ _; omega⟩
  · split
    · exact ⟨⟨ho.conf, ho.who0, ho.who1, ho.slot0, ho.slot1, ho.word0, ho.word1, ho.st0, ho.st1⟩, rfl, rfl, rfl, rfl, by show s.steps ≤ _; omega⟩
    · have hs : s.steps + 1 ≤ 1000000000 := by omega
      have hs0 : 0 ≤ s.steps + 1 := by omega
      dsimp only
      (repeat' split) <;> exact ⟨⟨ho.conf, ho.who0, ho.who1, ho.slot0, ho.slot1, ho.word0, ho.word1, hs0, hs⟩, rfl, rfl, rfl, rfl, Int.le_refl _⟩
/-! ### A place -/
theorem ClaimM.new_ok {c : ConfM} (hc : c.ok) {who : Int} (h0 : 0 ≤ who) (h1 : who < c.th) : (ClaimM.new c who).ok := by
  have := hc.sl1
  have := hc.th1
  exact ⟨hc, h0, h1, Int.le_refl _, by show 0 < c.sl; omega, by show (-1 : Int) ≤ -1; omega, fun _ => by show -1 < c.th; omega⟩
structure ClaimM.kept (s s' : ClaimM) : Prop where
  ok : s'.ok
  conf : s'.conf = s.conf
  who : s'.who = s.who
  gen : 0 ≤ s.word.gen → s.word.gen ≤ 8191 → 0 ≤ s'.word.gen ∧ s'.word.gen ≤ 8191
theorem ClaimM.pass_kept {s : ClaimM} (ho : s.ok) : s.kept s.pass := by
  have h0 := ho.k0
  have h1 := ho.k1
  have h2 := ho.conf.th1
  unfold ClaimM.pass
  split
  · exact ⟨⟨ho.conf, ho.who0, ho.who1, h0, h1, by show (-1 : Int) ≤ -1; omega, fun _ => by show -1 < s.conf.th; omega⟩, rfl, rfl, fun a b => ⟨a, b⟩⟩
  · exact ⟨⟨ho.conf, ho.who0, ho.who1, by show 0 ≤ s.k + 1; omega, by show s.k + 1 < s.conf.sl; omega, by show (-1 : Int) ≤ -1; omega, fun _ => by show -1 < s.conf.th; omega⟩, rfl, rfl, fun a b => ⟨a, b⟩⟩
theorem unpack_gen (x : Int) : 0 ≤ (unpack x).gen ∧ (unpack x).gen ≤ 8191 := by
  show 0 ≤ x / 8 % 8192 ∧ x / 8 % 8192 ≤ 8191
  omega
theorem ClaimM.step_kept {s : ClaimM} {m : MemM} (ho : s.ok) : s.kept (s.step m).1 := by
  have hg := unpack_gen (m.peek s.slot)
  have h2 := ho.conf.th1
  unfold ClaimM.step
  split
  · exact ⟨ho, rfl, rfl, fun a b => ⟨a, b⟩⟩
  · rename_i hp
    have hp0 : s.phase = 0 := Classical.not_not.1 hp
    split
    · rename_i hgd
      unfold ClaimM.look
      dsimp only
      have h1 : ({ s with word := unpack (m.peek s.slot) } : ClaimM).ok := ⟨ho.conf, ho.who0, ho.who1, ho.k0, ho.k1, ho.g0, ho.g1⟩
      have hk := ClaimM.pass_kept h1
      have hpass : s.kept ({ s with word := unpack (m.peek s.slot) } : ClaimM).pass := ⟨hk.ok, hk.conf, hk.who, fun _ _ => hk.gen hg.1 hg.2⟩
      split
      · exact hpass
      · split
        · exact ⟨⟨ho.conf, ho.who0, ho.who1, ho.k0, ho.k1, ho.g0, fun h => by cases h⟩, rfl, rfl, fun _ _ => hg⟩
        · split
          · exact ⟨⟨ho.conf, ho.who0, ho.who1, ho.k0, ho.k1, by show (-1 : Int) ≤ 0; omega, fun _ => by show 0 < s.conf.th; omega⟩, rfl, rfl, fun _ _ => hg⟩
          · exact hpass
    · rename_i hgd
      have h3 := ho.g1 hp0
      dsimp only
      split
      · have hk := ClaimM.pass_kept ho
        exact ⟨hk.ok, hk.conf, hk.who, hk.gen⟩
      · split
        · exact ⟨⟨ho.conf, ho.who0, ho.who1, ho.k0, ho.k1, by show -1 ≤ s.guard + 1; omega, fun h => by cases h⟩, rfl, rfl, fun a b => ⟨a, b⟩⟩
        · exact ⟨⟨ho.conf, ho.who0, ho.who1, ho.k0, ho.k1, by show -1 ≤ s.guard + 1; omega, fun h => by show s.guard + 1 < s.conf.th; omega⟩, rfl, rfl, fun a b => ⟨a, b⟩⟩
/-! ### A stamp -/
theorem TickM.new_ok {c : ConfM} (hc : c.ok) {who : Int} (h0 : 0 ≤ who) (h1 : who < c.th) : (TickM.new c who).ok := by
  refine ⟨hc, h0, h1, ?_, ?_, ?_, ?_⟩ <;> simp only [TickM.new] <;> omega
theorem cap_bd {x : Int} (h : 0 ≤ x) : 0 ≤ cap x ∧ cap x ≤ 16777215 := by show 0 ≤ min x 16777215 ∧ min x 16777215 ≤ 16777215; omega
theorem tdone_a (t : TickM) (s : StampM) : (t.done s).a = t.a := by unfold TickM.done; split <;> rfl
structure TickM.kept (s s' : TickM) : Prop where
  ok : s'.ok
  conf : s'.conf = s.conf
  who : s'.who = s.who
  steps : s'.steps ≤ s.steps + 1
theorem TickM.of (s s' : TickM) (ho : s.ok) (hp : s.steps < 1000000000) (hc : s'.conf = s.conf) (hw : s'.who = s.who) (ha : 0 ≤ s'.a ∧ s'.a ≤ 16777215) (hs : s'.steps = s.steps) : s.kept { s' with steps := s'.steps + 1 } := by
  have := ho.s0
  refine ⟨⟨by show s'.conf.ok; rw [hc]; exact ho.conf, by show 0 ≤ s'.who; rw [hw]; exact ho.who0, by show s'.who < s'.conf.th; rw [hw, hc]; exact ho.who1, ha.1, ha.2, by show 0 ≤ s'.steps + 1; omega, by show s'.steps + 1 ≤ _; omega⟩, hc, hw, by show s'.steps + 1 ≤ _; omega⟩
theorem TickM.step_kept {s : TickM} {m : MemM} {now : Int} (ho : s.ok) (hm : m.wf) (hn : 0 ≤ now) (hp : s.steps < 1000000000) : s.kept (s.step m now).1 := by
  have ha := And.intro ho.a0 ho.a1
  have hs := ho.s0
  have hr : ∀ th, 0 ≤ s.read m th ∧ s.read m th ≤ 16777215 := fun th => cap_bd (MemM.peek_wf hm _).1
  unfold TickM.step
  split
  · exact ⟨ho, rfl, rfl, by show s.steps ≤ _; omega⟩
  · dsimp only
    split
    · exact TickM.of s _ ho hp (tdone_conf _ _) (tdone_who _ _) (by rw [tdone_a]; exact ha) (tdone_steps _ _)
    · split
      · unfold TickM.stutter
        split
        · have := hr s.steps
          exact TickM.of s { s with a := max s.a (s.read m s.steps) } ho hp rfl rfl (by show 0 ≤ max s.a (s.read m s.steps) ∧ max s.a (s.read m s.steps) ≤ 16777215; omega) rfl
        · exact TickM.of s _ ho hp (tdone_conf _ _) (tdone_who _ _) (by show 0 ≤ (s.done _).a ∧ (s.done _).a ≤ _; rw [tdone_a]; exact ha) (tdone_steps _ _)
      · split
        · unfold TickM.swap
          have := hr 0
          split
          · exact TickM.of s { s with a := s.read m 0, phase := if s.read m 0 ≥ Top then 2 else s.phase } ho hp rfl rfl this rfl
          · split
            · dsimp only
              split
              · exact TickM.of s _ ho hp (tdone_conf _ _) (tdone_who _ _) (by rw [tdone_a]; exact ha) (tdone_steps _ _)
              · exact TickM.of s { s with b := s.read m 0 } ho hp rfl rfl ha rfl
            · split
              · dsimp only
                split
                · exact TickM.of s _ ho hp (tdone_conf _ _) (tdone_who _ _) (by rw [tdone_a]; exact ha) (tdone_steps _ _)
                · exact TickM.of s s ho hp rfl rfl ha rfl
              · split
                · exact TickM.of s _ ho hp (tdone_conf _ _) (tdone_who _ _) (by rw [tdone_a]; exact ha) (tdone_steps _ _)
                · exact TickM.of s s ho hp rfl rfl ha rfl
        · have hc := cap_bd hn
          split
          · split
            · split
              · exact TickM.of s { s with a := cap now } ho hp rfl rfl hc rfl
              · exact TickM.of s s ho hp rfl rfl ha rfl
            · split
              · exact TickM.of s _ ho hp (tdone_conf _ _) (tdone_who _ _) (by show 0 ≤ (TickM.done _ _).a ∧ (TickM.done _ _).a ≤ _; rw [tdone_a]; exact hc) (tdone_steps _ _)
              · exact TickM.of s _ ho hp (tdone_conf _ _) (tdone_who _ _) (by show 0 ≤ (TickM.done _ _).a ∧ (TickM.done _ _).a ≤ _; rw [tdone_a]; exact ha) (tdone_steps _ _)
          · exact TickM.of s _ ho hp (tdone_conf _ _) (tdone_who _ _) (by rw [tdone_a]; exact ha) (tdone_steps _ _)
end Go.Proofs.YtegdhojhnmgjgaaGreat
