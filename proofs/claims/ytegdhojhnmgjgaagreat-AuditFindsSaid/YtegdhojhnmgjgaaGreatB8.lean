/- Several texts in one: Get GetS GetR Region MapKit MapWalk Deed. Each says ahead of it what it shows. -/
import Derived.Test.YtegdhojhnmgjgaaGreatB5
import Derived.Test.YtegdhojhnmgjgaaGreatB7
import Derived.Test.YtegdhojhnmgjgaaGreatB1
import Derived.Deep.RegionHeld3
import Derived.Maps.OwnSet
import Derived.Test.YtegdhojhnmgjgaaGreatB2
set_option linter.unusedVariables false
set_option linter.unusedSimpArgs false
/- What stands at an end is taken (package get): what each of its functions does. Conditions: a Right layout, a thread of it, room for what is noted. -/
namespace Go.Proofs.YtegdhojhnmgjgaaGreat
open Go.RowKit Go.SepYtegdhojhnmgjgaaGreat
set_option maxRecDepth 100000
set_option maxHeartbeats 1000000
abbrev GetM.v (g : GetM) (bs : Nat) (tv : Value) : List Value := [.int .i64 g.conf.th, .int .i64 g.conf.sl, .int .i64 g.conf.src, .int .i64 g.conf.dl, .int .i64 g.who, .int .i64 g.fin, .int .i64 g.start, .pointer (some ⟨bs, 0, none⟩), tv, .int .i64 g.tries, .int .u64 g.value, .int .i64 g.phase]
abbrev getP (b bs : Nat) (tv : Value) (g : GetM) : SA := pt b (.cells (g.v bs tv).toArray 140 (0, 0))
def takeO (v : Value) : Option TakeM → SA
  | none => fun h => v = .pointer none ∧ ∀ b, h b = none
  | some t => fun h => ∃ b : Nat, v = .pointer (some ⟨b, 0, none⟩) ∧ takeA b t h
def getA (b : Nat) (g : GetM) : SA := fun h => ∃ (bs : Nat) (tv : Value), bag [getP b bs tv g, snapA bs g.snap, takeO tv g.take] h
structure GetM.ok (g : GetM) : Prop where
  conf : g.conf.ok
  who0 : 0 ≤ g.who
  who1 : g.who < g.conf.th
  snap : g.snap.ok
  sc : g.snap.conf = g.conf
  sw : g.snap.who = g.who
  words : wfs g.snap.words
  take : ∀ t, g.take = some t → t.ok
  tries0 : 0 ≤ g.tries
  tries1 : g.tries ≤ 1000000000
section
variable {E w : World} {L : List SA}
theorem _root_.Go.SepYtegdhojhnmgjgaaGreat.sat.emp {A : SA} (h : sat E w L) (e : ∀ g, (∀ b, g b = none) → A g) : sat E w (A :: L) := by
  obtain ⟨b, g, x, y⟩ := h
  exact ⟨b, g, ⟨fun _ => none, g, fun _ => .inl rfl, (both_none_left (fun _ => rfl)).symm, e _ (fun _ => rfl), x⟩, y⟩
theorem takeO_none {v : Value} (h : sat E w (takeO v none :: L)) : v = .pointer none ∧ sat E w L := by
  have h' : sat E w ((fun g => v = .pointer none ∧ ∀ b, g b = none) :: L) := h
  obtain ⟨e, h'⟩ := h'.pure
  exact ⟨e, h'.drop⟩
theorem takeO_mk (h : sat E w L) : sat E w (takeO (.pointer none) none :: L) := h.emp (fun g hg => ⟨rfl, hg⟩)
theorem takeO_some {v : Value} {t : TakeM} (h : sat E w (takeO v (some t) :: L)) : ∃ b : Nat, v = .pointer (some ⟨b, 0, none⟩) ∧ sat E w (takeA b t :: L) := by
  have h' : sat E w ((fun g => ∃ b : Nat, v = .pointer (some ⟨b, 0, none⟩) ∧ takeA b t g) :: L) := h
  obtain ⟨b, h'⟩ := h'.ex
  obtain ⟨e, h'⟩ := h'.pure
  exact ⟨b, e, h'⟩
theorem takeO_put {b : Nat} {t : TakeM} (h : sat E w (takeA b t :: L)) : sat E w (takeO (.pointer (some ⟨b, 0, none⟩)) (some t) :: L) :=
  sat.mkex (P := fun b' g => (Value.pointer (some ⟨b, 0, none⟩)) = .pointer (some ⟨b', 0, none⟩) ∧ takeA b' t g) b (sat.mkpure rfl h)
theorem getA_open {b : Nat} {g : GetM} (h : sat E w (getA b g :: L)) : ∃ (bs : Nat) (tv : Value), sat E w (getP b bs tv g :: snapA bs g.snap :: takeO tv g.take :: L) := by
  obtain ⟨bs, h⟩ := h.ex
  obtain ⟨tv, h⟩ := h.ex
  exact ⟨bs, tv, h.unbag⟩
theorem getA_shut {b bs : Nat} {tv : Value} {g : GetM} (h : sat E w (getP b bs tv g :: snapA bs g.snap :: takeO tv g.take :: L)) : sat E w (getA b g :: L) :=
  sat.mkex bs (sat.mkex tv (sat.bag (M := [_, _, _]) h))
theorem oldU_pt {g t : Nat} {l : List Int} (h : sat E w (pt g (.cells (u64s l).toArray t (0, 0)) :: L)) : OldU w (some ⟨g, 0, none⟩) l := fun j hj => ⟨g, 0, rfl, h.lt, by rw [Nat.zero_add, h.rd 0 rfl]; simp [u64s, hj]⟩
section
variable {A B C D : SA}
theorem _root_.Go.SepYtegdhojhnmgjgaaGreat.sat.bca (h : sat E w (A :: B :: C :: L)) : sat E w (B :: C :: A :: L) := (h.pick 2 rfl).pick 2 rfl
theorem _root_.Go.SepYtegdhojhnmgjgaaGreat.sat.unbca (h : sat E w (B :: C :: A :: L)) : sat E w (A :: B :: C :: L) := h.pick 2 rfl
end
theorem gphase_calls (b : Nat) (g : GetM) (h : sat E w (getA b g :: L)) :
    Calls Tryz.prog 162 #[.pointer (some ⟨b, 0, none⟩)] w fun e w' => e = .returned (.int .i64 g.phase) ∧ w = w' := by
  obtain ⟨bs, tv, h⟩ := getA_open h
  have a0 := h.rd 0 rfl
  clear h
  go_enter Tryz.func162, Tryz.ntmps162
  go_wp2
  go_ret
  exact ⟨rfl, rfl⟩
theorem gvalue_calls (b : Nat) (g : GetM) (h : sat E w (getA b g :: L)) :
    Calls Tryz.prog 56 #[.pointer (some ⟨b, 0, none⟩)] w fun e w' => e = .returned (.int .u64 g.value) ∧ w = w' := by
  obtain ⟨bs, tv, h⟩ := getA_open h
  have a0 := h.rd 0 rfl
  clear h
  go_enter Tryz.func56, Tryz.ntmps56
  go_wp2
  go_ret
  exact ⟨rfl, rfl⟩
theorem getnew_calls (c : ConfM) (hc : c.ok) (who fin start : Int) (h : sat E w L) :
    Calls Tryz.prog 52 #[.agg #[.int .i64 c.th, .int .i64 c.sl, .int .i64 c.src, .int .i64 c.dl], .int .i64 who, .int .i64 fin, .int .i64 start] w (NewA E L (fun g => getA g (GetM.new c who fin start))) := by
  have K := Lib.hid h
  clear h
  have SN := fun w (L : List SA) (h : sat E w L) => Lib.hid (snapnew_calls c hc who start h)
  clear hc
  go_enter Tryz.func52, Tryz.ntmps52
  go_wp2_with (first | ((with_reducible refine at_box ?_); refine st_boxf K.out rfl rfl (fun _ => rfl) ?_; intro g1 w1 K1; have K2 := Lib.hid K1; clear K1 K; (try clear a0); (try clear l0); (try clear a1); (try clear l1); (try clear a2); (try clear l2); have K := K2; clear K2; have a0 := K.out.rd 0 rfl; have l0 := K.out.ltp 0 rfl))
  refine wp_region_noPanic ?_
  refine wp_region_held_drew (S := (fun w' => (∀ j, w'.cell? ⟨g1, j, none⟩ = ([.int .i64 c.th, .int .i64 c.sl, .int .i64 c.src, .int .i64 c.dl] : List Value)[j]?))) (by kernel_rfl) ?_ (fun hHeld => ?_)
  · ((try dsimp only); (first | exact sat.rd 1 (by repeat (with_reducible first | exact K.out | apply sat.alloc_any | apply sat.drew | apply sat.drewN)) rfl | exact sat.rd 0 (by repeat (with_reducible first | exact K.out | apply sat.alloc_any | apply sat.drew | apply sat.drewN)) rfl | exact sat.rd 2 (by repeat (with_reducible first | exact K.out | apply sat.alloc_any | apply sat.drew | apply sat.drewN)) rfl))
  refine tk 0 (some 9) ?_
  (try simp only [Act.put, p0, p1, p2])
  refine tk 1 (some 10) ?_
  (try simp only [Act.put, p0, p1, p2])
  refine tk 2 (some 11) ?_
  (try simp only [Act.put, p0, p1, p2])
  refine tk 3 (some 12) ?_
  (try simp only [Act.put, p0, p1, p2])
  refine tk 4 (some 13) ?_
  (try simp only [Act.put, p0, p1, p2])
  refine tk 5 (some 14) ?_
  (try simp only [Act.put, p0, p1, p2])
  refine tk 6 (some 15) ?_
  (try simp only [Act.put, p0, p1, p2])
  refine wpAnyH_ready (rs := [7]) (by kernel_rfl) (by simp) ?_
  refine AllReadyH.cons (o := _) rfl (fun kC hkC => ?_) AllReadyH.nil
  go_simp
  (first | (go_at_call 69; (with_reducible refine ((SN _ _ (show sat E _ _ from by first | exact K.out | exact K.out.drew)).out).mono ?_); rintro e w1 ⟨gs, rfl, K1⟩; have K2 := Lib.hid K1; clear K1 K; (try clear a0); (try clear l0); (try clear f0); (try clear a1); (try clear l1); (try clear f1); (try clear a2); (try clear l2); (try clear f2); (try clear a3); (try clear l3); (try clear f3); (try clear a4); (try clear l4); (try clear f4); (try clear a5); (try clear l5); (try clear f5); have K := K2; clear K2; (try have a0 := K.out.rd 0 rfl); (try have l0 := K.out.ltp 0 rfl); (try have f0 := K.out.fr 0 rfl); (try have a1 := K.out.rd 1 rfl); (try have l1 := K.out.ltp 1 rfl); (try have f1 := K.out.fr 1 rfl); (try have a2 := K.out.rd 2 rfl); (try have l2 := K.out.ltp 2 rfl); (try have f2 := K.out.fr 2 rfl); (try have a3 := K.out.rd 3 rfl); (try have l3 := K.out.ltp 3 rfl); (try have f3 := K.out.fr 3 rfl)))
  refine shown hkC _ _ (by (try dsimp only); (first | exact sat.rd 1 (by repeat (with_reducible first | exact K.out | apply sat.alloc_any | apply sat.drew | apply sat.drewN)) rfl | exact sat.rd 0 (by repeat (with_reducible first | exact K.out | apply sat.alloc_any | apply sat.drew | apply sat.drewN)) rfl | exact sat.rd 2 (by repeat (with_reducible first | exact K.out | apply sat.alloc_any | apply sat.drew | apply sat.drewN)) rfl)) ?_; clear hkC kC hHeld; intro hHeld
  (try simp only [Act.put, p0, p1, p2])
  refine tk 8 (some 17) ?_
  (try simp only [Act.put, p0, p1, p2])
  refine wpAnyH_ready (rs := [9]) (by kernel_rfl) (by simp) ?_
  refine AllReadyH.cons (o := _) rfl (fun kC hkC => ?_) AllReadyH.nil
  (refine rg_box (E := E) (d := some 18) (by kernel_rfl) rfl rfl (by first | exact K.out | exact K.out.drew) rfl rfl (fun _ => rfl) ?_; intro gx w1 K1; have K2 := Lib.hid K1; clear K1 K; (try clear a0); (try clear l0); (try clear f0); (try clear a1); (try clear l1); (try clear f1); (try clear a2); (try clear l2); (try clear f2); (try clear a3); (try clear l3); (try clear f3); (try clear a4); (try clear l4); (try clear f4); (try clear a5); (try clear l5); (try clear f5); have K := K2; clear K2; (try have a0 := K.out.rd 0 rfl); (try have l0 := K.out.ltp 0 rfl); (try have f0 := K.out.fr 0 rfl); (try have a1 := K.out.rd 1 rfl); (try have l1 := K.out.ltp 1 rfl); (try have f1 := K.out.fr 1 rfl); (try have a2 := K.out.rd 2 rfl); (try have l2 := K.out.ltp 2 rfl); (try have f2 := K.out.fr 2 rfl); (try have a3 := K.out.rd 3 rfl); (try have l3 := K.out.ltp 3 rfl); (try have f3 := K.out.fr 3 rfl))
  refine shown hkC _ _ (by (try dsimp only); (first | exact sat.rd 1 (by repeat (with_reducible first | exact K.out | apply sat.alloc_any | apply sat.drew | apply sat.drewN)) rfl | exact sat.rd 0 (by repeat (with_reducible first | exact K.out | apply sat.alloc_any | apply sat.drew | apply sat.drewN)) rfl | exact sat.rd 2 (by repeat (with_reducible first | exact K.out | apply sat.alloc_any | apply sat.drew | apply sat.drewN)) rfl)) ?_; clear hkC kC hHeld; intro hHeld
  (try simp only [Act.put, p0, p1, p2])
  refine tk 10 (some 8) ?_
  (try simp only [Act.put, p0, p1, p2])
  refine wpAnyH_done (by kernel_rfl) (NoPanic.normal ?_) _
  go_wp2
  go_ret
  exact ⟨gx, rfl, getA_shut (bs := gs) (g := GetM.new c who fin start) (((takeO_mk ((K.out.pick 2 rfl).drop)).pick 1 rfl).pick 2 rfl |>.pick 1 rfl)⟩
theorem chS {b bs gw : Nat} {tv : Value} {g : GetM} {slot : Int} {M : List SA} (hg : 0 ≤ slot ∧ slot < g.snap.words.length) (h : sat E w (getP b bs tv g :: u64A gw g.snap.words :: M)) :
    w.cell? ⟨b, 0, none⟩ = some (.int .i64 g.conf.th) ∧ w.cell? ⟨b, 1, none⟩ = some (.int .i64 g.conf.sl) ∧ w.cell? ⟨b, 2, none⟩ = some (.int .i64 g.conf.src) ∧ w.cell? ⟨b, 3, none⟩ = some (.int .i64 g.conf.dl) ∧ w.cell? ⟨b, 4, none⟩ = some (.int .i64 g.who) ∧ w.cell? ⟨gw, slot.toNat, none⟩ = some (.int .u64 (getI g.snap.words slot)) := by
  have := h.rd 0 rfl
  have h2 := h.rd 1 rfl slot.toNat
  rw [getD_cell hg.1 hg.2] at h2
  exact ⟨this 0, this 1, this 2, this 3, this 4, h2⟩
theorem chosen_calls (b bs : Nat) (g : GetM) (hd : g.snap.phase = 1) (hw : wfs g.snap.words) (hl : g.snap.words.length ≤ 4096) (ht : g.take = none) (h : sat E w (getP b bs (.pointer none) g :: snapA bs g.snap :: L)) :
    Calls Tryz.prog 81 #[.pointer (some ⟨b, 0, none⟩)] w fun e w' => e = .returned (.tuple #[]) ∧ ∃ tv, sat E w' (getP b bs tv g.chosen :: snapA bs g.snap :: takeO tv g.chosen.take :: L) := by
  have K := Lib.hid h
  clear h
  have a0 := K.out.rd 0 rfl; have l0 := K.out.ltp 0 rfl
  have WC := fun w (L : List SA) (h : sat E w (snapA bs g.snap :: L)) => Lib.hid (swords_calls bs g.snap hd hl h)
  have AT := fun w gw (h : OldU w (some ⟨gw, 0, none⟩) g.snap.words) => Lib.hid (at_calls g.snap.words (some ⟨gw, 0, none⟩) g.snap.words.length g.fin w h hw (by omega))
  have hr := atM_range g.snap.words g.fin
  unfold GetM.chosen
  dsimp only
  by_cases h0 : atM g.snap.words g.fin < 0
  · rw [if_pos h0]
    have c0 : decide (atM g.snap.words g.fin < 0) = true := by simpa using h0
    have HT := Lib.hid ht
    clear hd hl hw hr h0 ht
    go_enter Tryz.func81, Tryz.ntmps81
    go_wp2_with (first | (go_at_call 106; (with_reducible refine (WC _ _ K.out.swap).out.mono ?_); rintro e w1 ⟨gw, rfl, K1⟩; replace K1 := K1.cab; have K2 := Lib.hid K1; clear K1 K; (try clear a0); (try clear l0); (try clear a1); (try clear l1); (try clear a2); (try clear l2); have K := K2; clear K2; have a0 := K.out.rd 0 rfl; have l0 := K.out.ltp 0 rfl; have a1 := K.out.rd 1 rfl; have l1 := K.out.ltp 1 rfl) | (go_at_call 107; (with_reducible refine ((AT _ gw (oldU_pt ((show sat E _ _ from by iterate 6 (try (with_reducible first | exact K.out | apply sat.alloc_any | apply sat.drew | apply sat.drewN))).pick 1 rfl))).out).mono ?_); rintro e w1 ⟨rfl, hb⟩; have K1 := sat.grown (by repeat (with_reducible first | exact K.out | apply sat.alloc_any | apply sat.drew | apply sat.drewN)) hb; clear hb; have K2 := Lib.hid K1; clear K1 K; (try clear a0); (try clear l0); (try clear a1); (try clear l1); (try clear a2); (try clear l2); have K := K2; clear K2; have a0 := K.out.rd 0 rfl; have l0 := K.out.ltp 0 rfl; have a1 := K.out.rd 1 rfl; have l1 := K.out.ltp 1 rfl) | ((with_reducible refine at_store ?_); refine st_store 0 K.out rfl rfl rfl rfl ?_ ?_ ?_ ?_; (· kernel_rfl); (· simp); (· simp [Value.oneCell']); intro w1 K1; simp only [List.set, putL] at K1; have K2 := Lib.hid K1; clear K1 K; (try clear a0); (try clear l0); (try clear a1); (try clear l1); (try clear a2); (try clear l2); have K := K2; clear K2; have a0 := K.out.rd 0 rfl; have l0 := K.out.ltp 0 rfl; have a1 := K.out.rd 1 rfl; have l1 := K.out.ltp 1 rfl))
    (first | go_end0 | ((try simp only [Exit.inBlock, Exit.then]); refine bodyPost_ret (results_none rfl _ _ _) rfl ?_))
    refine ⟨rfl, .pointer none, ?_⟩
    have K1 := takeO_mk (K.out.pick 1 rfl).drop
    rw [← HT.out] at K1
    exact (K1.pick 1 rfl).pick 2 rfl |>.pick 1 rfl
  · rw [if_neg h0]
    have c0 : decide (atM g.snap.words g.fin < 0) = false := by simpa using h0
    have hs : 0 ≤ atM g.snap.words g.fin ∧ atM g.snap.words g.fin < g.snap.words.length := by
      rcases hr with ⟨_, e⟩ | ⟨_, e1, e2, _⟩
      · omega
      · exact ⟨e1, e2⟩
    obtain ⟨s0, s1⟩ := hs
    have HS := Lib.hid (And.intro s0 s1)
    clear hd hl hw hr h0 ht
    generalize atM g.snap.words g.fin = slot at *
    go_enter Tryz.func81, Tryz.ntmps81
    go_wp2_with (first | (go_at_call 106; (with_reducible refine (WC _ _ K.out.swap).out.mono ?_); rintro e w1 ⟨gw, rfl, K1⟩; replace K1 := K1.cab; have K2 := Lib.hid K1; clear K1 K; (try clear a0); (try clear l0); (try clear a1); (try clear l1); (try clear a2); (try clear l2); have K := K2; clear K2; have a0 := K.out.rd 0 rfl; have l0 := K.out.ltp 0 rfl; have a1 := K.out.rd 1 rfl; have l1 := K.out.ltp 1 rfl) | (go_at_call 107; (with_reducible refine ((AT _ gw (oldU_pt ((show sat E _ _ from by iterate 6 (try (with_reducible first | exact K.out | apply sat.alloc_any | apply sat.drew | apply sat.drewN))).pick 1 rfl))).out).mono ?_); rintro e w1 ⟨rfl, hb⟩; have K1 := sat.grown (by repeat (with_reducible first | exact K.out | apply sat.alloc_any | apply sat.drew | apply sat.drewN)) hb; clear hb; have K2 := Lib.hid K1; clear K1 K; (try clear a0); (try clear l0); (try clear a1); (try clear l1); (try clear a2); (try clear l2); have K := K2; clear K2; have a0 := K.out.rd 0 rfl; have l0 := K.out.ltp 0 rfl; have a1 := K.out.rd 1 rfl; have l1 := K.out.ltp 1 rfl))
    refine wp_region_noPanic ?_
    refine wp_region_held_drew (S := (fun w' => w'.cell? ⟨b, 0, none⟩ = some (.int .i64 g.conf.th) ∧ w'.cell? ⟨b, 1, none⟩ = some (.int .i64 g.conf.sl) ∧ w'.cell? ⟨b, 2, none⟩ = some (.int .i64 g.conf.src) ∧ w'.cell? ⟨b, 3, none⟩ = some (.int .i64 g.conf.dl) ∧ w'.cell? ⟨b, 4, none⟩ = some (.int .i64 g.who) ∧ w'.cell? ⟨gw, slot.toNat, none⟩ = some (.int .u64 (getI g.snap.words slot)))) (by kernel_rfl) ?_ (fun hHeld => ?_)
    · ((try dsimp only); (first | (refine chS (E := E) (b := b) (bs := bs) (gw := gw) (g := g) (tv := .pointer none) (slot := slot) (M := snapA bs g.snap :: L) HS.out ?_; first | exact K.out | exact K.out.drew) | (refine chS (E := E) (b := b) (bs := bs) (gw := gw) (g := g) (tv := .pointer none) (slot := slot) (M := snapA bs g.snap :: L) HS.out (sat.drop (A := takeA gt (TakeM.new g.conf g.who slot (getI g.snap.words slot))) ?_); first | exact K.out | exact K.out.drew) | (refine chS (E := E) (b := b) (bs := bs) (gw := gw) (g := g) (tv := .pointer (some ⟨gt, 0, none⟩)) (slot := slot) (M := snapA bs g.snap :: L) HS.out (sat.drop (A := takeA gt (TakeM.new g.conf g.who slot (getI g.snap.words slot))) ?_); first | exact K.out | exact K.out.drew)))
    refine tk 0 (some 20) ?_
    (try simp only [Act.put, p0, p1, p2])
    refine tk 1 (some 21) ?_
    (try simp only [Act.put, p0, p1, p2])
    refine tk 2 (some 22) ?_
    (try simp only [Act.put, p0, p1, p2])
    refine tk 3 (some 23) ?_
    (try simp only [Act.put, p0, p1, p2])
    refine tk 4 (some 24) ?_
    (try simp only [Act.put, p0, p1, p2])
    refine tk 5 (some 25) ?_
    (try simp only [Act.put, p0, p1, p2])
    refine tk 6 (some 26) ?_
    (try simp only [Act.put, p0, p1, p2])
    refine tk 7 (some 27) ?_
    (try simp only [Act.put, p0, p1, p2])
    refine tk 8 (some 28) ?_
    (try simp only [Act.put, p0, p1, p2])
    refine tk 9 (some 29) ?_
    (try simp only [Act.put, p0, p1, p2])
    refine tk 10 (some 30) ?_
    (try simp only [Act.put, p0, p1, p2])
    refine tk 11 (some 31) ?_
    (try simp only [Act.put, p0, p1, p2])
    refine tk 12 (some 32) ?_
    (try simp only [Act.put, p0, p1, p2])
    refine tk 13 (some 33) ?_
    (try simp only [Act.put, p0, p1, p2])
    refine wpAnyH_ready (rs := [14]) (by kernel_rfl) (by simp) ?_
    refine AllReadyH.cons (o := _) rfl (fun kC hkC => ?_) AllReadyH.nil
    go_simp
    (first | (go_at_call 108; (with_reducible refine (takenew_calls g.conf g.who slot (getI g.snap.words slot) (show sat E _ _ from by first | exact K.out | exact K.out.drew)).mono ?_); rintro e w1 ⟨gt, rfl, K1⟩; have K2 := Lib.hid K1; clear K1 K; (try clear a0); (try clear l0); (try clear f0); (try clear a1); (try clear l1); (try clear f1); (try clear a2); (try clear l2); (try clear f2); (try clear a3); (try clear l3); (try clear f3); (try clear a4); (try clear l4); (try clear f4); (try clear a5); (try clear l5); (try clear f5); have K := K2; clear K2; (try have a0 := K.out.rd 0 rfl); (try have l0 := K.out.ltp 0 rfl); (try have f0 := K.out.fr 0 rfl); (try have a1 := K.out.rd 1 rfl); (try have l1 := K.out.ltp 1 rfl); (try have f1 := K.out.fr 1 rfl); (try have a2 := K.out.rd 2 rfl); (try have l2 := K.out.ltp 2 rfl); (try have f2 := K.out.fr 2 rfl); (try have a3 := K.out.rd 3 rfl); (try have l3 := K.out.ltp 3 rfl); (try have f3 := K.out.fr 3 rfl)))
    refine shown hkC _ _ (by (try dsimp only); (first | (refine chS (E := E) (b := b) (bs := bs) (gw := gw) (g := g) (tv := .pointer none) (slot := slot) (M := snapA bs g.snap :: L) HS.out ?_; first | exact K.out | exact K.out.drew) | (refine chS (E := E) (b := b) (bs := bs) (gw := gw) (g := g) (tv := .pointer none) (slot := slot) (M := snapA bs g.snap :: L) HS.out (sat.drop (A := takeA gt (TakeM.new g.conf g.who slot (getI g.snap.words slot))) ?_); first | exact K.out | exact K.out.drew) | (refine chS (E := E) (b := b) (bs := bs) (gw := gw) (g := g) (tv := .pointer (some ⟨gt, 0, none⟩)) (slot := slot) (M := snapA bs g.snap :: L) HS.out (sat.drop (A := takeA gt (TakeM.new g.conf g.who slot (getI g.snap.words slot))) ?_); first | exact K.out | exact K.out.drew))) ?_; clear hkC kC hHeld; intro hHeld
    (try simp only [Act.put, p0, p1, p2])
    refine tk 15 (some 35) ?_
    (try simp only [Act.put, p0, p1, p2])
    refine tk 16 (some 36) ?_
    (try simp only [Act.put, p0, p1, p2])
    refine wpAnyH_ready (rs := [17]) (by kernel_rfl) (by simp) ?_
    refine AllReadyH.cons (o := _) rfl (fun kC hkC => ?_) AllReadyH.nil
    (first | (refine rg_store (E := E) (d := none) 0 (by kernel_rfl) rfl rfl (by first | exact K.out | exact K.out.drew) rfl rfl rfl rfl ?_ ?_ ?_ ?_; (· kernel_rfl); (· simp); (· simp [Value.oneCell']); intro w1 K1; simp only [List.set, putL] at K1; have K2 := Lib.hid K1; clear K1 K; (try clear a0); (try clear l0); (try clear f0); (try clear a1); (try clear l1); (try clear f1); (try clear a2); (try clear l2); (try clear f2); (try clear a3); (try clear l3); (try clear f3); (try clear a4); (try clear l4); (try clear f4); (try clear a5); (try clear l5); (try clear f5); have K := K2; clear K2; (try have a0 := K.out.rd 0 rfl); (try have l0 := K.out.ltp 0 rfl); (try have f0 := K.out.fr 0 rfl); (try have a1 := K.out.rd 1 rfl); (try have l1 := K.out.ltp 1 rfl); (try have f1 := K.out.fr 1 rfl); (try have a2 := K.out.rd 2 rfl); (try have l2 := K.out.ltp 2 rfl); (try have f2 := K.out.fr 2 rfl); (try have a3 := K.out.rd 3 rfl); (try have l3 := K.out.ltp 3 rfl); (try have f3 := K.out.fr 3 rfl)) | (refine rg_store (E := E) (d := none) 1 (by kernel_rfl) rfl rfl (by first | exact K.out | exact K.out.drew) rfl rfl rfl rfl ?_ ?_ ?_ ?_; (· kernel_rfl); (· simp); (· simp [Value.oneCell']); intro w1 K1; simp only [List.set, putL] at K1; have K2 := Lib.hid K1; clear K1 K; (try clear a0); (try clear l0); (try clear f0); (try clear a1); (try clear l1); (try clear f1); (try clear a2); (try clear l2); (try clear f2); (try clear a3); (try clear l3); (try clear f3); (try clear a4); (try clear l4); (try clear f4); (try clear a5); (try clear l5); (try clear f5); have K := K2; clear K2; (try have a0 := K.out.rd 0 rfl); (try have l0 := K.out.ltp 0 rfl); (try have f0 := K.out.fr 0 rfl); (try have a1 := K.out.rd 1 rfl); (try have l1 := K.out.ltp 1 rfl); (try have f1 := K.out.fr 1 rfl); (try have a2 := K.out.rd 2 rfl); (try have l2 := K.out.ltp 2 rfl); (try have f2 := K.out.fr 2 rfl); (try have a3 := K.out.rd 3 rfl); (try have l3 := K.out.ltp 3 rfl); (try have f3 := K.out.fr 3 rfl)) | (refine rg_store (E := E) (d := none) 2 (by kernel_rfl) rfl rfl (by first | exact K.out | exact K.out.drew) rfl rfl rfl rfl ?_ ?_ ?_ ?_; (· kernel_rfl); (· simp); (· simp [Value.oneCell']); intro w1 K1; simp only [List.set, putL] at K1; have K2 := Lib.hid K1; clear K1 K; (try clear a0); (try clear l0); (try clear f0); (try clear a1); (try clear l1); (try clear f1); (try clear a2); (try clear l2); (try clear f2); (try clear a3); (try clear l3); (try clear f3); (try clear a4); (try clear l4); (try clear f4); (try clear a5); (try clear l5); (try clear f5); have K := K2; clear K2; (try have a0 := K.out.rd 0 rfl); (try have l0 := K.out.ltp 0 rfl); (try have f0 := K.out.fr 0 rfl); (try have a1 := K.out.rd 1 rfl); (try have l1 := K.out.ltp 1 rfl); (try have f1 := K.out.fr 1 rfl); (try have a2 := K.out.rd 2 rfl); (try have l2 := K.out.ltp 2 rfl); (try have f2 := K.out.fr 2 rfl); (try have a3 := K.out.rd 3 rfl); (try have l3 := K.out.ltp 3 rfl); (try have f3 := K.out.fr 3 rfl)))
    refine shown hkC _ _ (by (try dsimp only); (first | (refine chS (E := E) (b := b) (bs := bs) (gw := gw) (g := g) (tv := .pointer none) (slot := slot) (M := snapA bs g.snap :: L) HS.out ?_; first | exact K.out | exact K.out.drew) | (refine chS (E := E) (b := b) (bs := bs) (gw := gw) (g := g) (tv := .pointer none) (slot := slot) (M := snapA bs g.snap :: L) HS.out (sat.drop (A := takeA gt (TakeM.new g.conf g.who slot (getI g.snap.words slot))) ?_); first | exact K.out | exact K.out.drew) | (refine chS (E := E) (b := b) (bs := bs) (gw := gw) (g := g) (tv := .pointer (some ⟨gt, 0, none⟩)) (slot := slot) (M := snapA bs g.snap :: L) HS.out (sat.drop (A := takeA gt (TakeM.new g.conf g.who slot (getI g.snap.words slot))) ?_); first | exact K.out | exact K.out.drew))) ?_; clear hkC kC hHeld; intro hHeld
    (try simp only [Act.put, p0, p1, p2])
    refine wpAnyH_done (by kernel_rfl) (NoPanic.normal ?_) _
    (first | go_end0 | ((try simp only [Exit.inBlock, Exit.then]); refine bodyPost_ret (results_none rfl _ _ _) rfl ?_))
    refine ⟨rfl, .pointer (some ⟨gt, 0, none⟩), ?_⟩
    have K1 := takeO_put K.out
    exact (((K1.pick 2 rfl).drop).pick 2 rfl).pick 2 rfl
end
end Go.Proofs.YtegdhojhnmgjgaaGreat
/- A step of a Get. Conditions: as its parts' (GetM.ok), room for what is noted. -/
namespace Go.Proofs.YtegdhojhnmgjgaaGreat
open Go.RowKit Go.SepYtegdhojhnmgjgaaGreat
set_option maxRecDepth 100000
set_option maxHeartbeats 1000000
theorem chosen_snap (g : GetM) : g.chosen.snap = g.snap := by unfold GetM.chosen; dsimp only; split <;> rfl
section
variable {E w : World} {L : List SA}
theorem gS {b t : Nat} {a0 a1 a2 a3 a4 a5 a6 : Value} {rest : List Value} {M : List SA} (h : sat E w (pt b (.cells (a0 :: a1 :: a2 :: a3 :: a4 :: a5 :: a6 :: rest).toArray t (0, 0)) :: M)) :
    w.cell? ⟨b, 0, none⟩ = some a0 ∧ w.cell? ⟨b, 1, none⟩ = some a1 ∧ w.cell? ⟨b, 2, none⟩ = some a2 ∧ w.cell? ⟨b, 3, none⟩ = some a3 ∧ w.cell? ⟨b, 4, none⟩ = some a4 ∧ w.cell? ⟨b, 6, none⟩ = some a6 := by
  have := h.rd 0 rfl
  exact ⟨this 0, this 1, this 2, this 3, this 4, this 6⟩
theorem gstep_off (b bm : Nat) (g : GetM) (m : MemM) (hp : g.phase ≠ 0) (h : sat E w (getA b g :: memA bm m :: L)) :
    Calls Tryz.prog 54 #[.pointer (some ⟨b, 0, none⟩), .pointer (some ⟨bm, 0, none⟩)] w fun e w' => e = .returned (.int .i64 g.phase) ∧ sat E w' (getA b g :: memA bm m :: L) := by
  obtain ⟨bs, tv, h⟩ := getA_open h
  have K := Lib.hid h
  clear h
  have a0 := K.out.rd 0 rfl; have l0 := K.out.ltp 0 rfl
  have c0 : (g.phase == 0) = false := by simpa using hp
  clear hp
  go_enter Tryz.func54, Tryz.ntmps54
  go_wp2
  go_ret
  exact ⟨rfl, getA_shut K.out⟩
theorem gstep_none (b bm : Nat) (g : GetM) (m : MemM) (ho : g.ok) (hp : g.phase = 0) (ht : g.take = none) (hps : g.snap.pass < 1000000000) (hroom : m.log.length < 1000000000) (h : sat E w (getA b g :: memA bm m :: L)) :
    Calls Tryz.prog 54 #[.pointer (some ⟨b, 0, none⟩), .pointer (some ⟨bm, 0, none⟩)] w fun e w' => e = .returned (.int .i64 (g.step m).1.phase) ∧ sat E w' (getA b (g.step m).1 :: memA bm (g.step m).2 :: L) := by
  obtain ⟨bs, tv, h⟩ := getA_open h
  rw [ht] at h
  obtain ⟨rfl, h⟩ := takeO_none (h.pick 2 rfl)
  replace h : sat E w (getP b bs (.pointer none) g :: snapA bs g.snap :: memA bm m :: L) := h
  have hm := (memA_open (h.pick 2 rfl)).1
  have hk := SnapM.step_kept ho.snap hm ho.words hps
  have K := Lib.hid h
  clear h
  have a0 := K.out.rd 0 rfl; have l0 := K.out.ltp 0 rfl
  have c0 : (g.phase == 0) = true := by simpa using hp
  have SS := fun w (h : sat E w (snapA bs g.snap :: memA bm m :: getP b bs (.pointer none) g :: L)) => Lib.hid (sstep_calls bs bm g.snap m ho.snap hroom h)
  have e : g.step m = (if (g.snap.step m).1.phase = 1 then ({ g with snap := (g.snap.step m).1 } : GetM).chosen else { g with snap := (g.snap.step m).1 }, (g.snap.step m).2) := by
    unfold GetM.step
    rw [if_neg (by simpa using hp), ht]
  rw [e]
  generalize g.snap.step m = r at *
  dsimp only
  have HT := Lib.hid ht
  have hlen := hk.ok.len
  have hal := hk.ok.conf.all_bd
  by_cases h1 : r.1.phase = 1
  · rw [if_pos h1]
    have c1 : (r.1.phase == 1) = true := by simpa using h1
    have CH := fun w (L : List SA) (h : sat E w (getP b bs (.pointer none) { g with snap := r.1 } :: snapA bs r.1 :: L)) => Lib.hid (chosen_calls b bs { g with snap := r.1 } h1 hk.words (by show r.1.words.length ≤ _; omega) ht h)
    have hs := chosen_snap { g with snap := r.1 }
    have HS := Lib.hid hs
    clear hk e hp ho hm h1 hs ht hlen hal
    generalize ({ g with snap := r.1 } : GetM).chosen = g2 at *
    go_enter Tryz.func54, Tryz.ntmps54
    go_wp2_with (first | (go_at_call 80; (with_reducible refine ((SS _ (show sat E _ _ from by iterate 6 (try (with_reducible first | exact K.out | apply sat.alloc_any | apply sat.drew | apply sat.drewN))).bca).out).mono ?_); rintro e w1 ⟨rfl, K1⟩; replace K1 := K1.unbca; have K2 := Lib.hid K1; clear K1 K; (try clear a0); (try clear l0); (try clear a1); (try clear l1); (try clear a2); (try clear l2); have K := K2; clear K2; have a0 := K.out.rd 0 rfl; have l0 := K.out.ltp 0 rfl) | (go_at_call 81; (with_reducible refine (CH _ _ K.out).out.mono ?_); rintro e w1 ⟨rfl, tv, K1⟩; have K2 := Lib.hid K1; clear K1 K; (try clear a0); (try clear l0); (try clear a1); (try clear l1); (try clear a2); (try clear l2); have K := K2; clear K2; have a0 := K.out.rd 0 rfl; have l0 := K.out.ltp 0 rfl))
    go_ret
    refine ⟨rfl, getA_shut (bs := bs) (tv := tv) ?_⟩
    rw [HS.out]
    exact K.out
  · rw [if_neg h1]
    have c1 : (r.1.phase == 1) = false := by simpa using h1
    clear hk e hp ho hm h1 ht hlen hal
    go_enter Tryz.func54, Tryz.ntmps54
    go_wp2_with (first | (go_at_call 80; (with_reducible refine ((SS _ (show sat E _ _ from by iterate 6 (try (with_reducible first | exact K.out | apply sat.alloc_any | apply sat.drew | apply sat.drewN))).bca).out).mono ?_); rintro e w1 ⟨rfl, K1⟩; replace K1 := K1.unbca; have K2 := Lib.hid K1; clear K1 K; (try clear a0); (try clear l0); (try clear a1); (try clear l1); (try clear a2); (try clear l2); have K := K2; clear K2; have a0 := K.out.rd 0 rfl; have l0 := K.out.ltp 0 rfl))
    go_ret
    refine ⟨rfl, getA_shut (bs := bs) (tv := .pointer none) ?_⟩
    have K1 := (((takeO_mk K.out).pick 1 rfl).pick 2 rfl).pick 1 rfl
    rw [← HT.out] at K1
    exact K1
theorem gstep_some (b bm : Nat) (g : GetM) (t : TakeM) (m : MemM) (ho : g.ok) (hp : g.phase = 0) (ht : g.take = some t) (htr : g.tries < 1000000000) (hroom : m.log.length < 1000000000) (h : sat E w (getA b g :: memA bm m :: L)) :
    Calls Tryz.prog 54 #[.pointer (some ⟨b, 0, none⟩), .pointer (some ⟨bm, 0, none⟩)] w fun e w' => e = .returned (.int .i64 (g.step m).1.phase) ∧ sat E w' (getA b (g.step m).1 :: memA bm (g.step m).2 :: L) := by
  obtain ⟨bs, tv, h⟩ := getA_open h
  rw [ht] at h
  obtain ⟨bt, rfl, h⟩ := takeO_some (h.pick 2 rfl)
  replace h : sat E w (takeA bt t :: getP b bs (.pointer (some ⟨bt, 0, none⟩)) g :: snapA bs g.snap :: memA bm m :: L) := h
  have K := Lib.hid (h.pick 2 rfl |>.pick 2 rfl)
  clear h
  have K1 : sat E w (getP b bs (.pointer (some ⟨bt, 0, none⟩)) g :: snapA bs g.snap :: takeA bt t :: memA bm m :: L) := K.out
  clear K
  have K := Lib.hid K1
  clear K1
  have a0 := K.out.rd 0 rfl; have l0 := K.out.ltp 0 rfl
  have c0 : (g.phase == 0) = true := by simpa using hp
  have TS := fun w (h : sat E w (takeA bt t :: memA bm m :: getP b bs (.pointer (some ⟨bt, 0, none⟩)) g :: snapA bs g.snap :: L)) => Lib.hid (kstep_calls bt bm t m (ho.take t ht) hroom h)
  have e : g.step m = (if (t.step m).1.phase = 1 then { g with take := some (t.step m).1, value := (t.step m).1.get, phase := 1 } else if (t.step m).1.phase = 2 then { g with tries := g.tries + 1, take := none, snap := SnapM.new g.conf g.who g.start } else { g with take := some (t.step m).1 }, (t.step m).2) := by
    unfold GetM.step
    rw [if_neg (by simpa using hp), ht]
  rw [e]
  generalize t.step m = r at *
  dsimp only
  have TV := fun w (M : List SA) (h : sat E w (takeA bt r.1 :: M)) => Lib.hid (tvalue_calls bt r.1 h)
  have SN := fun w (L : List SA) (h : sat E w L) => Lib.hid (snapnew_calls g.conf ho.conf g.who g.start h)
  have t0 := ho.tries0
  have v1 : IntKind.i64.wrap (g.tries + 1) = g.tries + 1 := wi (by omega) (by omega)
  have w1' : wrap64 (g.tries + 1) = g.tries + 1 := w64 (by omega) (by omega)
  clear ho e ht hp
  by_cases h1 : r.1.phase = 1
  · rw [if_pos h1]
    have c1 : (r.1.phase == 1) = true := by simpa using h1
    clear h1
    go_enter Tryz.func54, Tryz.ntmps54
    go_wp2_with (first | (go_at_call 82; (with_reducible refine ((TS _ (show sat E _ _ from by iterate 6 (try (with_reducible first | exact K.out | apply sat.alloc_any | apply sat.drew | apply sat.drewN))).cdab).out).mono ?_); rintro e w1 ⟨rfl, K1⟩; replace K1 := K1.uncdab; have K2 := Lib.hid K1; clear K1 K; (try clear a0); (try clear l0); (try clear a1); (try clear l1); (try clear a2); (try clear l2); have K := K2; clear K2; have a0 := K.out.rd 0 rfl; have l0 := K.out.ltp 0 rfl) | (go_at_call 83; (with_reducible refine (TV _ _ (K.out.pick 2 rfl)).out.mono ?_); rintro e w1 ⟨rfl, rfl⟩) | ((with_reducible refine at_store ?_); refine st_store 0 K.out rfl rfl rfl rfl ?_ ?_ ?_ ?_; (· kernel_rfl); (· simp); (· simp [Value.oneCell']); intro w1 K1; simp only [List.set, putL] at K1; have K2 := Lib.hid K1; clear K1 K; (try clear a0); (try clear l0); (try clear a1); (try clear l1); (try clear a2); (try clear l2); have K := K2; clear K2; have a0 := K.out.rd 0 rfl; have l0 := K.out.ltp 0 rfl))
    go_ret
    exact ⟨rfl, getA_shut (bs := bs) (tv := .pointer (some ⟨bt, 0, none⟩)) ((takeO_put (K.out.pick 2 rfl)).pick 2 rfl |>.pick 2 rfl)⟩
  · have c1 : (r.1.phase == 1) = false := by simpa using h1
    rw [if_neg h1]
    by_cases h2 : r.1.phase = 2
    · rw [if_pos h2]
      have c2 : (r.1.phase == 2) = true := by simpa using h2
      clear h1 h2
      go_enter Tryz.func54, Tryz.ntmps54
      go_wp2_with (first | (go_at_call 82; (with_reducible refine ((TS _ (show sat E _ _ from by iterate 6 (try (with_reducible first | exact K.out | apply sat.alloc_any | apply sat.drew | apply sat.drewN))).cdab).out).mono ?_); rintro e w1 ⟨rfl, K1⟩; replace K1 := K1.uncdab; have K2 := Lib.hid K1; clear K1 K; (try clear a0); (try clear l0); (try clear a1); (try clear l1); (try clear a2); (try clear l2); have K := K2; clear K2; have a0 := K.out.rd 0 rfl; have l0 := K.out.ltp 0 rfl) | ((with_reducible refine at_store ?_); refine st_store 0 K.out rfl rfl rfl rfl ?_ ?_ ?_ ?_; (· kernel_rfl); (· simp); (· simp [Value.oneCell']); intro w1 K1; simp only [List.set, putL] at K1; have K2 := Lib.hid K1; clear K1 K; (try clear a0); (try clear l0); (try clear a1); (try clear l1); (try clear a2); (try clear l2); have K := K2; clear K2; have a0 := K.out.rd 0 rfl; have l0 := K.out.ltp 0 rfl))
      refine wp_region_noPanic ?_
      refine wp_region_held_drew (S := (fun w' => w'.cell? ⟨b, 0, none⟩ = some (.int .i64 g.conf.th) ∧ w'.cell? ⟨b, 1, none⟩ = some (.int .i64 g.conf.sl) ∧ w'.cell? ⟨b, 2, none⟩ = some (.int .i64 g.conf.src) ∧ w'.cell? ⟨b, 3, none⟩ = some (.int .i64 g.conf.dl) ∧ w'.cell? ⟨b, 4, none⟩ = some (.int .i64 g.who) ∧ w'.cell? ⟨b, 6, none⟩ = some (.int .i64 g.start))) (by kernel_rfl) ?_ (fun hHeld => ?_)
      · ((try dsimp only); (first | exact gS K.out | exact gS K.out.drew | exact gS (sat.drop (A := snapA gs (SnapM.new g.conf g.who g.start)) K.out) | exact gS (sat.drop (A := snapA gs (SnapM.new g.conf g.who g.start)) K.out.drew)))
      refine tk 0 (some 33) ?_
      (try simp only [Act.put, p0, p1, p2])
      refine tk 1 (some 34) ?_
      (try simp only [Act.put, p0, p1, p2])
      refine tk 2 (some 35) ?_
      (try simp only [Act.put, p0, p1, p2])
      refine tk 3 (some 36) ?_
      (try simp only [Act.put, p0, p1, p2])
      refine tk 4 (some 37) ?_
      (try simp only [Act.put, p0, p1, p2])
      refine tk 5 (some 38) ?_
      (try simp only [Act.put, p0, p1, p2])
      refine tk 6 (some 39) ?_
      (try simp only [Act.put, p0, p1, p2])
      refine tk 7 (some 40) ?_
      (try simp only [Act.put, p0, p1, p2])
      refine tk 8 (some 41) ?_
      (try simp only [Act.put, p0, p1, p2])
      refine tk 9 (some 42) ?_
      (try simp only [Act.put, p0, p1, p2])
      refine tk 10 (some 43) ?_
      (try simp only [Act.put, p0, p1, p2])
      refine tk 11 (some 44) ?_
      (try simp only [Act.put, p0, p1, p2])
      refine tk 12 (some 45) ?_
      (try simp only [Act.put, p0, p1, p2])
      refine tk 13 (some 46) ?_
      (try simp only [Act.put, p0, p1, p2])
      refine wpAnyH_ready (rs := [14]) (by kernel_rfl) (by simp) ?_
      refine AllReadyH.cons (o := _) rfl (fun kC hkC => ?_) AllReadyH.nil
      go_simp
      (first | (go_at_call 69; (with_reducible refine ((SN _ _ (show sat E _ _ from by first | exact K.out | exact K.out.drew)).out).mono ?_); rintro e w1 ⟨gs, rfl, K1⟩; have K2 := Lib.hid K1; clear K1 K; (try clear a0); (try clear l0); (try clear f0); (try clear a1); (try clear l1); (try clear f1); (try clear a2); (try clear l2); (try clear f2); (try clear a3); (try clear l3); (try clear f3); (try clear a4); (try clear l4); (try clear f4); (try clear a5); (try clear l5); (try clear f5); have K := K2; clear K2; (try have a0 := K.out.rd 0 rfl); (try have l0 := K.out.ltp 0 rfl); (try have f0 := K.out.fr 0 rfl); (try have a1 := K.out.rd 1 rfl); (try have l1 := K.out.ltp 1 rfl); (try have f1 := K.out.fr 1 rfl); (try have a2 := K.out.rd 2 rfl); (try have l2 := K.out.ltp 2 rfl); (try have f2 := K.out.fr 2 rfl); (try have a3 := K.out.rd 3 rfl); (try have l3 := K.out.ltp 3 rfl); (try have f3 := K.out.fr 3 rfl)))
      refine shown hkC _ _ (by (try dsimp only); (first | exact gS K.out | exact gS K.out.drew | exact gS (sat.drop (A := snapA gs (SnapM.new g.conf g.who g.start)) K.out) | exact gS (sat.drop (A := snapA gs (SnapM.new g.conf g.who g.start)) K.out.drew))) ?_; clear hkC kC hHeld; intro hHeld
      (try simp only [Act.put, p0, p1, p2])
      refine tk 15 (some 48) ?_
      (try simp only [Act.put, p0, p1, p2])
      refine tk 16 (some 49) ?_
      (try simp only [Act.put, p0, p1, p2])
      refine wpAnyH_ready (rs := [17]) (by kernel_rfl) (by simp) ?_
      refine AllReadyH.cons (o := _) rfl (fun kC hkC => ?_) AllReadyH.nil
      (first | (refine rg_store (E := E) (d := none) 0 (by kernel_rfl) rfl rfl (by first | exact K.out | exact K.out.drew) rfl rfl rfl rfl ?_ ?_ ?_ ?_; (· kernel_rfl); (· simp); (· simp [Value.oneCell']); intro w1 K1; simp only [List.set, putL] at K1; have K2 := Lib.hid K1; clear K1 K; (try clear a0); (try clear l0); (try clear f0); (try clear a1); (try clear l1); (try clear f1); (try clear a2); (try clear l2); (try clear f2); (try clear a3); (try clear l3); (try clear f3); (try clear a4); (try clear l4); (try clear f4); (try clear a5); (try clear l5); (try clear f5); have K := K2; clear K2; (try have a0 := K.out.rd 0 rfl); (try have l0 := K.out.ltp 0 rfl); (try have f0 := K.out.fr 0 rfl); (try have a1 := K.out.rd 1 rfl); (try have l1 := K.out.ltp 1 rfl); (try have f1 := K.out.fr 1 rfl); (try have a2 := K.out.rd 2 rfl); (try have l2 := K.out.ltp 2 rfl); (try have f2 := K.out.fr 2 rfl); (try have a3 := K.out.rd 3 rfl); (try have l3 := K.out.ltp 3 rfl); (try have f3 := K.out.fr 3 rfl)) | (refine rg_store (E := E) (d := none) 1 (by kernel_rfl) rfl rfl (by first | exact K.out | exact K.out.drew) rfl rfl rfl rfl ?_ ?_ ?_ ?_; (· kernel_rfl); (· simp); (· simp [Value.oneCell']); intro w1 K1; simp only [List.set, putL] at K1; have K2 := Lib.hid K1; clear K1 K; (try clear a0); (try clear l0); (try clear f0); (try clear a1); (try clear l1); (try clear f1); (try clear a2); (try clear l2); (try clear f2); (try clear a3); (try clear l3); (try clear f3); (try clear a4); (try clear l4); (try clear f4); (try clear a5); (try clear l5); (try clear f5); have K := K2; clear K2; (try have a0 := K.out.rd 0 rfl); (try have l0 := K.out.ltp 0 rfl); (try have f0 := K.out.fr 0 rfl); (try have a1 := K.out.rd 1 rfl); (try have l1 := K.out.ltp 1 rfl); (try have f1 := K.out.fr 1 rfl); (try have a2 := K.out.rd 2 rfl); (try have l2 := K.out.ltp 2 rfl); (try have f2 := K.out.fr 2 rfl); (try have a3 := K.out.rd 3 rfl); (try have l3 := K.out.ltp 3 rfl); (try have f3 := K.out.fr 3 rfl)) | (refine rg_store (E := E) (d := none) 2 (by kernel_rfl) rfl rfl (by first | exact K.out | exact K.out.drew) rfl rfl rfl rfl ?_ ?_ ?_ ?_; (· kernel_rfl); (· simp); (· simp [Value.oneCell']); intro w1 K1; simp only [List.set, putL] at K1; have K2 := Lib.hid K1; clear K1 K; (try clear a0); (try clear l0); (try clear f0); (try clear a1); (try clear l1); (try clear f1); (try clear a2); (try clear l2); (try clear f2); (try clear a3); (try clear l3); (try clear f3); (try clear a4); (try clear l4); (try clear f4); (try clear a5); (try clear l5); (try clear f5); have K := K2; clear K2; (try have a0 := K.out.rd 0 rfl); (try have l0 := K.out.ltp 0 rfl); (try have f0 := K.out.fr 0 rfl); (try have a1 := K.out.rd 1 rfl); (try have l1 := K.out.ltp 1 rfl); (try have f1 := K.out.fr 1 rfl); (try have a2 := K.out.rd 2 rfl); (try have l2 := K.out.ltp 2 rfl); (try have f2 := K.out.fr 2 rfl); (try have a3 := K.out.rd 3 rfl); (try have l3 := K.out.ltp 3 rfl); (try have f3 := K.out.fr 3 rfl)))
      refine shown hkC _ _ (by (try dsimp only); (first | exact gS K.out | exact gS K.out.drew | exact gS (sat.drop (A := snapA gs (SnapM.new g.conf g.who g.start)) K.out) | exact gS (sat.drop (A := snapA gs (SnapM.new g.conf g.who g.start)) K.out.drew))) ?_; clear hkC kC hHeld; intro hHeld
      (try simp only [Act.put, p0, p1, p2])
      refine tk 18 (some 50) ?_
      (try simp only [Act.put, p0, p1, p2])
      refine tk 19 (some 51) ?_
      (try simp only [Act.put, p0, p1, p2])
      refine wpAnyH_ready (rs := [20]) (by kernel_rfl) (by simp) ?_
      refine AllReadyH.cons (o := _) rfl (fun kC hkC => ?_) AllReadyH.nil
      (first | (refine rg_store (E := E) (d := none) 0 (by kernel_rfl) rfl rfl (by first | exact K.out | exact K.out.drew) rfl rfl rfl rfl ?_ ?_ ?_ ?_; (· kernel_rfl); (· simp); (· simp [Value.oneCell']); intro w1 K1; simp only [List.set, putL] at K1; have K2 := Lib.hid K1; clear K1 K; (try clear a0); (try clear l0); (try clear f0); (try clear a1); (try clear l1); (try clear f1); (try clear a2); (try clear l2); (try clear f2); (try clear a3); (try clear l3); (try clear f3); (try clear a4); (try clear l4); (try clear f4); (try clear a5); (try clear l5); (try clear f5); have K := K2; clear K2; (try have a0 := K.out.rd 0 rfl); (try have l0 := K.out.ltp 0 rfl); (try have f0 := K.out.fr 0 rfl); (try have a1 := K.out.rd 1 rfl); (try have l1 := K.out.ltp 1 rfl); (try have f1 := K.out.fr 1 rfl); (try have a2 := K.out.rd 2 rfl); (try have l2 := K.out.ltp 2 rfl); (try have f2 := K.out.fr 2 rfl); (try have a3 := K.out.rd 3 rfl); (try have l3 := K.out.ltp 3 rfl); (try have f3 := K.out.fr 3 rfl)) | (refine rg_store (E := E) (d := none) 1 (by kernel_rfl) rfl rfl (by first | exact K.out | exact K.out.drew) rfl rfl rfl rfl ?_ ?_ ?_ ?_; (· kernel_rfl); (· simp); (· simp [Value.oneCell']); intro w1 K1; simp only [List.set, putL] at K1; have K2 := Lib.hid K1; clear K1 K; (try clear a0); (try clear l0); (try clear f0); (try clear a1); (try clear l1); (try clear f1); (try clear a2); (try clear l2); (try clear f2); (try clear a3); (try clear l3); (try clear f3); (try clear a4); (try clear l4); (try clear f4); (try clear a5); (try clear l5); (try clear f5); have K := K2; clear K2; (try have a0 := K.out.rd 0 rfl); (try have l0 := K.out.ltp 0 rfl); (try have f0 := K.out.fr 0 rfl); (try have a1 := K.out.rd 1 rfl); (try have l1 := K.out.ltp 1 rfl); (try have f1 := K.out.fr 1 rfl); (try have a2 := K.out.rd 2 rfl); (try have l2 := K.out.ltp 2 rfl); (try have f2 := K.out.fr 2 rfl); (try have a3 := K.out.rd 3 rfl); (try have l3 := K.out.ltp 3 rfl); (try have f3 := K.out.fr 3 rfl)) | (refine rg_store (E := E) (d := none) 2 (by kernel_rfl) rfl rfl (by first | exact K.out | exact K.out.drew) rfl rfl rfl rfl ?_ ?_ ?_ ?_; (· kernel_rfl); (· simp); (· simp [Value.oneCell']); intro w1 K1; simp only [List.set, putL] at K1; have K2 := Lib.hid K1; clear K1 K; (try clear a0); (try clear l0); (try clear f0); (try clear a1); (try clear l1); (try clear f1); (try clear a2); (try clear l2); (try clear f2); (try clear a3); (try clear l3); (try clear f3); (try clear a4); (try clear l4); (try clear f4); (try clear a5); (try clear l5); (try clear f5); have K := K2; clear K2; (try have a0 := K.out.rd 0 rfl); (try have l0 := K.out.ltp 0 rfl); (try have f0 := K.out.fr 0 rfl); (try have a1 := K.out.rd 1 rfl); (try have l1 := K.out.ltp 1 rfl); (try have f1 := K.out.fr 1 rfl); (try have a2 := K.out.rd 2 rfl); (try have l2 := K.out.ltp 2 rfl); (try have f2 := K.out.fr 2 rfl); (try have a3 := K.out.rd 3 rfl); (try have l3 := K.out.ltp 3 rfl); (try have f3 := K.out.fr 3 rfl)))
      refine shown hkC _ _ (by (try dsimp only); (first | exact gS K.out | exact gS K.out.drew | exact gS (sat.drop (A := snapA gs (SnapM.new g.conf g.who g.start)) K.out) | exact gS (sat.drop (A := snapA gs (SnapM.new g.conf g.who g.start)) K.out.drew))) ?_; clear hkC kC hHeld; intro hHeld
      (try simp only [Act.put, p0, p1, p2])
      refine wpAnyH_done (by kernel_rfl) (NoPanic.normal ?_) _
      all_goals
        go_wp2
        go_ret
        refine ⟨rfl, getA_shut (bs := gs) (tv := .pointer none) ?_⟩
        exact (takeO_mk ((K.out.pick 3 rfl).drop.pick 2 rfl).drop |>.pick 1 rfl).pick 2 rfl
    · have c2 : (r.1.phase == 2) = false := by simpa using h2
      rw [if_neg h2]
      clear h1 h2
      go_enter Tryz.func54, Tryz.ntmps54
      go_wp2_with (first | (go_at_call 82; (with_reducible refine ((TS _ (show sat E _ _ from by iterate 6 (try (with_reducible first | exact K.out | apply sat.alloc_any | apply sat.drew | apply sat.drewN))).cdab).out).mono ?_); rintro e w1 ⟨rfl, K1⟩; replace K1 := K1.uncdab; have K2 := Lib.hid K1; clear K1 K; (try clear a0); (try clear l0); (try clear a1); (try clear l1); (try clear a2); (try clear l2); have K := K2; clear K2; have a0 := K.out.rd 0 rfl; have l0 := K.out.ltp 0 rfl) | ((with_reducible refine at_store ?_); refine st_store 0 K.out rfl rfl rfl rfl ?_ ?_ ?_ ?_; (· kernel_rfl); (· simp); (· simp [Value.oneCell']); intro w1 K1; simp only [List.set, putL] at K1; have K2 := Lib.hid K1; clear K1 K; (try clear a0); (try clear l0); (try clear a1); (try clear l1); (try clear a2); (try clear l2); have K := K2; clear K2; have a0 := K.out.rd 0 rfl; have l0 := K.out.ltp 0 rfl))
      go_ret
      exact ⟨rfl, getA_shut (bs := bs) (tv := .pointer (some ⟨bt, 0, none⟩)) ((takeO_put (K.out.pick 2 rfl)).pick 2 rfl |>.pick 2 rfl)⟩
/-- A step of a Get. -/
theorem gstep_calls (b bm : Nat) (g : GetM) (m : MemM) (ho : g.ok) (hps : g.snap.pass < 1000000000) (htr : g.tries < 1000000000) (hroom : m.log.length < 1000000000) (h : sat E w (getA b g :: memA bm m :: L)) :
    Calls Tryz.prog 54 #[.pointer (some ⟨b, 0, none⟩), .pointer (some ⟨bm, 0, none⟩)] w fun e w' => e = .returned (.int .i64 (g.step m).1.phase) ∧ sat E w' (getA b (g.step m).1 :: memA bm (g.step m).2 :: L) := by
  by_cases hp : g.phase = 0
  · cases ht : g.take with
    | none => exact gstep_none b bm g m ho hp ht hps hroom h
    | some t => exact gstep_some b bm g t m ho hp ht htr hroom h
  · have e : g.step m = (g, m) := by unfold GetM.step; rw [if_pos hp]
    rw [e]
    exact gstep_off b bm g m hp h
end
/-! ### What a step of a Get keeps -/
theorem GetM.new_ok {c : ConfM} (hc : c.ok) {who : Int} (h0 : 0 ≤ who) (h1 : who < c.th) (fin start : Int) : (GetM.new c who fin start).ok :=
  ⟨hc, h0, h1, SnapM.new_ok hc h0 h1 start, rfl, rfl, wfs_rep _, (fun t h => by cases h), Int.le_refl _, by show (0 : Int) ≤ _; omega⟩
/-- The conditions, with the number of steps done so far. -/
structure GetM.okn (n : Int) (g : GetM) : Prop where
  ok : g.ok
  pass : g.snap.pass ≤ n
  tries : g.tries ≤ n
  steps : ∀ t, g.take = some t → t.steps ≤ n
structure GetM.kept (n : Int) (g g' : GetM) : Prop where
  okn : g'.okn n
  conf : g'.conf = g.conf
  who : g'.who = g.who
  fin : g'.fin = g.fin
  start : g'.start = g.start
theorem GetM.new_okn {c : ConfM} (hc : c.ok) {who : Int} (h0 : 0 ≤ who) (h1 : who < c.th) (fin start : Int) : (GetM.new c who fin start).okn 0 :=
  ⟨GetM.new_ok hc h0 h1 fin start, Int.le_refl _, Int.le_refl _, (fun t h => by cases h)⟩
theorem GetM.chosen_kept {g : GetM} {n : Int} (h : g.okn n) (hn : 0 ≤ n) : GetM.kept n g g.chosen := by
  have hr := atM_range g.snap.words g.fin
  unfold GetM.chosen
  dsimp only
  split
  · exact ⟨⟨⟨h.ok.conf, h.ok.who0, h.ok.who1, h.ok.snap, h.ok.sc, h.ok.sw, h.ok.words, h.ok.take, h.ok.tries0, h.ok.tries1⟩, h.pass, h.tries, h.steps⟩, rfl, rfl, rfl, rfl⟩
  · rename_i h0
    have hs : 0 ≤ atM g.snap.words g.fin ∧ atM g.snap.words g.fin < g.snap.words.length := by
      rcases hr with ⟨_, e⟩ | ⟨_, e1, e2, _⟩
      · omega
      · exact ⟨e1, e2⟩
    have hl := h.ok.snap.len
    rw [h.ok.sc] at hl
    refine ⟨⟨⟨h.ok.conf, h.ok.who0, h.ok.who1, h.ok.snap, h.ok.sc, h.ok.sw, h.ok.words, fun t ht => ?_, h.ok.tries0, h.ok.tries1⟩, h.pass, h.tries, fun t ht => ?_⟩, rfl, rfl, rfl, rfl⟩
    · simp only [Option.some.injEq] at ht
      subst ht
      exact TakeM.new_ok h.ok.conf h.ok.who0 h.ok.who1 hs.1 (by omega) (wfs_getI h.ok.words _)
    · simp only [Option.some.injEq] at ht
      subst ht
      exact hn
theorem GetM.step_kept {g : GetM} {m : MemM} {n : Int} (h : g.okn n) (h0 : 0 ≤ n) (hn : n < 1000000000) (hm : m.wf) : GetM.kept (n + 1) g (g.step m).1 := by
  have h1 := h.pass
  have h2 := h.tries
  have h3 := h.ok.tries0
  by_cases hp : g.phase = 0
  · cases ht : g.take with
    | none =>
      have e : g.step m = (if (g.snap.step m).1.phase = 1 then ({ g with snap := (g.snap.step m).1 } : GetM).chosen else { g with snap := (g.snap.step m).1 }, (g.snap.step m).2) := by
        unfold GetM.step
        rw [if_neg (by simpa using hp), ht]
      rw [e]
      have hk := SnapM.step_kept h.ok.snap hm h.ok.words (by omega)
      have hg : GetM.okn (n + 1) { g with snap := (g.snap.step m).1 } :=
        ⟨⟨h.ok.conf, h.ok.who0, h.ok.who1, hk.ok, hk.conf.trans h.ok.sc, hk.who.trans h.ok.sw, hk.words, h.ok.take, h3, h.ok.tries1⟩, by have := hk.pass; show (g.snap.step m).1.pass ≤ _; omega, by show g.tries ≤ _; omega, fun t ht => by have := h.steps t ht; omega⟩
      dsimp only
      split
      · have := GetM.chosen_kept hg (by omega)
        exact ⟨this.okn, this.conf, this.who, this.fin, this.start⟩
      · exact ⟨hg, rfl, rfl, rfl, rfl⟩
    | some t =>
      have hk := TakeM.step_kept (m := m) (h.ok.take t ht) (by have := h.steps t ht; omega)
      have hs := h.steps t ht
      have hks := hk.steps
      have e : g.step m = (if (t.step m).1.phase = 1 then { g with take := some (t.step m).1, value := (t.step m).1.get, phase := 1 } else if (t.step m).1.phase = 2 then { g with tries := g.tries + 1, take := none, snap := SnapM.new g.conf g.who g.start } else { g with take := some (t.step m).1 }, (t.step m).2) := by
        unfold GetM.step
        rw [if_neg (by simpa using hp), ht]
      rw [e]
      dsimp only
      split
      · refine ⟨⟨⟨h.ok.conf, h.ok.who0, h.ok.who1, h.ok.snap, h.ok.sc, h.ok.sw, h.ok.words, fun t' ht' => ?_, h3, h.ok.tries1⟩, by show g.snap.pass ≤ _; omega, by show g.tries ≤ _; omega, fun t' ht' => ?_⟩, rfl, rfl, rfl, rfl⟩
        · simp only [Option.some.injEq] at ht'; subst ht'; exact hk.ok
        · simp only [Option.some.injEq] at ht'; subst ht'; omega
      · split
        · refine ⟨⟨⟨h.ok.conf, h.ok.who0, h.ok.who1, SnapM.new_ok h.ok.conf h.ok.who0 h.ok.who1 g.start, rfl, rfl, wfs_rep _, (fun t' ht' => by cases ht'), by show 0 ≤ g.tries + 1; omega, by show g.tries + 1 ≤ _; omega⟩, by show (0 : Int) ≤ _; omega, by show g.tries + 1 ≤ _; omega, (fun t' ht' => by cases ht')⟩, rfl, rfl, rfl, rfl⟩
        · refine ⟨⟨⟨h.ok.conf, h.ok.who0, h.ok.who1, h.ok.snap, h.ok.sc, h.ok.sw, h.ok.words, fun t' ht' => ?_, h3, h.ok.tries1⟩, by show g.snap.pass ≤ _; omega, by show g.tries ≤ _; omega, fun t' ht' => ?_⟩, rfl, rfl, rfl, rfl⟩
          · simp only [Option.some.injEq] at ht'; subst ht'; exact hk.ok
          · simp only [Option.some.injEq] at ht'; subst ht'; omega
  · have e : g.step m = (g, m) := by unfold GetM.step; rw [if_pos hp]
    rw [e]
    exact ⟨⟨h.ok, by show g.snap.pass ≤ _; omega, by show g.tries ≤ _; omega, fun t ht => by have := h.steps t ht; omega⟩, rfl, rfl, rfl, rfl⟩
end Go.Proofs.YtegdhojhnmgjgaaGreat
/- A Get that runs by itself: plain lemmas on the model. -/
namespace Go.Proofs.YtegdhojhnmgjgaaGreat
/-! ### Cells -/
theorem getI_setI_of (l : List Int) (k x : Int) (hk : 0 ≤ k) (hl : k < l.length) : getI (setI l k x) k = x := by
  have h : k.toNat < l.length := by omega
  simp [getI, setI, List.getD_eq_getElem?_getD, h]
theorem getI_setI_ne (l : List Int) (k a x : Int) (hk : 0 ≤ k) (ha : 0 ≤ a) (h : a ≠ k) : getI (setI l k x) a = getI l a := by
  have : k.toNat ≠ a.toNat := by omega
  simp [getI, setI, List.getD_eq_getElem?_getD, List.getElem?_set_ne this]
theorem setI_self (l : List Int) (k : Int) : setI l k (getI l k) = l := by
  unfold setI getI
  rcases Nat.lt_or_ge k.toNat l.length with h | h
  · rw [List.getD_eq_getElem?_getD, List.getElem?_eq_getElem h]
    simp
  · rw [List.set_eq_of_length_le h]
theorem setI_length (l : List Int) (k x : Int) : (setI l k x).length = l.length := by simp [setI]
theorem touch_in_cells {m : MemM} {cell : Int} (h : m.has cell) (who op old next : Int) : (m.touch who op cell old next).cells = setI m.cells cell (opNew op (getI m.cells cell) old next) := by
  unfold MemM.touch; rw [if_pos h]
theorem touch_in_log {m : MemM} {cell : Int} (h : m.has cell) (who op old next : Int) : (m.touch who op cell old next).log.length = m.log.length + 1 := by
  unfold MemM.touch; rw [if_pos h]; simp
theorem load_cells (m : MemM) (who cell old next : Int) : (m.touch who 0 cell old next).cells = m.cells := by
  unfold MemM.touch
  split
  · show setI m.cells cell (getI m.cells cell) = _
    exact setI_self _ _
  · rfl
theorem peek_cells {m m' : MemM} (h : m.cells = m'.cells) (c : Int) : m.peek c = m'.peek c := by
  obtain ⟨cs, lg⟩ := m
  obtain ⟨cs', lg'⟩ := m'
  obtain rfl : cs = cs' := h
  rfl
theorem peek_in {m : MemM} {c : Int} (h : m.has c) : m.peek c = getI m.cells c := if_pos h
theorem has_of {m : MemM} {c : ConfM} (hl : (m.cells.length : Int) = c.cells) {i : Int} (h0 : 0 ≤ i) (h1 : i < c.cells) : m.has i := ⟨h0, by omega⟩
theorem okOf_cells {m m' : MemM} (h : m.cells = m'.cells) (op c old : Int) : m.okOf op c old = m'.okOf op c old := by
  obtain ⟨cs, lg⟩ := m
  obtain ⟨cs', lg'⟩ := m'
  obtain rfl : cs = cs' := h
  rfl
/-! ### What a step touches -/
structure CellBd (c : ConfM) : Prop where
  slot : ∀ s, 0 ≤ s → s < c.all → 0 ≤ s ∧ s < c.cells
  value : ∀ s, 0 ≤ s → s < c.all → 0 ≤ c.value s ∧ c.value s < c.cells
  hazard : ∀ t, 0 ≤ t → t < c.th → 0 ≤ c.hazard t ∧ c.hazard t < c.cells
  number : ∀ t, 0 ≤ t → t < c.th → 0 ≤ c.number t ∧ c.number t < c.cells
theorem cellBd {c : ConfM} (h : c.ok) : CellBd c := by
  have h1 := h.all_bd
  have h2 := h.th1
  constructor <;> intro s a b <;> (first | unfold ConfM.value | unfold ConfM.hazard | unfold ConfM.number | skip) <;> unfold ConfM.cells <;> omega
/-- What holds of the cells behind a step. -/
structure MemM.next (c : ConfM) (m m' : MemM) (k : Nat) : Prop where
  len : m'.cells.length = m.cells.length
  wf : m.wf → m'.wf
  log : m'.log.length = m.log.length + k
theorem next_refl (c : ConfM) (m : MemM) : MemM.next c m m 0 := ⟨rfl, id, rfl⟩
theorem next_touch {c : ConfM} {m : MemM} {cell : Int} (h : m.has cell) (who op old x : Int) (hx : 0 ≤ x ∧ x < 18446744073709551616) : MemM.next c m (m.touch who op cell old x) 1 :=
  ⟨MemM.touch_length _ _ _ _ _ _, fun hw => MemM.touch_wf hw _ _ _ _ _ hx, touch_in_log h _ _ _ _⟩
theorem SnapM.step_next {s : SnapM} {m : MemM} (ho : s.ok) (hl : (m.cells.length : Int) = s.conf.cells) : MemM.next s.conf m (s.step m).2 (if s.phase = 0 then 1 else 0) := by
  by_cases hp : s.phase = 0
  · rw [s.step_eq m hp, if_pos hp]
    have hb := ho.slot_bd
    have hc := (cellBd ho.conf).slot _ hb.1 hb.2
    exact next_touch (has_of hl hc.1 hc.2) _ _ _ _ (by omega)
  · have e : s.step m = (s, m) := by unfold SnapM.step; rw [if_pos hp]
    rw [e, if_neg hp]
    exact next_refl _ _
theorem TakeM.step_next {t : TakeM} {m : MemM} (ho : t.ok) (hl : (m.cells.length : Int) = t.conf.cells) : MemM.next t.conf m (t.step m).2 (if t.phase = 0 then 1 else 0) := by
  have hc := cellBd ho.conf
  have hs := hc.slot _ ho.slot0 ho.slot1
  have hv := hc.value _ ho.slot0 ho.slot1
  have hz := hc.hazard _ ho.who0 ho.who1
  have hal := ho.conf.all_bd
  have h1 := ho.slot0
  have h2 := ho.slot1
  unfold TakeM.step
  by_cases hp : t.phase = 0
  · rw [if_neg (by simpa using hp), if_pos hp]
    split
    · exact next_touch (has_of hl hz.1 hz.2) _ _ _ _ (by omega)
    · dsimp only
      (repeat' split)
      · exact next_touch (has_of hl hz.1 hz.2) _ _ _ _ (by omega)
      · exact next_touch (has_of hl hs.1 hs.2) _ _ _ _ (by omega)
      · exact next_touch (has_of hl hv.1 hv.2) _ _ _ _ (by omega)
      · exact next_touch (has_of hl hs.1 hs.2) _ _ _ _ (pack_bd _)
      · exact next_touch (has_of hl hz.1 hz.2) _ _ _ _ (by omega)
  · rw [if_pos hp, if_neg hp]
    exact next_refl _ _
theorem GetM.step_none {g : GetM} {m : MemM} (hp : g.phase = 0) (ht : g.take = none) : g.step m = (if (g.snap.step m).1.phase = 1 then ({ g with snap := (g.snap.step m).1 } : GetM).chosen else { g with snap := (g.snap.step m).1 }, (g.snap.step m).2) := by
  unfold GetM.step
  rw [if_neg (by simpa using hp), ht]
theorem GetM.step_some {g : GetM} {t : TakeM} {m : MemM} (hp : g.phase = 0) (ht : g.take = some t) : g.step m = (if (t.step m).1.phase = 1 then { g with take := some (t.step m).1, value := (t.step m).1.get, phase := 1 } else if (t.step m).1.phase = 2 then { g with tries := g.tries + 1, take := none, snap := SnapM.new g.conf g.who g.start } else { g with take := some (t.step m).1 }, (t.step m).2) := by
  unfold GetM.step
  rw [if_neg (by simpa using hp), ht]
theorem GetM.step_off {g : GetM} {m : MemM} (hp : g.phase ≠ 0) : g.step m = (g, m) := by unfold GetM.step; rw [if_pos hp]
/-- Between its steps a Get's part that is under way is under way. -/
structure GetM.live (g : GetM) : Prop where
  snap : g.phase = 0 → g.take = none → g.snap.phase = 0
  take : ∀ t, g.phase = 0 → g.take = some t → t.phase = 0 ∧ t.conf = g.conf ∧ t.who = g.who
theorem GetM.new_live (c : ConfM) (who fin start : Int) : (GetM.new c who fin start).live := ⟨fun _ _ => rfl, (fun t _ h => by cases h)⟩
theorem TakeM.step_conf (t : TakeM) (m : MemM) : (t.step m).1.conf = t.conf ∧ (t.step m).1.who = t.who ∧ (t.step m).1.slot = t.slot ∧ (t.step m).1.word = t.word := by
  unfold TakeM.step
  split
  · exact ⟨rfl, rfl, rfl, rfl⟩
  · split
    · exact ⟨rfl, rfl, rfl, rfl⟩
    · dsimp only
      (repeat' split) <;> exact ⟨rfl, rfl, rfl, rfl⟩
theorem phase12_snap (s : SnapM) (m : MemM) (h : s.phase = 0) : (s.step m).1.phase = 0 ∨ (s.step m).1.phase = 1 := by
  rw [s.step_eq m h]
  unfold SnapM.rest
  split
  · exact .inl h
  · dsimp only; split <;> simp
theorem phase_take (t : TakeM) (m : MemM) (h : t.phase = 0) : (t.step m).1.phase = 0 ∨ (t.step m).1.phase = 1 ∨ (t.step m).1.phase = 2 := by
  unfold TakeM.step TakeM.fin
  rw [if_neg (by simpa using h)]
  split
  · (try dsimp only); (repeat' split) <;> simp_all
  · (try dsimp only); (repeat' split) <;> simp_all
theorem GetM.step_live {g : GetM} {m : MemM} (h : g.live) : (g.step m).1.live := by
  by_cases hp : g.phase = 0
  · cases ht : g.take with
    | none =>
      rw [GetM.step_none hp ht]
      dsimp only
      have hs := h.snap hp ht
      split
      · rename_i h1
        unfold GetM.chosen
        dsimp only
        split
        · exact ⟨(fun h => by cases h), (fun t h => by cases h)⟩
        · refine ⟨(fun _ h => by cases h), fun t _ h => ?_⟩
          simp only [Option.some.injEq] at h
          subst h
          exact ⟨rfl, rfl, rfl⟩
      · rename_i h1
        refine ⟨fun _ _ => ?_, fun t _ h => ?_⟩
        · rcases phase12_snap g.snap m hs with e | e
          · exact e
          · exact (h1 e).elim
        · rw [ht] at h; cases h
    | some t =>
      rw [GetM.step_some hp ht]
      dsimp only
      have hs := h.take t hp ht
      have hc := TakeM.step_conf t m
      split
      · exact ⟨(fun h => by cases h), (fun t h => by cases h)⟩
      · split
        · exact ⟨fun _ _ => rfl, (fun t _ h => by cases h)⟩
        · rename_i h1 h2
          refine ⟨(fun _ h => by cases h), fun t' _ h => ?_⟩
          simp only [Option.some.injEq] at h
          subst h
          refine ⟨?_, hc.1.trans hs.2.1, hc.2.1.trans hs.2.2⟩
          rcases phase_take t m hs.1 with e | e | e
          · exact e
          · exact (h1 e).elim
          · exact (h2 e).elim
  · rw [GetM.step_off hp]; exact h
theorem GetM.step_next {g : GetM} {m : MemM} (ho : g.ok) (hv : g.live) (hl : (m.cells.length : Int) = g.conf.cells) : MemM.next g.conf m (g.step m).2 (if g.phase = 0 then 1 else 0) := by
  by_cases hp : g.phase = 0
  · rw [if_pos hp]
    cases ht : g.take with
    | none =>
      rw [GetM.step_none hp ht]
      have := SnapM.step_next (m := m) ho.snap (by rw [ho.sc]; exact hl)
      rw [if_pos (hv.snap hp ht)] at this
      exact ⟨this.len, this.wf, this.log⟩
    | some t =>
      rw [GetM.step_some hp ht]
      have hs := hv.take t hp ht
      have := TakeM.step_next (m := m) (ho.take t ht) (by rw [hs.2.1]; exact hl)
      rw [if_pos hs.1] at this
      exact ⟨this.len, this.wf, this.log⟩
  · rw [GetM.step_off hp, if_neg hp]
    exact next_refl _ _
/-! ### Steps one behind the other -/
def GetM.run (g : GetM) (m : MemM) : Nat → GetM × MemM
  | 0 => (g, m)
  | n + 1 => (GetM.run g m n).1.step (GetM.run g m n).2
/-- All that a Get rests on, with its cells. -/
structure GetM.all (k : Int) (g : GetM) (m : MemM) : Prop where
  okn : g.okn k
  live : g.live
  wf : m.wf
  len : (m.cells.length : Int) = g.conf.cells
theorem GetM.all_step {g : GetM} {m : MemM} {k : Int} (h : g.all k m) (h0 : 0 ≤ k) (hk : k < 1000000000) : (g.step m).1.all (k + 1) (g.step m).2 := by
  have hn := GetM.step_next h.okn.ok h.live h.len
  have hs := GetM.step_kept h.okn h0 hk h.wf
  exact ⟨hs.okn, GetM.step_live h.live, hn.wf h.wf, by rw [hn.len, hs.conf]; exact h.len⟩
theorem GetM.all_run {g : GetM} {m : MemM} {k : Int} (h : g.all k m) (h0 : 0 ≤ k) : ∀ n : Nat, k + n ≤ 1000000000 → (GetM.run g m n).1.all (k + n) (GetM.run g m n).2
  | 0, _ => by simpa [GetM.run] using h
  | n + 1, hk => by
    have := GetM.all_step (GetM.all_run h h0 n (by omega)) (by omega) (by omega)
    rw [show (k + ((n + 1 : Nat) : Int)) = k + n + 1 by omega]
    exact this
theorem GetM.run_conf {g : GetM} {m : MemM} {k : Int} (h : g.all k m) (h0 : 0 ≤ k) : ∀ n : Nat, k + n ≤ 1000000000 → (GetM.run g m n).1.conf = g.conf ∧ (GetM.run g m n).1.who = g.who
  | 0, _ => ⟨rfl, rfl⟩
  | n + 1, hk => by
    have h1 := GetM.all_run h h0 n (by omega)
    have h2 := GetM.run_conf h h0 n (by omega)
    have h3 := GetM.step_kept h1.okn (by omega) (by omega) h1.wf
    exact ⟨h3.conf.trans h2.1, h3.who.trans h2.2⟩
theorem GetM.run_log {g : GetM} {m : MemM} {k : Int} (h : g.all k m) (h0 : 0 ≤ k) : ∀ n : Nat, k + n ≤ 1000000000 → (∀ j, j < n → (GetM.run g m j).1.phase = 0) → (GetM.run g m n).2.log.length = m.log.length + n
  | 0, _, _ => rfl
  | n + 1, hk, hp => by
    have h1 := GetM.all_run h h0 n (by omega)
    have h2 := GetM.run_log h h0 n (by omega) (fun j hj => hp j (by omega))
    have h3 := GetM.step_next h1.okn.ok h1.live h1.len
    rw [if_pos (hp n (by omega))] at h3
    have h4 := h3.log
    show ((GetM.run g m n).1.step (GetM.run g m n).2).2.log.length = _
    omega
theorem GetM.run_log_le {g : GetM} {m : MemM} {k : Int} (h : g.all k m) (h0 : 0 ≤ k) : ∀ n : Nat, k + n ≤ 1000000000 → (GetM.run g m n).2.log.length ≤ m.log.length + n
  | 0, _ => Nat.le_refl _
  | n + 1, hk => by
    have h1 := GetM.all_run h h0 n (by omega)
    have h2 := GetM.run_log_le h h0 n (by omega)
    have h3 := (GetM.step_next h1.okn.ok h1.live h1.len).log
    show ((GetM.run g m n).1.step (GetM.run g m n).2).2.log.length ≤ _
    split at h3 <;> omega
theorem GetM.new_all {c : ConfM} (hc : c.ok) {who : Int} (h0 : 0 ≤ who) (h1 : who < c.th) (fin start : Int) {m : MemM} (hw : m.wf) (hl : (m.cells.length : Int) = c.cells) : (GetM.new c who fin start).all 0 m :=
  ⟨GetM.new_okn hc h0 h1 fin start, GetM.new_live c who fin start, hw, hl⟩
end Go.Proofs.YtegdhojhnmgjgaaGreat
/- 'append' within a region whose operations have no order of their own. Plain lemmas; no condition. -/
namespace Go.SepYtegdhojhnmgjgaaGreat
open Go.RowKit
section
variable {E w : World} {L : List SA} {P : Program}
theorem sat.setp (i : Nat) (h : sat E w L) {b t j : Nat} {l : List Value} {v : Value} (e : L[i]? = some (pt b (.cells l.toArray t (0, 0)))) : sat E (w.setCell ⟨b, j, none⟩ v) (L.set i (pt b (.cells (l.set j v).toArray t (0, 0)))) :=
  h.at_part i e (fun _ s => s.set0)
theorem rg_append (i : Nat) {ops : Array Oper} {a : Act} {o : Oper} {Kc : Act → World → Prop} {Q : Exit → Act → World → Prop} {s x : Operand} {t : TypeId}
    (hw : Region.wanted o (yielded ops a.tmps) = true) (ho : o.op = .call { callee := .builtin .append, args := #[s, x], argTypes := #[t, t] })
    (e size bytes : Nat) (ht : P.underlying t = some (.slice e)) (hi : ∃ q z, P.info? e = some q ∧ q.zero = some z ∧ q.size = size ∧ q.bytes = bytes ∧ z.cells.size = size)
    (h : sat E w L) {v : Value} {n : Nat} {xs : List Value} (hs : a.eval s = v) (hL : L[i]? = some (rowA v e size n xs))
    {b off m c : Nat} {news : List Value} (hx : a.eval x = .slice (some ⟨b, off, none⟩) m c) (hl : news.length = m * size) (hnews : ∀ j u, news[j]? = some u → w.cell? ⟨b, off + j, none⟩ = some u) (h1 : ∀ u ∈ news, u.oneCell' = true) (hm : 0 < m)
    (h63 : n + m ≤ maxLen) (hbytes : (n + m) * bytes ≤ 140737488355328)
    (k : ∀ p1 n1 c1 w', sat E w' (L.set i (rowA (.slice p1 n1 c1) e size (n + m) (xs ++ news))) → Kc (a.put o.dst (.slice p1 n1 c1)) w') :
    if Region.wanted o (yielded ops a.tmps) = true then Oper.wp P o a w Kc Q else Kc (a.put o.dst undef) w := by
  rw [if_pos hw]
  obtain ⟨q, z, g1, g2, g3, g4, g5⟩ := hi
  obtain ⟨v', w', hr, h2, h3⟩ := run_append_sat (P := P) (ty := o.type) ht g1 g2 g3 g4 g5 (h.pick i hL) (ad := ⟨b, off, none⟩) hl (fun j u hj => (Addr.add_lit b off j).symm ▸ hnews j u hj) h1 hm (c := c) h63 hbytes
  unfold Oper.wp execOp
  simp only [ho, resolve, invoke, builtin, Sem.run_bind, Sem.run_pure, Result.andThen_ok, List.map_toArray, List.map_cons, List.map_nil, hs, hx, hr]
  obtain ⟨p1, n1, c1, rfl⟩ := h2.row_slice
  exact k p1 n1 c1 w' (h2.perm (set_perm i L hL).symm)
theorem rg_append_part (i : Nat) {ops : Array Oper} {a : Act} {o : Oper} {Kc : Act → World → Prop} {Q : Exit → Act → World → Prop} {s x : Operand} {t : TypeId}
    (hw : Region.wanted o (yielded ops a.tmps) = true) (ho : o.op = .call { callee := .builtin .append, args := #[s, x], argTypes := #[t, t] })
    (e size bytes : Nat) (ht : P.underlying t = some (.slice e)) (hi : ∃ q z, P.info? e = some q ∧ q.zero = some z ∧ q.size = size ∧ q.bytes = bytes ∧ z.cells.size = size)
    (h : sat E w L) {v : Value} {n : Nat} {xs : List Value} (hs : a.eval s = v) (hL : L[i]? = some (rowA v e size n xs))
    {px : Option Addr} {m c : Nat} {news : List Value} (hx : a.eval x = .slice px m c) (hl : news.length = m * size)
    (hnews : 0 < m → ∃ b o, px = some ⟨b, o, none⟩ ∧ ∀ j u, news[j]? = some u → w.cell? ⟨b, o + j, none⟩ = some u) (h1 : ∀ u ∈ news, u.oneCell' = true)
    (h63 : n + m ≤ maxLen) (hbytes : (n + m) * bytes ≤ 140737488355328)
    (k : ∀ p1 n1 c1 w', sat E w' (L.set i (rowA (.slice p1 n1 c1) e size (n + m) (xs ++ news))) → Kc (a.put o.dst (.slice p1 n1 c1)) w') :
    if Region.wanted o (yielded ops a.tmps) = true then Oper.wp P o a w Kc Q else Kc (a.put o.dst undef) w := by
  rcases Nat.eq_zero_or_pos m with rfl | hm
  · obtain rfl : news = [] := List.eq_nil_of_length_eq_zero (by simpa using hl)
    obtain ⟨hxs, hv⟩ := (h.pick i hL).row_open
    have hv' : ∃ p cap, v = .slice p n cap ∧ n ≤ cap := by
      rcases hv with ⟨rfl, rfl, _⟩ | ⟨g, cap, _, rfl, h1, _⟩
      · exact ⟨_, _, rfl, Nat.le_refl _⟩
      · exact ⟨_, _, rfl, h1⟩
    obtain ⟨p, cap, rfl, hnc⟩ := hv'
    obtain ⟨q, z, g1, _⟩ := hi
    have hr := run_append_zero (P := P) (ty := o.type) (w := w) ht g1 (p := p) (px := px) (cx := c) hnc
    have kk := k p n cap w (by rw [List.append_nil, Nat.add_zero, set_self i L hL]; exact h)
    rw [if_pos hw]
    unfold Oper.wp execOp
    simp only [ho, resolve, invoke, builtin, Sem.run_bind, Sem.run_pure, Result.andThen_ok, List.map_toArray, List.map_cons, List.map_nil, hs, hx, hr]
    exact kk
  · obtain ⟨b, o', rfl, hb⟩ := hnews hm
    exact rg_append i hw ho e size bytes ht hi h hs hL hx hl hb h1 hm h63 hbytes k
end
end Go.SepYtegdhojhnmgjgaaGreat
/- A map with whole numbers as elements, made by the call: a part of one's own memory, spoken of by what each key has. Plain lemmas over any program; no condition. -/
namespace Go.SepYtegdhojhnmgjgaaGreat
open Go.RowKit Go.Maps Go.WideElems
section
variable {E w : World} {L : List SA} {P : Program}
/-- What a datum has under each key of the map's type. -/
def Has (P : Program) (k : TypeId) (q : IntKind) (D : DataW Unit) (f : Lit → Option Int) : Prop :=
  IsMap D ∧ ∀ kl, KeysOf P k kl → (f kl = none → Maps.has D kl = false) ∧ ∀ c, f kl = some c → Maps.has D kl = true ∧ ∀ z, D.atKey kl z = .lit (.int q c)
/-- Block b is a map of at most n entries; what it has under each key is f. -/
def mapI (P : Program) (k e : TypeId) (q : IntKind) (b n : Nat) (f : Lit → Option Int) : SA := fun h =>
  ∃ es clock, h b = some (.map es clock) ∧ Fit P k (plainElem (H := Unit) P e) es clock ∧ es.size ≤ n ∧ Has P k q (.map ((es.toList.map (rg P k (plainElem (H := Unit) P e))).foldr DataW.insert [])) f
theorem sat.mapI_owns {k e : TypeId} {q : IntKind} {b n : Nat} {f : Lit → Option Int} (h : sat E w (mapI P k e q b n f :: L)) :
    ∃ o D, sat E w (pt b o :: L) ∧ w.ownsMap P k (plainElem (H := Unit) P e) b n D ∧ Has P k q D f := by
  obtain ⟨es, h1⟩ := sat.ex h
  obtain ⟨clock, h2⟩ := sat.ex h1
  have h3 : sat E w ((fun g => (Fit P k (plainElem (H := Unit) P e) es clock ∧ es.size ≤ n ∧ Has P k q (.map ((es.toList.map (rg P k (plainElem (H := Unit) P e))).foldr DataW.insert [])) f) ∧ pt b (.map es clock) g) :: L) :=
    sat.imp (fun g hg => ⟨hg.2, hg.1⟩) h2
  obtain ⟨⟨F, hs, hf⟩, h4⟩ := sat.pure h3
  exact ⟨_, _, h4, ⟨es, clock, h4.at, F, hs, rfl⟩, hf⟩
theorem sat.mapI_shut {k e : TypeId} {q : IntKind} {b n : Nat} {f : Lit → Option Int} {D : DataW Unit} {o : Obj} (h : sat E w (pt b o :: L)) (ho : w.ownsMap P k (plainElem (H := Unit) P e) b n D) (hf : Has P k q D f) : sat E w (mapI P k e q b n f :: L) := by
  obtain ⟨es, clock, hb, F, hs, rfl⟩ := ho
  have hat := h.at
  rw [hb] at hat
  obtain rfl := Option.some.inj hat
  exact sat.imp (fun g hg => ⟨es, clock, hg, F, hs, hf⟩) h
theorem sat.mapI_new {k e : TypeId} {q : IntKind} (h : sat E w L) : sat E (w.alloc (.map #[] 0)) (mapI P k e q w.heap.size 0 (fun _ => none) :: L) :=
  sat.mapI_shut (h.alloc _) (World.ownsMap_made w P k _) ⟨isMap_empty, fun kl _ => ⟨fun _ => rfl, fun c hc => by cases hc⟩⟩
open Classical in
/-- .. with one key's element turned. -/
noncomputable def updI (f : Lit → Option Int) (kl : Lit) (c : Int) : Lit → Option Int := fun x => if x = kl then some c else f x
theorem updI_same (f : Lit → Option Int) (kl : Lit) (c : Int) : updI f kl c kl = some c := by unfold updI; rw [if_pos rfl]
theorem updI_other (f : Lit → Option Int) (kl : Lit) (c : Int) {x : Lit} (h : x ≠ kl) : updI f kl c x = f x := by unfold updI; rw [if_neg h]
theorem zeroI {e : TypeId} {q : IntKind} (hz : ∀ w : World, (zeroValue e).run P w = .ok (.int q 0) w) (w : World) : (zeroValue e).run P w = .ok (.int q 0) w := hz w
/-- 'm[k]', and 'v, ok := m[k]'. -/
theorem sat.mapI_look {t k e : TypeId} {q : IntKind} {b n : Nat} {f : Lit → Option Int} (h : sat E w (mapI P k e q b n f :: L)) (K : Keyed P k) (ht : P.underlying t = some (.map k e)) (he : P.underlying e = some (.int q)) (hz : ∀ w : World, (zeroValue e).run P w = .ok (.int q 0) w)
    {key : Value} {kl : Lit} (hkey : keyOf P k key = some kl) :
    (Instr.lookup t (.map (some b)) key false).run P w = .ok (.int q ((f kl).getD 0)) w ∧ (Instr.lookup t (.map (some b)) key true).run P w = .ok (.tuple #[.int q ((f kl).getD 0), .bool (f kl).isSome]) w := by
  obtain ⟨o, D, hp, ho, hm, hf⟩ := h.mapI_owns
  have hw0 : (Lit.int q 0).wf = true := by cases q <;> decide
  obtain ⟨c, hrun, hat, hwc⟩ := ho.lookup_int K ht he (hz w) hkey
  obtain ⟨v, ps, hrun2, hv⟩ := ho.look_ok K ht (hz w) (plainElem_int he hw0) hkey
  obtain ⟨c2, rfl, hc2, _⟩ := plainElem_int_inv he hv
  simp only [Prod.mk.injEq] at hc2
  have hc := hc2.1
  rw [hat] at hc
  simp only [DataW.lit.injEq, Lit.int.injEq, true_and] at hc
  subst hc
  have hk := hf kl ⟨key, hkey⟩
  cases hfk : f kl with
  | none =>
    have h0 := hk.1 hfk
    have hz0 := atKey_of_not_has h0 (.lit (.int q 0))
    rw [hat] at hz0
    simp only [DataW.lit.injEq, Lit.int.injEq, true_and] at hz0
    subst hz0
    exact ⟨hrun, by rw [h0] at hrun2; exact hrun2⟩
  | some x =>
    obtain ⟨h1, h2⟩ := hk.2 x hfk
    have hx := h2 (.lit (.int q 0))
    rw [hat] at hx
    simp only [DataW.lit.injEq, Lit.int.injEq, true_and] at hx
    subst hx
    exact ⟨hrun, by rw [h1] at hrun2; exact hrun2⟩
/-- 'm[k] = v'. -/
theorem sat.mapI_put {t k e : TypeId} {q : IntKind} {b n : Nat} {f : Lit → Option Int} (h : sat E w (mapI P k e q b n f :: L)) (K : Keyed P k) (ht : P.underlying t = some (.map k e)) (he : P.underlying e = some (.int q)) (hn : n < maxLen)
    {key : Value} {kl : Lit} (hkey : keyOf P k key = some kl) {c : Int} (hc : (Lit.int q c).wf = true) :
    ∃ w', (Instr.mapUpdate t (.map (some b)) key (.int q c)).run P w = .ok () w' ∧ sat E w' (mapI P k e q b (n + 1) (updI f kl c) :: L) := by
  obtain ⟨o, D, hp, ho, hm, hf⟩ := h.mapI_owns
  obtain ⟨w', hrun, ho', hg⟩ := ho.update K ht hn hkey (plainElem_int he hc)
  obtain ⟨es, clock, hb, F, hs, hD⟩ := ho'
  refine ⟨w', hrun, sat.mapI_shut (hp.turn hg hb) ⟨es, clock, hb, F, hs, hD⟩ ⟨hm.put _ _, fun x hx => ?_⟩⟩
  have hk := K.key hkey
  by_cases e1 : x = kl
  · subst e1
    rw [updI_same]
    refine ⟨fun h0 => (by cases h0), fun c' hc' => ?_⟩
    obtain rfl := Option.some.inj hc'
    exact ⟨has_put_same hm hk _, fun z => atKey_put_same hm hk _ z⟩
  · rw [updI_other _ _ _ e1]
    obtain ⟨h1, h2⟩ := hf x hx
    refine ⟨fun h0 => by rw [has_put_other e1]; exact h1 h0, fun c' hc' => ?_⟩
    obtain ⟨h3, h4⟩ := h2 c' hc'
    exact ⟨by rw [has_put_other e1]; exact h3, fun z => by rw [atKey_put_other e1]; exact h4 z⟩
end
end Go.SepYtegdhojhnmgjgaaGreat
/- Maps in a walk: looked into, written, made, among the parts of one's own memory. Plain lemmas over any program; no condition. -/
namespace Go.SepYtegdhojhnmgjgaaGreat
open Go.RowKit Go.Maps Go.WideElems
section
variable {E w : World} {L : List SA} {P : Program}
theorem sat.mapI_mono {k e : TypeId} {q : IntKind} {b n m : Nat} {f : Lit → Option Int} (h : sat E w (mapI P k e q b n f :: L)) (hn : n ≤ m) : sat E w (mapI P k e q b m f :: L) :=
  sat.imp (fun g ⟨es, clock, h1, h2, h3, h4⟩ => ⟨es, clock, h1, h2, Nat.le_trans h3 hn, h4⟩) h
theorem at_lookup' {ops : Array Oper} {rest : List Oper} {a : Act} {Q : Exit → Act → World → Prop} {dst : Option Tmp} {m x : Operand} {t : TypeId} {c : Bool} {oty : TypeId} {pos : String} {af : Array Edge}
    (h : wpList P ops Q (⟨dst, .lookup t m x c, oty, pos, af, none⟩ :: rest) a w) : wpList P ops Q (⟨dst, .lookup t m x c, oty, pos, af, none⟩ :: rest) a w := h
theorem at_put' {ops : Array Oper} {rest : List Oper} {a : Act} {Q : Exit → Act → World → Prop} {dst : Option Tmp} {m x v : Operand} {t : TypeId} {oty : TypeId} {pos : String} {af : Array Edge}
    (h : wpList P ops Q (⟨dst, .mapUpdate t m x v, oty, pos, af, none⟩ :: rest) a w) : wpList P ops Q (⟨dst, .mapUpdate t m x v, oty, pos, af, none⟩ :: rest) a w := h
theorem at_makeMap' {ops : Array Oper} {rest : List Oper} {a : Act} {Q : Exit → Act → World → Prop} {dst : Option Tmp} {t : TypeId} {oty : TypeId} {pos : String} {af : Array Edge}
    (h : wpList P ops Q (⟨dst, .makeMap t none, oty, pos, af, none⟩ :: rest) a w) : wpList P ops Q (⟨dst, .makeMap t none, oty, pos, af, none⟩ :: rest) a w := h
/-- 'm[k]', m being part number i. -/
theorem st_look (i : Nat) {ops : Array Oper} {rest : List Oper} {a : Act} {Q : Exit → Act → World → Prop} {dst : Option Tmp} {m x : Operand} {t : TypeId} {oty : TypeId} {pos : String} {af : Array Edge}
    {k e : TypeId} {q : IntKind} {b n : Nat} {f : Lit → Option Int} (h : sat E w L) (hL : L[i]? = some (mapI P k e q b n f)) (K : Keyed P k) (ht : P.underlying t = some (.map k e)) (he : P.underlying e = some (.int q)) (hz : ∀ w : World, (zeroValue e).run P w = .ok (.int q 0) w)
    (hm : look a m = some (.map (some b))) {key : Value} {kl : Lit} (hx : look a x = some key) (hkey : keyOf P k key = some kl)
    (r : wpList P ops Q rest (a.put dst (.int q ((f kl).getD 0))) w) : wpList P ops Q (⟨dst, .lookup t m x false, oty, pos, af, none⟩ :: rest) a w := by
  refine wpList_plain rfl fun K' hK' => ?_
  have hr := (sat.mapI_look (h.pick i hL) K ht he hz hkey).1
  unfold Oper.wp execOp
  simp only [look_eval hm, look_eval hx, Sem.run_bind, Sem.run_pure, Result.andThen_ok, hr]
  exact hK' _ _ r
/-- 'v, ok := m[k]'. -/
theorem st_look_ok (i : Nat) {ops : Array Oper} {rest : List Oper} {a : Act} {Q : Exit → Act → World → Prop} {dst : Option Tmp} {m x : Operand} {t : TypeId} {oty : TypeId} {pos : String} {af : Array Edge}
    {k e : TypeId} {q : IntKind} {b n : Nat} {f : Lit → Option Int} (h : sat E w L) (hL : L[i]? = some (mapI P k e q b n f)) (K : Keyed P k) (ht : P.underlying t = some (.map k e)) (he : P.underlying e = some (.int q)) (hz : ∀ w : World, (zeroValue e).run P w = .ok (.int q 0) w)
    (hm : look a m = some (.map (some b))) {key : Value} {kl : Lit} (hx : look a x = some key) (hkey : keyOf P k key = some kl)
    (r : wpList P ops Q rest (a.put dst (.tuple #[.int q ((f kl).getD 0), .bool (f kl).isSome])) w) : wpList P ops Q (⟨dst, .lookup t m x true, oty, pos, af, none⟩ :: rest) a w := by
  refine wpList_plain rfl fun K' hK' => ?_
  have hr := (sat.mapI_look (h.pick i hL) K ht he hz hkey).2
  unfold Oper.wp execOp
  simp only [look_eval hm, look_eval hx, Sem.run_bind, Sem.run_pure, Result.andThen_ok, hr]
  exact hK' _ _ r
/-- 'm[k] = v'. -/
theorem st_put (i : Nat) {ops : Array Oper} {rest : List Oper} {a : Act} {Q : Exit → Act → World → Prop} {dst : Option Tmp} {m x v : Operand} {t : TypeId} {oty : TypeId} {pos : String} {af : Array Edge}
    {k e : TypeId} {q : IntKind} {b n : Nat} {f : Lit → Option Int} (h : sat E w L) (hL : L[i]? = some (mapI P k e q b n f)) (K : Keyed P k) (ht : P.underlying t = some (.map k e)) (he : P.underlying e = some (.int q)) (hn : n < maxLen)
    (hm : look a m = some (.map (some b))) {key : Value} {kl : Lit} (hx : look a x = some key) (hkey : keyOf P k key = some kl) {c : Int} (hv : look a v = some (.int q c)) (hc : (Lit.int q c).wf = true)
    (r : ∀ w', sat E w' (L.set i (mapI P k e q b (n + 1) (updI f kl c))) → wpList P ops Q rest (a.put dst undef) w') : wpList P ops Q (⟨dst, .mapUpdate t m x v, oty, pos, af, none⟩ :: rest) a w := by
  refine wpList_plain rfl fun K' hK' => ?_
  obtain ⟨w', hr, hs⟩ := sat.mapI_put (h.pick i hL) K ht he hn hkey hc
  unfold Oper.wp execOp
  simp only [look_eval hm, look_eval hx, look_eval hv, Sem.run_bind, Sem.run_pure, Result.andThen_ok, hr]
  exact hK' _ _ (r w' (hs.perm (set_perm i L hL).symm))
/-- .. within a region. -/
theorem rg_put (i : Nat) {ops : Array Oper} {a : Act} {o : Oper} {Kc : Act → World → Prop} {Q : Exit → Act → World → Prop} {m x v : Operand} {t : TypeId}
    {k e : TypeId} {q : IntKind} {b n : Nat} {f : Lit → Option Int} (hw : Region.wanted o (yielded ops a.tmps) = true) {d : Option Tmp} (hd : o.dst = d) (ho : o.op = .mapUpdate t m x v) (h : sat E w L) (hL : L[i]? = some (mapI P k e q b n f)) (K : Keyed P k) (ht : P.underlying t = some (.map k e)) (he : P.underlying e = some (.int q)) (hn : n < maxLen)
    (hm : look a m = some (.map (some b))) {key : Value} {kl : Lit} (hx : look a x = some key) (hkey : keyOf P k key = some kl) {c : Int} (hv : look a v = some (.int q c)) (hc : (Lit.int q c).wf = true)
    (r : ∀ w', sat E w' (L.set i (mapI P k e q b (n + 1) (updI f kl c))) → Kc (a.put d undef) w') : if Region.wanted o (yielded ops a.tmps) = true then Oper.wp P o a w Kc Q else Kc (a.put o.dst undef) w := by
  subst hd
  rw [if_pos hw]
  obtain ⟨w', hr, hs⟩ := sat.mapI_put (h.pick i hL) K ht he hn hkey hc
  unfold Oper.wp execOp
  simp only [ho, look_eval hm, look_eval hx, look_eval hv, Sem.run_bind, Sem.run_pure, Result.andThen_ok, hr]
  exact r w' (hs.perm (set_perm i L hL).symm)
/-- 'map[K]V{}': a part in front. -/
theorem st_makeMap {ops : Array Oper} {rest : List Oper} {a : Act} {Q : Exit → Act → World → Prop} {dst : Option Tmp} {t : TypeId} {oty : TypeId} {pos : String} {af : Array Edge}
    (k e : TypeId) (q : IntKind) (h : sat E w L)
    (r : ∀ g w', sat E w' (mapI P k e q g 0 (fun _ => none) :: L) → wpList P ops Q rest (a.put dst (.map (some g))) w') : wpList P ops Q (⟨dst, .makeMap t none, oty, pos, af, none⟩ :: rest) a w := by
  refine wpList_plain rfl fun K' hK' => ?_
  have hr := run_makeMap (P := P) t w
  unfold Oper.wp execOp
  simp only [Sem.run_bind, Sem.run_pure, Result.andThen_ok, Option.map_none, hr]
  exact hK' _ _ (r _ _ h.mapI_new)
/-- A new block of zeros, laid in front. -/
theorem st_allocf {ops : Array Oper} {rest : List Oper} {a : Act} {Q : Exit → Act → World → Prop} {dst : Option Tmp} {el : TypeId} {oty : TypeId} {pos : String} {af : Array Edge}
    (h : sat E w L) {vs : List Value}
    (hr : ∀ w : World, (Instr.alloc el true (.tuple #[])).run P w = .ok (.pointer (some ⟨w.heap.size, 0, none⟩)) (w.alloc (.cells vs.toArray el)))
    (k : ∀ g w', sat E w' (pt g (.cells vs.toArray el (0, 0)) :: L) → wpList P ops Q rest (a.put dst (.pointer (some ⟨g, 0, none⟩))) w') : wpList P ops Q (⟨dst, .alloc el, oty, pos, af, none⟩ :: rest) a w := by
  refine wpList_plain rfl fun K hK => ?_
  unfold Oper.wp execOp
  simp only [Sem.run_bind, hr, Result.andThen_ok, Sem.run_pure]
  exact hK _ _ (k w.heap.size (w.alloc (.cells vs.toArray el)) (h.alloc _))
end
end Go.SepYtegdhojhnmgjgaaGreat
/- Deeds of an argument, as they lie in memory. Plain lemmas; no condition. -/
namespace Go.Proofs.YtegdhojhnmgjgaaGreat
open Go.RowKit Go.SepYtegdhojhnmgjgaaGreat
set_option maxRecDepth 100000
def w64P (i : Int) : Prop := -9223372036854775808 ≤ i ∧ i < 9223372036854775808
def u64P (i : Int) : Prop := 0 ≤ i ∧ i < 18446744073709551616
theorem wf64 {i : Int} (h : w64P i) : (Lit.int .i64 i).wf = true := by
  have e1 : IntKind.i64.min = -9223372036854775808 := by decide
  have e2 : IntKind.i64.max = 9223372036854775807 := by decide
  unfold w64P at h
  simp only [Lit.wf, Bool.and_eq_true, decide_eq_true_eq]
  omega
theorem wfU {i : Int} (h : u64P i) : (Lit.int .u64 i).wf = true := by
  have e1 : IntKind.u64.min = 0 := by decide
  have e2 : IntKind.u64.max = 18446744073709551615 := by decide
  unfold u64P at h
  simp only [Lit.wf, Bool.and_eq_true, decide_eq_true_eq]
  omega
theorem unwfU {i : Int} (h : (Lit.int .u64 i).wf = true) : u64P i := by
  have e1 : IntKind.u64.min = 0 := by decide
  have e2 : IntKind.u64.max = 18446744073709551615 := by decide
  simp only [Lit.wf, Bool.and_eq_true, decide_eq_true_eq] at h
  unfold u64P
  omega
theorem unwf64 {i : Int} (h : (Lit.int .i64 i).wf = true) : w64P i := by
  have e1 : IntKind.i64.min = -9223372036854775808 := by decide
  have e2 : IntKind.i64.max = 9223372036854775807 := by decide
  simp only [Lit.wf, Bool.and_eq_true, decide_eq_true_eq] at h
  unfold w64P
  omega
abbrev DeedM.v (d : DeedM) : List Value := [.int .i64 d.who, .int .i64 d.call.kind, .int .i64 d.call.fin, .int .u64 d.call.value, .int .i64 d.call.start, .int .i64 d.start, .int .i64 d.stop, .bool d.reply.ok, .int .u64 d.reply.value, .int .i64 d.reply.stamp.lo, .int .i64 d.reply.stamp.hi]
/-- Numbers as the program holds them. -/
structure DeedM.wf (d : DeedM) : Prop where
  who : w64P d.who
  value : u64P d.call.value
  start : w64P d.start
  stop : w64P d.stop
  rvalue : u64P d.reply.value
abbrev deedA (b : Nat) (d : DeedM) : SA := pt b (.cells d.v.toArray 51 (0, 0))
/-- The deeds of a slice, in memory that was there. -/
def OldD (w : World) (p : Option Addr) (l : List DeedM) : Prop := ∀ j, (hj : j < l.length) → ∃ b off, p = some ⟨b, off, none⟩ ∧ b < w.heap.size ∧ ∀ i u, (DeedM.v l[j])[i]? = some u → w.cell? ⟨b, off + j * 11 + i, none⟩ = some u
theorem OldD.grown {w w' : World} {p : Option Addr} {l : List DeedM} (h : OldD w p l) (b : Below w.heap.size w w') : OldD w' p l := fun j hj => by
  obtain ⟨c, off, h1, h2, h3⟩ := h j hj
  exact ⟨c, off, h1, Nat.lt_of_lt_of_le h2 b.size, fun i u hi => (b.cell (p := ⟨c, off + j * 11 + i, none⟩) h2).trans (h3 i u hi)⟩
theorem OldD.take {w : World} {p : Option Addr} {l : List DeedM} (h : OldD w p l) (n : Nat) : OldD w p (l.take n) := fun j hj => by
  have hj' : j < l.length := by simp at hj; omega
  obtain ⟨c, off, h1, h2, h3⟩ := h j hj'
  refine ⟨c, off, h1, h2, fun i u hi => h3 i u ?_⟩
  rwa [List.getElem_take] at hi
abbrev deedK : List FK := [.int .i64, .int .i64, .int .i64, .int .u64, .int .i64, .int .i64, .int .i64, .bool, .int .u64, .int .i64, .int .i64]
theorem oldD_of {W : World} {a : Option Addr} {len cap : Nat} {rows : List (List Value)} (h : RowsAt W deedK a len cap rows) :
    ∃ l : List DeedM, l.length = len ∧ (∀ e ∈ l, DeedM.wf e) ∧ OldD W a l := by
  have hk : ∀ r ∈ rows, ∃ v : DeedM, r = DeedM.v v ∧ DeedM.wf v := fun r hr => by
    obtain ⟨n0, v0, rfl, h0, k0⟩ := okAll_int (h.ok r hr)
    obtain ⟨n1, v1, rfl, h1, k1⟩ := okAll_int k0
    obtain ⟨n2, v2, rfl, h2, k2⟩ := okAll_int k1
    obtain ⟨n3, v3, rfl, h3, k3⟩ := okAll_int k2
    obtain ⟨n4, v4, rfl, h4, k4⟩ := okAll_int k3
    obtain ⟨n5, v5, rfl, h5, k5⟩ := okAll_int k4
    obtain ⟨n6, v6, rfl, h6, k6⟩ := okAll_int k5
    obtain ⟨n7, v7, rfl, k7⟩ := okAll_bool k6
    obtain ⟨n8, v8, rfl, h8, k8⟩ := okAll_int k7
    obtain ⟨n9, v9, rfl, h9, k9⟩ := okAll_int k8
    obtain ⟨n10, v10, rfl, h10, k10⟩ := okAll_int k9
    obtain rfl := okAll_nil k10
    exact ⟨⟨n0, ⟨n1, n2, n3, n4⟩, n5, n6, ⟨n7, n8, ⟨n9, n10⟩⟩⟩, rfl, ⟨unwf64 h0, unwfU h3, unwf64 h5, unwf64 h6, unwfU h8⟩⟩
  have hw : ∃ l : List DeedM, rows = l.map DeedM.v ∧ ∀ v ∈ l, DeedM.wf v := by
    have key : ∀ rs : List (List Value), (∀ r ∈ rs, ∃ v : DeedM, r = DeedM.v v ∧ DeedM.wf v) → ∃ l : List DeedM, rs = l.map DeedM.v ∧ ∀ v ∈ l, DeedM.wf v := by
      intro rs
      induction rs with
      | nil => exact fun _ => ⟨[], rfl, by simp⟩
      | cons r rs ih =>
        intro hr
        obtain ⟨v, rfl, hn⟩ := hr r List.mem_cons_self
        obtain ⟨ws, rfl, hws⟩ := ih (fun r h => hr r (List.mem_cons_of_mem _ h))
        refine ⟨v :: ws, rfl, fun x hx => ?_⟩
        rcases List.mem_cons.1 hx with rfl | hx
        · exact hn
        · exact hws x hx
    exact key rows hk
  obtain ⟨l, rfl, hwf⟩ := hw
  have hlen : l.length = len := by simpa using h.length
  refine ⟨l, hlen, hwf, fun j hj => ?_⟩
  cases a with
  | none => have := h.nil rfl; omega
  | some x =>
    have hc : ∀ i, (hi : i < l.length) → ∀ k u, (DeedM.v l[i])[k]? = some u → W.cell? (x.add (i * 11 + k)) = some u := fun i hi k u hu =>
      h.cell x rfl i k u (DeedM.v l[i]) (by rw [List.getElem?_map, List.getElem?_eq_getElem hi]; rfl) hu
    have h0 := hc 0 (by omega) 0 _ rfl
    have hs : x.spot = none := World.cell?_spot (by simpa [Addr.add] using h0)
    obtain ⟨b, o, sp⟩ := x
    simp only at hs
    subst hs
    have hj' := hc j hj
    refine ⟨b, o, rfl, ?_, fun i u hi => ?_⟩
    · have hj0 := hj' 0 _ rfl
      rw [Addr.add_lit] at hj0
      rcases Nat.lt_or_ge b W.heap.size with h | h
      · exact h
      · simp [World.cell?, Array.getElem?_eq_none h] at hj0
    · have := hj' i u hi
      rw [Addr.add_lit] at this
      rw [Nat.add_assoc]
      exact this
end Go.Proofs.YtegdhojhnmgjgaaGreat
