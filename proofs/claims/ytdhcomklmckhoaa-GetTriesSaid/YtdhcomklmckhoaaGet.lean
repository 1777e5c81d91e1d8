/- What stands at an end is taken (package get): what each of its functions does. Conditions: a Right layout, a thread of it, room for what is noted. -/
import Derived.Test.YtdhcomklmckhoaaOk
import Derived.Test.YtdhcomklmckhoaaPickAt
namespace Go.Proofs.Ytdhcomklmckhoaa
open Go.RowKit Go.SepYtdhcomklmckhoaa
set_option linter.unusedSimpArgs false
set_option linter.unusedVariables false
set_option maxRecDepth 100000
set_option maxHeartbeats 1000000
abbrev GetM.v (g : GetM) (bs : Nat) (tv : Value) : List Value := [.int .i64 g.conf.th, .int .i64 g.conf.sl, .int .i64 g.conf.src, .int .i64 g.conf.dl, .int .i64 g.who, .int .i64 g.fin, .int .i64 g.start, .pointer (some ⟨bs, 0, none⟩), tv, .int .i64 g.tries, .int .u64 g.value, .int .i64 g.phase]
abbrev getP (b bs : Nat) (tv : Value) (g : GetM) : SA := pt b (.cells (g.v bs tv).toArray 95 (0, 0))
def takeO (v : Value) : Option TakeM → SA
  | none => fun h => v = .pointer none ∧ ∀ b, h b = none
  | some t => fun h => ∃ b : Nat, v = .pointer (some ⟨b, 0, none⟩) ∧ takeA b t h
def getA (b : Nat) (g : GetM) : SA := fun h => ∃ (bs : Nat) (tv : Value), bag [getP b bs tv g, snapA bs g.snap, takeO tv g.take] h
structure GetM.ok (g : GetM) : Prop where
  conf : g.conf.ok
  who0 : 0 ≤ g.who
  who1 : g.who < g.conf.th
  snap : g.snap.ok
  sc : g.snap.conf = g.conf
  sw : g.snap.who = g.who
  words : wfs g.snap.words
  take : ∀ t, g.take = some t → t.ok
  tries0 : 0 ≤ g.tries
  tries1 : g.tries ≤ 1000000000
section
variable {E w : World} {L : List SA}
theorem _root_.Go.SepYtdhcomklmckhoaa.sat.emp {A : SA} (h : sat E w L) (e : ∀ g, (∀ b, g b = none) → A g) : sat E w (A :: L) := by
  obtain ⟨b, g, x, y⟩ := h
  exact ⟨b, g, ⟨fun _ => none, g, fun _ => .inl rfl, (both_none_left (fun _ => rfl)).symm, e _ (fun _ => rfl), x⟩, y⟩
theorem takeO_none {v : Value} (h : sat E w (takeO v none :: L)) : v = .pointer none ∧ sat E w L := by
  have h' : sat E w ((fun g => v = .pointer none ∧ ∀ b, g b = none) :: L) := h
  obtain ⟨e, h'⟩ := h'.pure
  exact ⟨e, h'.drop⟩
theorem takeO_mk (h : sat E w L) : sat E w (takeO (.pointer none) none :: L) := h.emp (fun g hg => ⟨rfl, hg⟩)
theorem takeO_some {v : Value} {t : TakeM} (h : sat E w (takeO v (some t) :: L)) : ∃ b : Nat, v = .pointer (some ⟨b, 0, none⟩) ∧ sat E w (takeA b t :: L) := by
  have h' : sat E w ((fun g => ∃ b : Nat, v = .pointer (some ⟨b, 0, none⟩) ∧ takeA b t g) :: L) := h
  obtain ⟨b, h'⟩ := h'.ex
  obtain ⟨e, h'⟩ := h'.pure
  exact ⟨b, e, h'⟩
theorem takeO_put {b : Nat} {t : TakeM} (h : sat E w (takeA b t :: L)) : sat E w (takeO (.pointer (some ⟨b, 0, none⟩)) (some t) :: L) :=
  sat.mkex (P := fun b' g => (Value.pointer (some ⟨b, 0, none⟩)) = .pointer (some ⟨b', 0, none⟩) ∧ takeA b' t g) b (sat.mkpure rfl h)
theorem getA_open {b : Nat} {g : GetM} (h : sat E w (getA b g :: L)) : ∃ (bs : Nat) (tv : Value), sat E w (getP b bs tv g :: snapA bs g.snap :: takeO tv g.take :: L) := by
  obtain ⟨bs, h⟩ := h.ex
  obtain ⟨tv, h⟩ := h.ex
  exact ⟨bs, tv, h.unbag⟩
theorem getA_shut {b bs : Nat} {tv : Value} {g : GetM} (h : sat E w (getP b bs tv g :: snapA bs g.snap :: takeO tv g.take :: L)) : sat E w (getA b g :: L) :=
  sat.mkex bs (sat.mkex tv (sat.bag (M := [_, _, _]) h))
theorem oldU_pt {g t : Nat} {l : List Int} (h : sat E w (pt g (.cells (u64s l).toArray t (0, 0)) :: L)) : OldU w (some ⟨g, 0, none⟩) l := fun j hj => ⟨g, 0, rfl, h.lt, by rw [Nat.zero_add, h.rd 0 rfl]; simp [u64s, hj]⟩
section
variable {A B C D : SA}
theorem _root_.Go.SepYtdhcomklmckhoaa.sat.bca (h : sat E w (A :: B :: C :: L)) : sat E w (B :: C :: A :: L) := (h.pick 2 rfl).pick 2 rfl
theorem _root_.Go.SepYtdhcomklmckhoaa.sat.unbca (h : sat E w (B :: C :: A :: L)) : sat E w (A :: B :: C :: L) := h.pick 2 rfl
end
theorem gphase_calls (b : Nat) (g : GetM) (h : sat E w (getA b g :: L)) :
    Calls Try.prog 20 #[.pointer (some ⟨b, 0, none⟩)] w fun e w' => e = .returned (.int .i64 g.phase) ∧ w = w' := by
  obtain ⟨bs, tv, h⟩ := getA_open h
  have a0 := h.rd 0 rfl
  clear h
  go_enter Try.func20, Try.ntmps20
  go_wp2
  go_ret
  exact ⟨rfl, rfl⟩
theorem gvalue_calls (b : Nat) (g : GetM) (h : sat E w (getA b g :: L)) :
    Calls Try.prog 19 #[.pointer (some ⟨b, 0, none⟩)] w fun e w' => e = .returned (.int .u64 g.value) ∧ w = w' := by
  obtain ⟨bs, tv, h⟩ := getA_open h
  have a0 := h.rd 0 rfl
  clear h
  go_enter Try.func19, Try.ntmps19
  go_wp2
  go_ret
  exact ⟨rfl, rfl⟩
theorem gtries_calls (b : Nat) (g : GetM) (h : sat E w (getA b g :: L)) :
    Calls Try.prog 27 #[.pointer (some ⟨b, 0, none⟩)] w fun e w' => e = .returned (.int .i64 g.tries) ∧ w = w' := by
  obtain ⟨bs, tv, h⟩ := getA_open h
  have a0 := h.rd 0 rfl
  clear h
  go_enter Try.func27, Try.ntmps27
  go_wp2
  go_ret
  exact ⟨rfl, rfl⟩
theorem getnew_calls (c : ConfM) (hc : c.ok) (who fin start : Int) (h : sat E w L) :
    Calls Try.prog 16 #[.agg #[.int .i64 c.th, .int .i64 c.sl, .int .i64 c.src, .int .i64 c.dl], .int .i64 who, .int .i64 fin, .int .i64 start] w (NewA E L (fun g => getA g (GetM.new c who fin start))) := by
  have K := Lib.hid h
  clear h
  have SN := fun w (L : List SA) (h : sat E w L) => Lib.hid (snapnew_calls c hc who start h)
  clear hc
  go_enter Try.func16, Try.ntmps16
  go_wp2_with (first | ((with_reducible refine at_box ?_); refine st_boxf K.out rfl rfl (fun _ => rfl) ?_; intro g1 w1 K1; have K2 := Lib.hid K1; clear K1 K; (try clear a0); (try clear l0); (try clear a1); (try clear l1); (try clear a2); (try clear l2); have K := K2; clear K2; have a0 := K.out.rd 0 rfl; have l0 := K.out.ltp 0 rfl))
  refine wp_region_noPanic ?_
  refine wp_region_held_drew (S := (fun w' => (∀ j, w'.cell? ⟨g1, j, none⟩ = ([.int .i64 c.th, .int .i64 c.sl, .int .i64 c.src, .int .i64 c.dl] : List Value)[j]?))) (by kernel_rfl) ?_ (fun hHeld => ?_)
  · ((try dsimp only); (first | exact sat.rd 1 (by repeat (with_reducible first | exact K.out | apply sat.alloc_any | apply sat.drew | apply sat.drewN)) rfl | exact sat.rd 0 (by repeat (with_reducible first | exact K.out | apply sat.alloc_any | apply sat.drew | apply sat.drewN)) rfl | exact sat.rd 2 (by repeat (with_reducible first | exact K.out | apply sat.alloc_any | apply sat.drew | apply sat.drewN)) rfl))
  refine tk 0 (some 9) ?_
  (try simp only [Act.put, p0, p1, p2])
  refine tk 1 (some 10) ?_
  (try simp only [Act.put, p0, p1, p2])
  refine tk 2 (some 11) ?_
  (try simp only [Act.put, p0, p1, p2])
  refine tk 3 (some 12) ?_
  (try simp only [Act.put, p0, p1, p2])
  refine tk 4 (some 13) ?_
  (try simp only [Act.put, p0, p1, p2])
  refine tk 5 (some 14) ?_
  (try simp only [Act.put, p0, p1, p2])
  refine tk 6 (some 15) ?_
  (try simp only [Act.put, p0, p1, p2])
  refine wpAnyH_ready (rs := [7]) (by kernel_rfl) (by simp) ?_
  refine AllReadyH.cons (o := _) rfl (fun kC hkC => ?_) AllReadyH.nil
  go_simp
  (first | (go_at_call 28; (with_reducible refine ((SN _ _ (show sat E _ _ from by first | exact K.out | exact K.out.drew)).out).mono ?_); rintro e w1 ⟨gs, rfl, K1⟩; have K2 := Lib.hid K1; clear K1 K; (try clear a0); (try clear l0); (try clear f0); (try clear a1); (try clear l1); (try clear f1); (try clear a2); (try clear l2); (try clear f2); (try clear a3); (try clear l3); (try clear f3); (try clear a4); (try clear l4); (try clear f4); (try clear a5); (try clear l5); (try clear f5); have K := K2; clear K2; (try have a0 := K.out.rd 0 rfl); (try have l0 := K.out.ltp 0 rfl); (try have f0 := K.out.fr 0 rfl); (try have a1 := K.out.rd 1 rfl); (try have l1 := K.out.ltp 1 rfl); (try have f1 := K.out.fr 1 rfl); (try have a2 := K.out.rd 2 rfl); (try have l2 := K.out.ltp 2 rfl); (try have f2 := K.out.fr 2 rfl); (try have a3 := K.out.rd 3 rfl); (try have l3 := K.out.ltp 3 rfl); (try have f3 := K.out.fr 3 rfl)))
  refine shown hkC _ _ (by (try dsimp only); (first | exact sat.rd 1 (by repeat (with_reducible first | exact K.out | apply sat.alloc_any | apply sat.drew | apply sat.drewN)) rfl | exact sat.rd 0 (by repeat (with_reducible first | exact K.out | apply sat.alloc_any | apply sat.drew | apply sat.drewN)) rfl | exact sat.rd 2 (by repeat (with_reducible first | exact K.out | apply sat.alloc_any | apply sat.drew | apply sat.drewN)) rfl)) ?_; clear hkC kC hHeld; intro hHeld
  (try simp only [Act.put, p0, p1, p2])
  refine tk 8 (some 17) ?_
  (try simp only [Act.put, p0, p1, p2])
  refine wpAnyH_ready (rs := [9]) (by kernel_rfl) (by simp) ?_
  refine AllReadyH.cons (o := _) rfl (fun kC hkC => ?_) AllReadyH.nil
  (refine rg_box (E := E) (d := some 18) (by kernel_rfl) rfl rfl (by first | exact K.out | exact K.out.drew) rfl rfl (fun _ => rfl) ?_; intro gx w1 K1; have K2 := Lib.hid K1; clear K1 K; (try clear a0); (try clear l0); (try clear f0); (try clear a1); (try clear l1); (try clear f1); (try clear a2); (try clear l2); (try clear f2); (try clear a3); (try clear l3); (try clear f3); (try clear a4); (try clear l4); (try clear f4); (try clear a5); (try clear l5); (try clear f5); have K := K2; clear K2; (try have a0 := K.out.rd 0 rfl); (try have l0 := K.out.ltp 0 rfl); (try have f0 := K.out.fr 0 rfl); (try have a1 := K.out.rd 1 rfl); (try have l1 := K.out.ltp 1 rfl); (try have f1 := K.out.fr 1 rfl); (try have a2 := K.out.rd 2 rfl); (try have l2 := K.out.ltp 2 rfl); (try have f2 := K.out.fr 2 rfl); (try have a3 := K.out.rd 3 rfl); (try have l3 := K.out.ltp 3 rfl); (try have f3 := K.out.fr 3 rfl))
  refine shown hkC _ _ (by (try dsimp only); (first | exact sat.rd 1 (by repeat (with_reducible first | exact K.out | apply sat.alloc_any | apply sat.drew | apply sat.drewN)) rfl | exact sat.rd 0 (by repeat (with_reducible first | exact K.out | apply sat.alloc_any | apply sat.drew | apply sat.drewN)) rfl | exact sat.rd 2 (by repeat (with_reducible first | exact K.out | apply sat.alloc_any | apply sat.drew | apply sat.drewN)) rfl)) ?_; clear hkC kC hHeld; intro hHeld
  (try simp only [Act.put, p0, p1, p2])
  refine tk 10 (some 8) ?_
  (try simp only [Act.put, p0, p1, p2])
  refine wpAnyH_done (by kernel_rfl) (NoPanic.normal ?_) _
  go_wp2
  go_ret
  exact ⟨gx, rfl, getA_shut (bs := gs) (g := GetM.new c who fin start) (((takeO_mk ((K.out.pick 2 rfl).drop)).pick 1 rfl).pick 2 rfl |>.pick 1 rfl)⟩
theorem chS {b bs gw : Nat} {tv : Value} {g : GetM} {slot : Int} {M : List SA} (hg : 0 ≤ slot ∧ slot < g.snap.words.length) (h : sat E w (getP b bs tv g :: u64A gw g.snap.words :: M)) :
    w.cell? ⟨b, 0, none⟩ = some (.int .i64 g.conf.th) ∧ w.cell? ⟨b, 1, none⟩ = some (.int .i64 g.conf.sl) ∧ w.cell? ⟨b, 2, none⟩ = some (.int .i64 g.conf.src) ∧ w.cell? ⟨b, 3, none⟩ = some (.int .i64 g.conf.dl) ∧ w.cell? ⟨b, 4, none⟩ = some (.int .i64 g.who) ∧ w.cell? ⟨gw, slot.toNat, none⟩ = some (.int .u64 (getI g.snap.words slot)) := by
  have := h.rd 0 rfl
  have h2 := h.rd 1 rfl slot.toNat
  rw [getD_cell hg.1 hg.2] at h2
  exact ⟨this 0, this 1, this 2, this 3, this 4, h2⟩
theorem chosen_calls (b bs : Nat) (g : GetM) (hd : g.snap.phase = 1) (hw : wfs g.snap.words) (hl : g.snap.words.length ≤ 4096) (ht : g.take = none) (h : sat E w (getP b bs (.pointer none) g :: snapA bs g.snap :: L)) :
    Calls Try.prog 48 #[.pointer (some ⟨b, 0, none⟩)] w fun e w' => e = .returned (.tuple #[]) ∧ ∃ tv, sat E w' (getP b bs tv g.chosen :: snapA bs g.snap :: takeO tv g.chosen.take :: L) := by
  have K := Lib.hid h
  clear h
  have a0 := K.out.rd 0 rfl; have l0 := K.out.ltp 0 rfl
  have WC := fun w (L : List SA) (h : sat E w (snapA bs g.snap :: L)) => Lib.hid (swords_calls bs g.snap hd hl h)
  have AT := fun w gw (h : OldU w (some ⟨gw, 0, none⟩) g.snap.words) => Lib.hid (at_calls g.snap.words (some ⟨gw, 0, none⟩) g.snap.words.length g.fin w h hw (by omega))
  have hr := atM_range g.snap.words g.fin
  unfold GetM.chosen
  dsimp only
  by_cases h0 : atM g.snap.words g.fin < 0
  · rw [if_pos h0]
    have c0 : decide (atM g.snap.words g.fin < 0) = true := by simpa using h0
    have HT := Lib.hid ht
    clear hd hl hw hr h0 ht
    go_enter Try.func48, Try.ntmps48
    go_wp2_with (first | (go_at_call 31; (with_reducible refine (WC _ _ K.out.swap).out.mono ?_); rintro e w1 ⟨gw, rfl, K1⟩; replace K1 := K1.cab; have K2 := Lib.hid K1; clear K1 K; (try clear a0); (try clear l0); (try clear a1); (try clear l1); (try clear a2); (try clear l2); have K := K2; clear K2; have a0 := K.out.rd 0 rfl; have l0 := K.out.ltp 0 rfl; have a1 := K.out.rd 1 rfl; have l1 := K.out.ltp 1 rfl) | (go_at_call 59; (with_reducible refine ((AT _ gw (oldU_pt ((show sat E _ _ from by iterate 6 (try (with_reducible first | exact K.out | apply sat.alloc_any | apply sat.drew | apply sat.drewN))).pick 1 rfl))).out).mono ?_); rintro e w1 ⟨rfl, hb⟩; have K1 := sat.grown (by repeat (with_reducible first | exact K.out | apply sat.alloc_any | apply sat.drew | apply sat.drewN)) hb; clear hb; have K2 := Lib.hid K1; clear K1 K; (try clear a0); (try clear l0); (try clear a1); (try clear l1); (try clear a2); (try clear l2); have K := K2; clear K2; have a0 := K.out.rd 0 rfl; have l0 := K.out.ltp 0 rfl; have a1 := K.out.rd 1 rfl; have l1 := K.out.ltp 1 rfl) | ((with_reducible refine at_store ?_); refine st_store 0 K.out rfl rfl rfl rfl ?_ ?_ ?_ ?_; (· kernel_rfl); (· simp); (· simp [Value.oneCell']); intro w1 K1; simp only [List.set, putL] at K1; have K2 := Lib.hid K1; clear K1 K; (try clear a0); (try clear l0); (try clear a1); (try clear l1); (try clear a2); (try clear l2); have K := K2; clear K2; have a0 := K.out.rd 0 rfl; have l0 := K.out.ltp 0 rfl; have a1 := K.out.rd 1 rfl; have l1 := K.out.ltp 1 rfl))
    (first | go_end0 | ((try simp only [Exit.inBlock, Exit.then]); refine bodyPost_ret (results_none rfl _ _ _) rfl ?_))
    refine ⟨rfl, .pointer none, ?_⟩
    have K1 := takeO_mk (K.out.pick 1 rfl).drop
    rw [← HT.out] at K1
    exact (K1.pick 1 rfl).pick 2 rfl |>.pick 1 rfl
  · rw [if_neg h0]
    have c0 : decide (atM g.snap.words g.fin < 0) = false := by simpa using h0
    have hs : 0 ≤ atM g.snap.words g.fin ∧ atM g.snap.words g.fin < g.snap.words.length := by
      rcases hr with ⟨_, e⟩ | ⟨_, e1, e2, _⟩
      · omega
      · exact ⟨e1, e2⟩
    obtain ⟨s0, s1⟩ := hs
    have HS := Lib.hid (And.intro s0 s1)
    clear hd hl hw hr h0 ht
    generalize atM g.snap.words g.fin = slot at *
    go_enter Try.func48, Try.ntmps48
    go_wp2_with (first | (go_at_call 31; (with_reducible refine (WC _ _ K.out.swap).out.mono ?_); rintro e w1 ⟨gw, rfl, K1⟩; replace K1 := K1.cab; have K2 := Lib.hid K1; clear K1 K; (try clear a0); (try clear l0); (try clear a1); (try clear l1); (try clear a2); (try clear l2); have K := K2; clear K2; have a0 := K.out.rd 0 rfl; have l0 := K.out.ltp 0 rfl; have a1 := K.out.rd 1 rfl; have l1 := K.out.ltp 1 rfl) | (go_at_call 59; (with_reducible refine ((AT _ gw (oldU_pt ((show sat E _ _ from by iterate 6 (try (with_reducible first | exact K.out | apply sat.alloc_any | apply sat.drew | apply sat.drewN))).pick 1 rfl))).out).mono ?_); rintro e w1 ⟨rfl, hb⟩; have K1 := sat.grown (by repeat (with_reducible first | exact K.out | apply sat.alloc_any | apply sat.drew | apply sat.drewN)) hb; clear hb; have K2 := Lib.hid K1; clear K1 K; (try clear a0); (try clear l0); (try clear a1); (try clear l1); (try clear a2); (try clear l2); have K := K2; clear K2; have a0 := K.out.rd 0 rfl; have l0 := K.out.ltp 0 rfl; have a1 := K.out.rd 1 rfl; have l1 := K.out.ltp 1 rfl))
    refine wp_region_noPanic ?_
    refine wp_region_held_drew (S := (fun w' => w'.cell? ⟨b, 0, none⟩ = some (.int .i64 g.conf.th) ∧ w'.cell? ⟨b, 1, none⟩ = some (.int .i64 g.conf.sl) ∧ w'.cell? ⟨b, 2, none⟩ = some (.int .i64 g.conf.src) ∧ w'.cell? ⟨b, 3, none⟩ = some (.int .i64 g.conf.dl) ∧ w'.cell? ⟨b, 4, none⟩ = some (.int .i64 g.who) ∧ w'.cell? ⟨gw, slot.toNat, none⟩ = some (.int .u64 (getI g.snap.words slot)))) (by kernel_rfl) ?_ (fun hHeld => ?_)
    · ((try dsimp only); (first | (refine chS (E := E) (b := b) (bs := bs) (gw := gw) (g := g) (tv := .pointer none) (slot := slot) (M := snapA bs g.snap :: L) HS.out ?_; first | exact K.out | exact K.out.drew) | (refine chS (E := E) (b := b) (bs := bs) (gw := gw) (g := g) (tv := .pointer none) (slot := slot) (M := snapA bs g.snap :: L) HS.out (sat.drop (A := takeA gt (TakeM.new g.conf g.who slot (getI g.snap.words slot))) ?_); first | exact K.out | exact K.out.drew) | (refine chS (E := E) (b := b) (bs := bs) (gw := gw) (g := g) (tv := .pointer (some ⟨gt, 0, none⟩)) (slot := slot) (M := snapA bs g.snap :: L) HS.out (sat.drop (A := takeA gt (TakeM.new g.conf g.who slot (getI g.snap.words slot))) ?_); first | exact K.out | exact K.out.drew)))
    refine tk 0 (some 20) ?_
    (try simp only [Act.put, p0, p1, p2])
    refine tk 1 (some 21) ?_
    (try simp only [Act.put, p0, p1, p2])
    refine tk 2 (some 22) ?_
    (try simp only [Act.put, p0, p1, p2])
    refine tk 3 (some 23) ?_
    (try simp only [Act.put, p0, p1, p2])
    refine tk 4 (some 24) ?_
    (try simp only [Act.put, p0, p1, p2])
    refine tk 5 (some 25) ?_
    (try simp only [Act.put, p0, p1, p2])
    refine tk 6 (some 26) ?_
    (try simp only [Act.put, p0, p1, p2])
    refine tk 7 (some 27) ?_
    (try simp only [Act.put, p0, p1, p2])
    refine tk 8 (some 28) ?_
    (try simp only [Act.put, p0, p1, p2])
    refine tk 9 (some 29) ?_
    (try simp only [Act.put, p0, p1, p2])
    refine tk 10 (some 30) ?_
    (try simp only [Act.put, p0, p1, p2])
    refine tk 11 (some 31) ?_
    (try simp only [Act.put, p0, p1, p2])
    refine tk 12 (some 32) ?_
    (try simp only [Act.put, p0, p1, p2])
    refine tk 13 (some 33) ?_
    (try simp only [Act.put, p0, p1, p2])
    refine wpAnyH_ready (rs := [14]) (by kernel_rfl) (by simp) ?_
    refine AllReadyH.cons (o := _) rfl (fun kC hkC => ?_) AllReadyH.nil
    go_simp
    (first | (go_at_call 32; (with_reducible refine (takenew_calls g.conf g.who slot (getI g.snap.words slot) (show sat E _ _ from by first | exact K.out | exact K.out.drew)).mono ?_); rintro e w1 ⟨gt, rfl, K1⟩; have K2 := Lib.hid K1; clear K1 K; (try clear a0); (try clear l0); (try clear f0); (try clear a1); (try clear l1); (try clear f1); (try clear a2); (try clear l2); (try clear f2); (try clear a3); (try clear l3); (try clear f3); (try clear a4); (try clear l4); (try clear f4); (try clear a5); (try clear l5); (try clear f5); have K := K2; clear K2; (try have a0 := K.out.rd 0 rfl); (try have l0 := K.out.ltp 0 rfl); (try have f0 := K.out.fr 0 rfl); (try have a1 := K.out.rd 1 rfl); (try have l1 := K.out.ltp 1 rfl); (try have f1 := K.out.fr 1 rfl); (try have a2 := K.out.rd 2 rfl); (try have l2 := K.out.ltp 2 rfl); (try have f2 := K.out.fr 2 rfl); (try have a3 := K.out.rd 3 rfl); (try have l3 := K.out.ltp 3 rfl); (try have f3 := K.out.fr 3 rfl)))
    refine shown hkC _ _ (by (try dsimp only); (first | (refine chS (E := E) (b := b) (bs := bs) (gw := gw) (g := g) (tv := .pointer none) (slot := slot) (M := snapA bs g.snap :: L) HS.out ?_; first | exact K.out | exact K.out.drew) | (refine chS (E := E) (b := b) (bs := bs) (gw := gw) (g := g) (tv := .pointer none) (slot := slot) (M := snapA bs g.snap :: L) HS.out (sat.drop (A := takeA gt (TakeM.new g.conf g.who slot (getI g.snap.words slot))) ?_); first | exact K.out | exact K.out.drew) | (refine chS (E := E) (b := b) (bs := bs) (gw := gw) (g := g) (tv := .pointer (some ⟨gt, 0, none⟩)) (slot := slot) (M := snapA bs g.snap :: L) HS.out (sat.drop (A := takeA gt (TakeM.new g.conf g.who slot (getI g.snap.words slot))) ?_); first | exact K.out | exact K.out.drew))) ?_; clear hkC kC hHeld; intro hHeld
    (try simp only [Act.put, p0, p1, p2])
    refine tk 15 (some 35) ?_
    (try simp only [Act.put, p0, p1, p2])
    refine tk 16 (some 36) ?_
    (try simp only [Act.put, p0, p1, p2])
    refine wpAnyH_ready (rs := [17]) (by kernel_rfl) (by simp) ?_
    refine AllReadyH.cons (o := _) rfl (fun kC hkC => ?_) AllReadyH.nil
    (first | (refine rg_store (E := E) (d := none) 0 (by kernel_rfl) rfl rfl (by first | exact K.out | exact K.out.drew) rfl rfl rfl rfl ?_ ?_ ?_ ?_; (· kernel_rfl); (· simp); (· simp [Value.oneCell']); intro w1 K1; simp only [List.set, putL] at K1; have K2 := Lib.hid K1; clear K1 K; (try clear a0); (try clear l0); (try clear f0); (try clear a1); (try clear l1); (try clear f1); (try clear a2); (try clear l2); (try clear f2); (try clear a3); (try clear l3); (try clear f3); (try clear a4); (try clear l4); (try clear f4); (try clear a5); (try clear l5); (try clear f5); have K := K2; clear K2; (try have a0 := K.out.rd 0 rfl); (try have l0 := K.out.ltp 0 rfl); (try have f0 := K.out.fr 0 rfl); (try have a1 := K.out.rd 1 rfl); (try have l1 := K.out.ltp 1 rfl); (try have f1 := K.out.fr 1 rfl); (try have a2 := K.out.rd 2 rfl); (try have l2 := K.out.ltp 2 rfl); (try have f2 := K.out.fr 2 rfl); (try have a3 := K.out.rd 3 rfl); (try have l3 := K.out.ltp 3 rfl); (try have f3 := K.out.fr 3 rfl)) | (refine rg_store (E := E) (d := none) 1 (by kernel_rfl) rfl rfl (by first | exact K.out | exact K.out.drew) rfl rfl rfl rfl ?_ ?_ ?_ ?_; (· kernel_rfl); (· simp); (· simp [Value.oneCell']); intro w1 K1; simp only [List.set, putL] at K1; have K2 := Lib.hid K1; clear K1 K; (try clear a0); (try clear l0); (try clear f0); (try clear a1); (try clear l1); (try clear f1); (try clear a2); (try clear l2); (try clear f2); (try clear a3); (try clear l3); (try clear f3); (try clear a4); (try clear l4); (try clear f4); (try clear a5); (try clear l5); (try clear f5); have K := K2; clear K2; (try have a0 := K.out.rd 0 rfl); (try have l0 := K.out.ltp 0 rfl); (try have f0 := K.out.fr 0 rfl); (try have a1 := K.out.rd 1 rfl); (try have l1 := K.out.ltp 1 rfl); (try have f1 := K.out.fr 1 rfl); (try have a2 := K.out.rd 2 rfl); (try have l2 := K.out.ltp 2 rfl); (try have f2 := K.out.fr 2 rfl); (try have a3 := K.out.rd 3 rfl); (try have l3 := K.out.ltp 3 rfl); (try have f3 := K.out.fr 3 rfl)) | (refine rg_store (E := E) (d := none) 2 (by kernel_rfl) rfl rfl (by first | exact K.out | exact K.out.drew) rfl rfl rfl rfl ?_ ?_ ?_ ?_; (· kernel_rfl); (· simp); (· simp [Value.oneCell']); intro w1 K1; simp only [List.set, putL] at K1; have K2 := Lib.hid K1; clear K1 K; (try clear a0); (try clear l0); (try clear f0); (try clear a1); (try clear l1); (try clear f1); (try clear a2); (try clear l2); (try clear f2); (try clear a3); (try clear l3); (try clear f3); (try clear a4); (try clear l4); (try clear f4); (try clear a5); (try clear l5); (try clear f5); have K := K2; clear K2; (try have a0 := K.out.rd 0 rfl); (try have l0 := K.out.ltp 0 rfl); (try have f0 := K.out.fr 0 rfl); (try have a1 := K.out.rd 1 rfl); (try have l1 := K.out.ltp 1 rfl); (try have f1 := K.out.fr 1 rfl); (try have a2 := K.out.rd 2 rfl); (try have l2 := K.out.ltp 2 rfl); (try have f2 := K.out.fr 2 rfl); (try have a3 := K.out.rd 3 rfl); (try have l3 := K.out.ltp 3 rfl); (try have f3 := K.out.fr 3 rfl)))
    refine shown hkC _ _ (by (try dsimp only); (first | (refine chS (E := E) (b := b) (bs := bs) (gw := gw) (g := g) (tv := .pointer none) (slot := slot) (M := snapA bs g.snap :: L) HS.out ?_; first | exact K.out | exact K.out.drew) | (refine chS (E := E) (b := b) (bs := bs) (gw := gw) (g := g) (tv := .pointer none) (slot := slot) (M := snapA bs g.snap :: L) HS.out (sat.drop (A := takeA gt (TakeM.new g.conf g.who slot (getI g.snap.words slot))) ?_); first | exact K.out | exact K.out.drew) | (refine chS (E := E) (b := b) (bs := bs) (gw := gw) (g := g) (tv := .pointer (some ⟨gt, 0, none⟩)) (slot := slot) (M := snapA bs g.snap :: L) HS.out (sat.drop (A := takeA gt (TakeM.new g.conf g.who slot (getI g.snap.words slot))) ?_); first | exact K.out | exact K.out.drew))) ?_; clear hkC kC hHeld; intro hHeld
    (try simp only [Act.put, p0, p1, p2])
    refine wpAnyH_done (by kernel_rfl) (NoPanic.normal ?_) _
    (first | go_end0 | ((try simp only [Exit.inBlock, Exit.then]); refine bodyPost_ret (results_none rfl _ _ _) rfl ?_))
    refine ⟨rfl, .pointer (some ⟨gt, 0, none⟩), ?_⟩
    have K1 := takeO_put K.out
    exact (((K1.pick 2 rfl).drop).pick 2 rfl).pick 2 rfl
end
end Go.Proofs.Ytdhcomklmckhoaa
