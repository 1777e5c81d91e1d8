/- A value is put in (package put): what each of its functions does. Conditions: a Right layout, a thread of it, room for what is noted. -/
import Derived.Test.YtdhcomklmckhoaaTickD
import Derived.Test.YtdhcomklmckhoaaClaim
import Derived.Test.YtdhcomklmckhoaaTake
namespace Go.Proofs.Ytdhcomklmckhoaa
open Go.RowKit Go.SepYtdhcomklmckhoaa
set_option linter.unusedSimpArgs false
set_option linter.unusedVariables false
set_option maxRecDepth 100000
set_option maxHeartbeats 1000000
attribute [local go_sem] min2_w max2_w min_w max_w
abbrev PutM.v (p : PutM) (bc bt : Nat) : List Value := [.int .i64 p.conf.th, .int .i64 p.conf.sl, .int .i64 p.conf.src, .int .i64 p.conf.dl, .int .i64 p.who, .int .i64 p.fin, .int .u64 p.value, .pointer (some ⟨bc, 0, none⟩), .pointer (some ⟨bt, 0, none⟩), .bool p.stored, .int .i64 p.phase]
abbrev putP (b bc bt : Nat) (p : PutM) : SA := pt b (.cells (p.v bc bt).toArray 121 (0, 0))
def putA (b : Nat) (p : PutM) : SA := fun h => ∃ bc bt : Nat, bag [putP b bc bt p, claimA bc p.claim, tickA bt p.tick] h
structure PutM.ok (p : PutM) : Prop where
  conf : p.conf.ok
  who0 : 0 ≤ p.who
  who1 : p.who < p.conf.th
  claim : p.claim.ok
  tick : p.tick.ok
  cc : p.claim.conf = p.conf
  cw : p.claim.who = p.who
  value0 : 0 ≤ p.value
  value1 : p.value < 18446744073709551616
  gen0 : 0 ≤ p.claim.word.gen
  gen1 : p.claim.word.gen ≤ 8191
section
variable {E w : World} {L : List SA}
theorem putA_open {b : Nat} {p : PutM} (h : sat E w (putA b p :: L)) : ∃ bc bt : Nat, sat E w (putP b bc bt p :: claimA bc p.claim :: tickA bt p.tick :: L) := by
  obtain ⟨bc, h⟩ := h.ex
  obtain ⟨bt, h⟩ := h.ex
  exact ⟨bc, bt, h.unbag⟩
theorem putA_shut {b bc bt : Nat} {p : PutM} (h : sat E w (putP b bc bt p :: claimA bc p.claim :: tickA bt p.tick :: L)) : sat E w (putA b p :: L) :=
  sat.mkex bc (sat.mkex bt (sat.bag (M := [_, _, _]) h))
section
variable {A B C D : SA}
theorem _root_.Go.SepYtdhcomklmckhoaa.sat.bdac (h : sat E w (A :: B :: C :: D :: L)) : sat E w (B :: D :: A :: C :: L) := (h.pick 3 rfl).pick 2 rfl
theorem _root_.Go.SepYtdhcomklmckhoaa.sat.unbdac (h : sat E w (B :: D :: A :: C :: L)) : sat E w (A :: B :: C :: D :: L) := (((h.pick 1 rfl).pick 3 rfl).pick 2 rfl).pick 3 rfl
theorem _root_.Go.SepYtdhcomklmckhoaa.sat.cdab (h : sat E w (A :: B :: C :: D :: L)) : sat E w (C :: D :: A :: B :: L) := (h.pick 3 rfl).pick 3 rfl
theorem _root_.Go.SepYtdhcomklmckhoaa.sat.uncdab (h : sat E w (C :: D :: A :: B :: L)) : sat E w (A :: B :: C :: D :: L) := (h.pick 3 rfl).pick 3 rfl
theorem _root_.Go.SepYtdhcomklmckhoaa.sat.dabc (h : sat E w (A :: B :: C :: D :: L)) : sat E w (D :: A :: B :: C :: L) := h.pick 3 rfl
theorem _root_.Go.SepYtdhcomklmckhoaa.sat.undabc (h : sat E w (D :: A :: B :: C :: L)) : sat E w (A :: B :: C :: D :: L) := ((h.pick 3 rfl).pick 3 rfl).pick 3 rfl
theorem _root_.Go.SepYtdhcomklmckhoaa.sat.cabd (h : sat E w (A :: B :: C :: D :: L)) : sat E w (C :: A :: B :: D :: L) := h.pick 2 rfl
theorem _root_.Go.SepYtdhcomklmckhoaa.sat.uncabd (h : sat E w (C :: A :: B :: D :: L)) : sat E w (A :: B :: C :: D :: L) := (h.pick 2 rfl).pick 2 rfl
end
theorem putS {b bc bt : Nat} {p p' : PutM} {M : List SA} (h : sat E w (putP b bc bt p' :: M)) (hc : p'.conf = p.conf) (hw : p'.who = p.who) (hf : p'.fin = p.fin) (hv : p'.value = p.value) :
    w.cell? ⟨b, 0, none⟩ = some (.int .i64 p.conf.th) ∧ w.cell? ⟨b, 1, none⟩ = some (.int .i64 p.conf.sl) ∧ w.cell? ⟨b, 2, none⟩ = some (.int .i64 p.conf.src) ∧ w.cell? ⟨b, 3, none⟩ = some (.int .i64 p.conf.dl) ∧ w.cell? ⟨b, 4, none⟩ = some (.int .i64 p.who) ∧ w.cell? ⟨b, 5, none⟩ = some (.int .i64 p.fin) ∧ w.cell? ⟨b, 6, none⟩ = some (.int .u64 p.value) ∧ w.cell? ⟨b, 7, none⟩ = some (.pointer (some ⟨bc, 0, none⟩)) ∧ w.cell? ⟨b, 8, none⟩ = some (.pointer (some ⟨bt, 0, none⟩)) := by
  have := h.rd 0 rfl
  rw [← hc, ← hw, ← hf, ← hv]
  exact ⟨this 0, this 1, this 2, this 3, this 4, this 5, this 6, this 7, this 8⟩
theorem putnew_calls (c : ConfM) (who fin value : Int) (h : sat E w L) :
    Calls Try.prog 55 #[.agg #[.int .i64 c.th, .int .i64 c.sl, .int .i64 c.src, .int .i64 c.dl], .int .i64 who, .int .i64 fin, .int .u64 value] w (NewA E L (fun g => putA g (PutM.new c who fin value))) := by
  have K := Lib.hid h
  clear h
  go_enter Try.func55, Try.ntmps55
  go_wp2_with (first | ((with_reducible refine at_box ?_); refine st_boxf K.out rfl rfl (fun _ => rfl) ?_; intro g1 w1 K1; have K2 := Lib.hid K1; clear K1 K; (try clear a0); (try clear l0); (try clear a1); (try clear l1); (try clear a2); (try clear l2); have K := K2; clear K2; have a0 := K.out.rd 0 rfl; have l0 := K.out.ltp 0 rfl))
  go_region_held3 (fun w' => (∀ j, w'.cell? ⟨g1, j, none⟩ = ([.int .i64 c.th, .int .i64 c.sl, .int .i64 c.src, .int .i64 c.dl] : List Value)[j]?) ∧ g1 < w'.heap.size) (first | exact sat.s0 (by repeat (with_reducible first | exact K.out | apply sat.alloc_any | apply sat.drew | apply sat.drewN)) | go_keep)
    (first | (go_at_call 60; (with_reducible refine (claimnew_calls c who (show sat E _ _ from by iterate 6 (try (with_reducible first | exact K.out | apply sat.alloc_any | apply sat.drew | apply sat.drewN)))).mono ?_); rintro e w1 ⟨gc, rfl, K1⟩; replace K1 := K1.swap; have K2 := Lib.hid K1; clear K1 K; (try clear a0); (try clear l0); (try clear a1); (try clear l1); (try clear a2); (try clear l2); have K := K2; clear K2; have a0 := K.out.rd 0 rfl; have l0 := K.out.ltp 0 rfl) | (go_at_call 61; (with_reducible refine (ticknew_calls c who (show sat E _ _ from by iterate 6 (try (with_reducible first | exact K.out | apply sat.alloc_any | apply sat.drew | apply sat.drewN)))).mono ?_); rintro e w1 ⟨gt, rfl, K1⟩; replace K1 := K1.swap; have K2 := Lib.hid K1; clear K1 K; (try clear a0); (try clear l0); (try clear a1); (try clear l1); (try clear a2); (try clear l2); have K := K2; clear K2; have a0 := K.out.rd 0 rfl; have l0 := K.out.ltp 0 rfl))
  all_goals
    go_wp2
    go_ret
    first
    | exact ⟨_, rfl, putA_shut (p := PutM.new c who fin value) (bc := gc) (bt := gt) (K.out.alloc _).swap.drop⟩
    | exact ⟨_, rfl, putA_shut (p := PutM.new c who fin value) (bc := gc) (bt := gt) (((K.out.alloc _).swap.drop).pick 2 rfl |>.pick 1 rfl)⟩
theorem pfull_calls (b bc bt : Nat) (p : PutM) (f : Int) (h : sat E w (putP b bc bt p :: L)) :
    Calls Try.prog 63 #[.pointer (some ⟨b, 0, none⟩), .int .i64 f] w fun e w' => e = .returned (.tuple #[]) ∧ sat E w' (putP b bc bt { p with phase := if f = 2 then 2 else p.phase } :: L) := by
  have K := Lib.hid h
  clear h
  have a0 := K.out.rd 0 rfl; have l0 := K.out.ltp 0 rfl
  by_cases hf : f = 2
  · rw [if_pos hf]
    have c0 : (f == 2) = true := by simpa using hf
    clear hf
    go_enter Try.func63, Try.ntmps63
    go_wp2_with (first | ((with_reducible refine at_store ?_); refine st_store 0 K.out rfl rfl rfl rfl ?_ ?_ ?_ ?_; (· kernel_rfl); (· simp); (· simp [Value.oneCell']); intro w1 K1; simp only [List.set, putL] at K1; have K2 := Lib.hid K1; clear K1 K; (try clear a0); (try clear l0); (try clear a1); (try clear l1); (try clear a2); (try clear l2); have K := K2; clear K2; have a0 := K.out.rd 0 rfl; have l0 := K.out.ltp 0 rfl))
    (first | go_end0 | ((try simp only [Exit.inBlock, Exit.then]); refine bodyPost_ret (results_none rfl _ _ _) rfl ?_))
    exact ⟨rfl, K.out⟩
  · rw [if_neg hf]
    have c0 : (f == 2) = false := by simpa using hf
    clear hf
    go_enter Try.func63, Try.ntmps63
    go_wp2_with (first | ((with_reducible refine at_store ?_); refine st_store 0 K.out rfl rfl rfl rfl ?_ ?_ ?_ ?_; (· kernel_rfl); (· simp); (· simp [Value.oneCell']); intro w1 K1; simp only [List.set, putL] at K1; have K2 := Lib.hid K1; clear K1 K; (try clear a0); (try clear l0); (try clear a1); (try clear l1); (try clear a2); (try clear l2); have K := K2; clear K2; have a0 := K.out.rd 0 rfl; have l0 := K.out.ltp 0 rfl))
    (first | go_end0 | ((try simp only [Exit.inBlock, Exit.then]); refine bodyPost_ret (results_none rfl _ _ _) rfl ?_))
    exact ⟨rfl, K.out⟩
theorem pstep_off (b bm : Nat) (p : PutM) (m : MemM) (now : Int) (hp : p.phase ≠ 0) (h : sat E w (putA b p :: memA bm m :: L)) :
    Calls Try.prog 56 #[.pointer (some ⟨b, 0, none⟩), .pointer (some ⟨bm, 0, none⟩), .int .i64 now] w fun e w' => e = .returned (.int .i64 p.phase) ∧ sat E w' (putA b p :: memA bm m :: L) := by
  obtain ⟨bc, bt, h⟩ := putA_open h
  have K := Lib.hid h
  clear h
  have a0 := K.out.rd 0 rfl; have l0 := K.out.ltp 0 rfl
  have c0 : (p.phase == 0) = false := by simpa using hp
  clear hp
  go_enter Try.func56, Try.ntmps56
  go_wp2
  go_ret
  exact ⟨rfl, putA_shut K.out⟩
theorem pstep_claim (b bm : Nat) (p : PutM) (m : MemM) (now : Int) (ho : p.ok) (hp : p.phase = 0) (hc : p.claim.phase = 0) (hroom : m.log.length < 1000000000) (h : sat E w (putA b p :: memA bm m :: L)) :
    Calls Try.prog 56 #[.pointer (some ⟨b, 0, none⟩), .pointer (some ⟨bm, 0, none⟩), .int .i64 now] w fun e w' => e = .returned (.int .i64 (if (p.claim.step m).1.phase = 2 then 2 else p.phase)) ∧ sat E w' (putA b { p with claim := (p.claim.step m).1, phase := if (p.claim.step m).1.phase = 2 then 2 else p.phase } :: memA bm (p.claim.step m).2 :: L) := by
  obtain ⟨bc, bt, h⟩ := putA_open h
  have K := Lib.hid h
  clear h
  have a0 := K.out.rd 0 rfl; have l0 := K.out.ltp 0 rfl
  have c0 : (p.phase == 0) = true := by simpa using hp
  have c1 : (p.claim.phase == 0) = true := by simpa using hc
  have CP := fun w (h : sat E w (putP b bc bt p :: claimA bc p.claim :: tickA bt p.tick :: memA bm m :: L)) => Lib.hid (cphase_calls bc p.claim (h.pick 1 rfl))
  have TP := fun w (h : sat E w (putP b bc bt p :: claimA bc p.claim :: tickA bt p.tick :: memA bm m :: L)) => Lib.hid (tphase_calls bt p.tick (h.pick 2 rfl))
  have CS := fun w (h : sat E w (claimA bc p.claim :: memA bm m :: putP b bc bt p :: tickA bt p.tick :: L)) => Lib.hid (cstep_calls bc bm p.claim m ho.claim hroom h)
  obtain ⟨r, hr⟩ : ∃ r, r = p.claim.step m := ⟨_, rfl⟩
  rw [← hr] at CS ⊢
  have PF := fun w (h : sat E w (putP b bc bt p :: claimA bc r.1 :: tickA bt p.tick :: memA bm r.2 :: L)) => Lib.hid (pfull_calls b bc bt p r.1.phase h)
  generalize (if r.1.phase = 2 then 2 else p.phase) = ph at PF ⊢
  clear ho hp hc hr
  go_enter Try.func56, Try.ntmps56
  go_wp2_with (first | (go_at_call 62; (with_reducible refine (CP _ K.out).out.mono ?_); rintro e w1 ⟨rfl, rfl⟩) | (go_at_call 64; (with_reducible refine ((CS _ (show sat E _ _ from by iterate 6 (try (with_reducible first | exact K.out | apply sat.alloc_any | apply sat.drew | apply sat.drewN))).bdac).out).mono ?_); rintro e w1 ⟨rfl, K1⟩; replace K1 := K1.unbdac; have K2 := Lib.hid K1; clear K1 K; (try clear a0); (try clear l0); (try clear a1); (try clear l1); (try clear a2); (try clear l2); have K := K2; clear K2; have a0 := K.out.rd 0 rfl; have l0 := K.out.ltp 0 rfl) | (go_at_call 63; (with_reducible refine ((PF _ (show sat E _ _ from by iterate 6 (try (with_reducible first | exact K.out | apply sat.alloc_any | apply sat.drew | apply sat.drewN)))).out).mono ?_); rintro e w1 ⟨rfl, K1⟩; have K2 := Lib.hid K1; clear K1 K; (try clear a0); (try clear l0); (try clear a1); (try clear l1); (try clear a2); (try clear l2); have K := K2; clear K2; have a0 := K.out.rd 0 rfl; have l0 := K.out.ltp 0 rfl))
  go_ret
  exact ⟨rfl, putA_shut (p := { p with claim := r.1, phase := ph }) K.out⟩
theorem pstep_tick (b bm : Nat) (p : PutM) (m : MemM) (now : Int) (ho : p.ok) (hp : p.phase = 0) (hc : p.claim.phase ≠ 0) (ht : p.tick.phase = 0) (hroom : m.log.length < 1000000000) (h : sat E w (putA b p :: memA bm m :: L)) :
    Calls Try.prog 56 #[.pointer (some ⟨b, 0, none⟩), .pointer (some ⟨bm, 0, none⟩), .int .i64 now] w fun e w' => e = .returned (.int .i64 (if (p.tick.step m now).1.phase = 2 then 2 else p.phase)) ∧ sat E w' (putA b { p with tick := (p.tick.step m now).1, phase := if (p.tick.step m now).1.phase = 2 then 2 else p.phase } :: memA bm (p.tick.step m now).2 :: L) := by
  obtain ⟨bc, bt, h⟩ := putA_open h
  have K := Lib.hid h
  clear h
  have a0 := K.out.rd 0 rfl; have l0 := K.out.ltp 0 rfl
  have c0 : (p.phase == 0) = true := by simpa using hp
  have c1 : (p.claim.phase == 0) = false := by simpa using hc
  have c2 : (p.tick.phase == 0) = true := by simpa using ht
  have CP := fun w (h : sat E w (putP b bc bt p :: claimA bc p.claim :: tickA bt p.tick :: memA bm m :: L)) => Lib.hid (cphase_calls bc p.claim (h.pick 1 rfl))
  have TP := fun w (h : sat E w (putP b bc bt p :: claimA bc p.claim :: tickA bt p.tick :: memA bm m :: L)) => Lib.hid (tphase_calls bt p.tick (h.pick 2 rfl))
  have CS := fun w (h : sat E w (tickA bt p.tick :: memA bm m :: putP b bc bt p :: claimA bc p.claim :: L)) => Lib.hid (tstep_calls bt bm p.tick m now ho.tick hroom h)
  obtain ⟨r, hr⟩ : ∃ r, r = p.tick.step m now := ⟨_, rfl⟩
  rw [← hr] at CS ⊢
  have PF := fun w (h : sat E w (putP b bc bt p :: claimA bc p.claim :: tickA bt r.1 :: memA bm r.2 :: L)) => Lib.hid (pfull_calls b bc bt p r.1.phase h)
  generalize (if r.1.phase = 2 then 2 else p.phase) = ph at PF ⊢
  clear ho hp hc ht hr
  go_enter Try.func56, Try.ntmps56
  go_wp2_with (first | (go_at_call 62; (with_reducible refine (CP _ K.out).out.mono ?_); rintro e w1 ⟨rfl, rfl⟩) | (go_at_call 65; (with_reducible refine (TP _ K.out).out.mono ?_); rintro e w1 ⟨rfl, rfl⟩) | (go_at_call 66; (with_reducible refine ((CS _ (show sat E _ _ from by iterate 6 (try (with_reducible first | exact K.out | apply sat.alloc_any | apply sat.drew | apply sat.drewN))).cdab).out).mono ?_); rintro e w1 ⟨rfl, K1⟩; replace K1 := K1.uncdab; have K2 := Lib.hid K1; clear K1 K; (try clear a0); (try clear l0); (try clear a1); (try clear l1); (try clear a2); (try clear l2); have K := K2; clear K2; have a0 := K.out.rd 0 rfl; have l0 := K.out.ltp 0 rfl) | (go_at_call 63; (with_reducible refine ((PF _ (show sat E _ _ from by iterate 6 (try (with_reducible first | exact K.out | apply sat.alloc_any | apply sat.drew | apply sat.drewN)))).out).mono ?_); rintro e w1 ⟨rfl, K1⟩; have K2 := Lib.hid K1; clear K1 K; (try clear a0); (try clear l0); (try clear a1); (try clear l1); (try clear a2); (try clear l2); have K := K2; clear K2; have a0 := K.out.rd 0 rfl; have l0 := K.out.ltp 0 rfl))
  go_ret
  exact ⟨rfl, putA_shut (p := { p with tick := r.1, phase := ph }) K.out⟩
theorem pstep_store (b bm : Nat) (p : PutM) (m : MemM) (now : Int) (ho : p.ok) (hp : p.phase = 0) (hc : p.claim.phase ≠ 0) (ht : p.tick.phase ≠ 0) (hs : p.stored = false) (hroom : m.log.length < 1000000000) (h : sat E w (putA b p :: memA bm m :: L)) :
    Calls Try.prog 56 #[.pointer (some ⟨b, 0, none⟩), .pointer (some ⟨bm, 0, none⟩), .int .i64 now] w fun e w' => e = .returned (.int .i64 p.phase) ∧ sat E w' (putA b { p with stored := true } :: memA bm (m.touch p.who 1 (p.conf.value p.claim.slot) 0 p.value) :: L) := by
  obtain ⟨bc, bt, h⟩ := putA_open h
  have K := Lib.hid h
  clear h
  have a0 := K.out.rd 0 rfl; have l0 := K.out.ltp 0 rfl
  have c0 : (p.phase == 0) = true := by simpa using hp
  have c1 : (p.claim.phase == 0) = false := by simpa using hc
  have c2 : (p.tick.phase == 0) = false := by simpa using ht
  have B := ho.claim.slot_bd
  rw [ho.cc] at B
  have CP := fun m' w (h : sat E w (putP b bc bt p :: claimA bc p.claim :: tickA bt p.tick :: memA bm m' :: L)) => Lib.hid (cphase_calls bc p.claim (h.pick 1 rfl))
  have TP := fun m' w (h : sat E w (putP b bc bt p :: claimA bc p.claim :: tickA bt p.tick :: memA bm m' :: L)) => Lib.hid (tphase_calls bt p.tick (h.pick 2 rfl))
  have SL := fun m' w (h : sat E w (putP b bc bt p :: claimA bc p.claim :: tickA bt p.tick :: memA bm m' :: L)) => Lib.hid (cslot_calls bc p.claim ho.claim (h.pick 1 rfl))
  have c3 : p.stored = false := hs
  have V := fun w => Lib.hid (value_calls p.conf w ho.conf p.claim.slot B.1 B.2.1)
  have ST := fun w (h : sat E w (memA bm m :: putP b bc bt p :: claimA bc p.claim :: tickA bt p.tick :: L)) => Lib.hid (store_calls bm m p.who (p.conf.value p.claim.slot) p.value ⟨ho.value0, ho.value1⟩ hroom h)
  clear ho hp hc ht hs B
  go_enter Try.func56, Try.ntmps56
  go_wp2_with (first | (go_at_call 62; (with_reducible refine (CP _ _ K.out).out.mono ?_); rintro e w1 ⟨rfl, rfl⟩) | (go_at_call 65; (with_reducible refine (TP _ _ K.out).out.mono ?_); rintro e w1 ⟨rfl, rfl⟩))
  go_region_held3 (fun w' => w'.cell? ⟨b, 0, none⟩ = some (.int .i64 p.conf.th) ∧ w'.cell? ⟨b, 1, none⟩ = some (.int .i64 p.conf.sl) ∧ w'.cell? ⟨b, 2, none⟩ = some (.int .i64 p.conf.src) ∧ w'.cell? ⟨b, 3, none⟩ = some (.int .i64 p.conf.dl) ∧ w'.cell? ⟨b, 4, none⟩ = some (.int .i64 p.who) ∧ w'.cell? ⟨b, 5, none⟩ = some (.int .i64 p.fin) ∧ w'.cell? ⟨b, 6, none⟩ = some (.int .u64 p.value) ∧ w'.cell? ⟨b, 7, none⟩ = some (.pointer (some ⟨bc, 0, none⟩)) ∧ w'.cell? ⟨b, 8, none⟩ = some (.pointer (some ⟨bt, 0, none⟩))) (first | exact putS (M := _) (by repeat (with_reducible first | exact K.out | apply sat.alloc_any | apply sat.drew | apply sat.drewN)) rfl rfl rfl rfl | go_keep)
    (first | (go_at_call 67; (with_reducible refine ((SL _ _ (show sat E _ _ from by iterate 6 (try (with_reducible first | exact K.out | apply sat.alloc_any | apply sat.drew | apply sat.drewN)))).out).mono ?_); rintro e w1 ⟨rfl, hb⟩; have K1 := sat.grown (by repeat (with_reducible first | exact K.out | apply sat.alloc_any | apply sat.drew | apply sat.drewN)) hb; clear hb; have K2 := Lib.hid K1; clear K1 K; (try clear a0); (try clear l0); (try clear a1); (try clear l1); (try clear a2); (try clear l2); have K := K2; clear K2; have a0 := K.out.rd 0 rfl; have l0 := K.out.ltp 0 rfl) | (go_at_call 14; (with_reducible refine ((V _).out).mono ?_); rintro e w1 ⟨rfl, hb⟩; have K1 := sat.grown (by repeat (with_reducible first | exact K.out | apply sat.alloc_any | apply sat.drew | apply sat.drewN)) hb; clear hb; have K2 := Lib.hid K1; clear K1 K; (try clear a0); (try clear l0); (try clear a1); (try clear l1); (try clear a2); (try clear l2); have K := K2; clear K2; have a0 := K.out.rd 0 rfl; have l0 := K.out.ltp 0 rfl) | (go_at_call 24; (with_reducible refine ((ST _ (show sat E _ _ from by iterate 6 (try (with_reducible first | exact K.out | apply sat.alloc_any | apply sat.drew | apply sat.drewN))).dabc).out).mono ?_); rintro e w1 ⟨rfl, K1⟩; replace K1 := K1.undabc; have K2 := Lib.hid K1; clear K1 K; (try clear a0); (try clear l0); (try clear a1); (try clear l1); (try clear a2); (try clear l2); have K := K2; clear K2; have a0 := K.out.rd 0 rfl; have l0 := K.out.ltp 0 rfl))
  all_goals
    go_wp2_with (first | ((with_reducible refine at_store ?_); refine st_store 0 K.out rfl rfl rfl rfl ?_ ?_ ?_ ?_; (· kernel_rfl); (· simp); (· simp [Value.oneCell']); intro w1 K1; simp only [List.set, putL] at K1; have K2 := Lib.hid K1; clear K1 K; (try clear a0); (try clear l0); (try clear a1); (try clear l1); (try clear a2); (try clear l2); have K := K2; clear K2; have a0 := K.out.rd 0 rfl; have l0 := K.out.ltp 0 rfl))
    go_ret
    exact ⟨rfl, putA_shut (p := { p with stored := true }) K.out⟩
theorem pstep_word (b bm : Nat) (p : PutM) (m : MemM) (now : Int) (ho : p.ok) (hp : p.phase = 0) (hc : p.claim.phase ≠ 0) (ht : p.tick.phase ≠ 0) (hs : p.stored = true) (hroom : m.log.length < 1000000000) (h : sat E w (putA b p :: memA bm m :: L)) :
    Calls Try.prog 56 #[.pointer (some ⟨b, 0, none⟩), .pointer (some ⟨bm, 0, none⟩), .int .i64 now] w fun e w' => e = .returned (.int .i64 1) ∧ sat E w' (putA b { p with phase := 1 } :: memA bm (m.touch p.who 1 p.claim.slot 0 (p.claim.word.next p.fin p.tick.stamp).pack) :: L) := by
  obtain ⟨bc, bt, h⟩ := putA_open h
  have K := Lib.hid h
  clear h
  have a0 := K.out.rd 0 rfl; have l0 := K.out.ltp 0 rfl
  have c0 : (p.phase == 0) = true := by simpa using hp
  have c1 : (p.claim.phase == 0) = false := by simpa using hc
  have c2 : (p.tick.phase == 0) = false := by simpa using ht
  have B := ho.claim.slot_bd
  rw [ho.cc] at B
  have CP := fun m' w (h : sat E w (putP b bc bt p :: claimA bc p.claim :: tickA bt p.tick :: memA bm m' :: L)) => Lib.hid (cphase_calls bc p.claim (h.pick 1 rfl))
  have TP := fun m' w (h : sat E w (putP b bc bt p :: claimA bc p.claim :: tickA bt p.tick :: memA bm m' :: L)) => Lib.hid (tphase_calls bt p.tick (h.pick 2 rfl))
  have SL := fun m' w (h : sat E w (putP b bc bt p :: claimA bc p.claim :: tickA bt p.tick :: memA bm m' :: L)) => Lib.hid (cslot_calls bc p.claim ho.claim (h.pick 1 rfl))
  have c3 : p.stored = true := hs
  have CW := fun m' w (h : sat E w (claimA bc p.claim :: putP b bc bt p :: tickA bt p.tick :: memA bm m' :: L)) => Lib.hid (cword_calls bc p.claim h)
  have TS := fun m' w (h : sat E w (tickA bt p.tick :: putP b bc bt p :: claimA bc p.claim :: memA bm m' :: L)) => Lib.hid (tstamp_calls bt p.tick h)
  have NX : ∀ w, Hid (Tells 69 #[.agg #[.int .i64 p.claim.word.state, .int .i64 p.claim.word.fin, .int .i64 p.claim.word.gen, .int .i64 p.claim.word.stamp.lo, .int .i64 p.claim.word.stamp.hi], .int .i64 p.fin, .agg #[.int .i64 p.tick.stamp.lo, .int .i64 p.tick.stamp.hi]] w (.agg #[.int .i64 (p.claim.word.next p.fin p.tick.stamp).state, .int .i64 (p.claim.word.next p.fin p.tick.stamp).fin, .int .i64 (p.claim.word.next p.fin p.tick.stamp).gen, .int .i64 (p.claim.word.next p.fin p.tick.stamp).stamp.lo, .int .i64 (p.claim.word.next p.fin p.tick.stamp).stamp.hi])) :=
    fun w => Lib.hid (next_calls p.claim.word p.fin p.tick.stamp ⟨ho.gen0, by have := ho.gen1; omega⟩ w)
  generalize p.claim.word.next p.fin p.tick.stamp = y at NX ⊢
  have PK := fun w => Lib.hid (pack_calls y w)
  have hb := pack_bd y
  generalize y.pack = z at PK hb ⊢
  have ST := fun w (h : sat E w (memA bm m :: putP b bc bt p :: claimA bc p.claim :: tickA bt p.tick :: L)) => Lib.hid (store_calls bm m p.who p.claim.slot z hb hroom h)
  clear ho hp hc ht hs B hb
  go_enter Try.func56, Try.ntmps56
  go_wp2_with (first | (go_at_call 62; (with_reducible refine (CP _ _ K.out).out.mono ?_); rintro e w1 ⟨rfl, rfl⟩) | (go_at_call 65; (with_reducible refine (TP _ _ K.out).out.mono ?_); rintro e w1 ⟨rfl, rfl⟩))
  go_region_held3 (fun w' => w'.cell? ⟨b, 0, none⟩ = some (.int .i64 p.conf.th) ∧ w'.cell? ⟨b, 1, none⟩ = some (.int .i64 p.conf.sl) ∧ w'.cell? ⟨b, 2, none⟩ = some (.int .i64 p.conf.src) ∧ w'.cell? ⟨b, 3, none⟩ = some (.int .i64 p.conf.dl) ∧ w'.cell? ⟨b, 4, none⟩ = some (.int .i64 p.who) ∧ w'.cell? ⟨b, 5, none⟩ = some (.int .i64 p.fin) ∧ w'.cell? ⟨b, 6, none⟩ = some (.int .u64 p.value) ∧ w'.cell? ⟨b, 7, none⟩ = some (.pointer (some ⟨bc, 0, none⟩)) ∧ w'.cell? ⟨b, 8, none⟩ = some (.pointer (some ⟨bt, 0, none⟩))) (first | exact putS (M := _) (by repeat (with_reducible first | exact K.out | apply sat.alloc_any | apply sat.drew | apply sat.drewN)) rfl rfl rfl rfl | go_keep)
    (first | (go_at_call 67; (with_reducible refine ((SL _ _ (show sat E _ _ from by iterate 6 (try (with_reducible first | exact K.out | apply sat.alloc_any | apply sat.drew | apply sat.drewN)))).out).mono ?_); rintro e w1 ⟨rfl, hb⟩; have K1 := sat.grown (by repeat (with_reducible first | exact K.out | apply sat.alloc_any | apply sat.drew | apply sat.drewN)) hb; clear hb; have K2 := Lib.hid K1; clear K1 K; (try clear a0); (try clear l0); (try clear a1); (try clear l1); (try clear a2); (try clear l2); have K := K2; clear K2; have a0 := K.out.rd 0 rfl; have l0 := K.out.ltp 0 rfl) | (go_at_call 23; (with_reducible refine (word_calls p.conf _ p.claim.slot).mono ?_); rintro e w1 ⟨rfl, hb⟩; have K1 := sat.grown (by repeat (with_reducible first | exact K.out | apply sat.alloc_any | apply sat.drew | apply sat.drewN)) hb; clear hb; have K2 := Lib.hid K1; clear K1 K; (try clear a0); (try clear l0); (try clear a1); (try clear l1); (try clear a2); (try clear l2); have K := K2; clear K2; have a0 := K.out.rd 0 rfl; have l0 := K.out.ltp 0 rfl) | (go_at_call 68; (with_reducible refine ((CW _ _ (show sat E _ _ from by iterate 6 (try (with_reducible first | exact K.out | apply sat.alloc_any | apply sat.drew | apply sat.drewN))).swap).out).mono ?_); rintro e w1 ⟨rfl, K1⟩; replace K1 := K1.swap; have K2 := Lib.hid K1; clear K1 K; (try clear a0); (try clear l0); (try clear a1); (try clear l1); (try clear a2); (try clear l2); have K := K2; clear K2; have a0 := K.out.rd 0 rfl; have l0 := K.out.ltp 0 rfl) | (go_at_call 70; (with_reducible refine ((TS _ _ (show sat E _ _ from by iterate 6 (try (with_reducible first | exact K.out | apply sat.alloc_any | apply sat.drew | apply sat.drewN))).cabd).out).mono ?_); rintro e w1 ⟨rfl, K1⟩; replace K1 := K1.uncabd; have K2 := Lib.hid K1; clear K1 K; (try clear a0); (try clear l0); (try clear a1); (try clear l1); (try clear a2); (try clear l2); have K := K2; clear K2; have a0 := K.out.rd 0 rfl; have l0 := K.out.ltp 0 rfl) | (go_at_call 69; (with_reducible refine ((NX _).out).mono ?_); rintro e w1 ⟨rfl, hb⟩; have K1 := sat.grown (by repeat (with_reducible first | exact K.out | apply sat.alloc_any | apply sat.drew | apply sat.drewN)) hb; clear hb; have K2 := Lib.hid K1; clear K1 K; (try clear a0); (try clear l0); (try clear a1); (try clear l1); (try clear a2); (try clear l2); have K := K2; clear K2; have a0 := K.out.rd 0 rfl; have l0 := K.out.ltp 0 rfl) | (go_at_call 26; (with_reducible refine ((PK _).out).mono ?_); rintro e w1 ⟨rfl, hb⟩; have K1 := sat.grown (by repeat (with_reducible first | exact K.out | apply sat.alloc_any | apply sat.drew | apply sat.drewN)) hb; clear hb; have K2 := Lib.hid K1; clear K1 K; (try clear a0); (try clear l0); (try clear a1); (try clear l1); (try clear a2); (try clear l2); have K := K2; clear K2; have a0 := K.out.rd 0 rfl; have l0 := K.out.ltp 0 rfl) | (go_at_call 24; (with_reducible refine ((ST _ (show sat E _ _ from by iterate 6 (try (with_reducible first | exact K.out | apply sat.alloc_any | apply sat.drew | apply sat.drewN))).dabc).out).mono ?_); rintro e w1 ⟨rfl, K1⟩; replace K1 := K1.undabc; have K2 := Lib.hid K1; clear K1 K; (try clear a0); (try clear l0); (try clear a1); (try clear l1); (try clear a2); (try clear l2); have K := K2; clear K2; have a0 := K.out.rd 0 rfl; have l0 := K.out.ltp 0 rfl))
  all_goals
    go_wp2_with (first | ((with_reducible refine at_store ?_); refine st_store 0 K.out rfl rfl rfl rfl ?_ ?_ ?_ ?_; (· kernel_rfl); (· simp); (· simp [Value.oneCell']); intro w1 K1; simp only [List.set, putL] at K1; have K2 := Lib.hid K1; clear K1 K; (try clear a0); (try clear l0); (try clear a1); (try clear l1); (try clear a2); (try clear l2); have K := K2; clear K2; have a0 := K.out.rd 0 rfl; have l0 := K.out.ltp 0 rfl))
    go_ret
    exact ⟨rfl, putA_shut (p := { p with phase := 1 }) K.out⟩
/-- A step of a Put. -/
theorem pstep_calls (b bm : Nat) (p : PutM) (m : MemM) (now : Int) (ho : p.ok) (hroom : m.log.length < 1000000000) (h : sat E w (putA b p :: memA bm m :: L)) :
    Calls Try.prog 56 #[.pointer (some ⟨b, 0, none⟩), .pointer (some ⟨bm, 0, none⟩), .int .i64 now] w fun e w' => e = .returned (.int .i64 (p.step m now).1.phase) ∧ sat E w' (putA b (p.step m now).1 :: memA bm (p.step m now).2 :: L) := by
  unfold PutM.step
  by_cases hp : p.phase = 0
  · rw [if_neg (by simpa using hp)]
    by_cases hc : p.claim.phase = 0
    · rw [if_pos hc]; exact pstep_claim b bm p m now ho hp hc hroom h
    · rw [if_neg hc]
      by_cases ht : p.tick.phase = 0
      · rw [if_pos ht]; exact pstep_tick b bm p m now ho hp hc ht hroom h
      · rw [if_neg ht]
        cases hs : p.stored with
        | false => simpa [hs] using pstep_store b bm p m now ho hp hc ht hs hroom h
        | true => simpa [hs] using pstep_word b bm p m now ho hp hc ht hs hroom h
  · rw [if_pos hp]
    exact pstep_off b bm p m now hp h
end
end Go.Proofs.Ytdhcomklmckhoaa
