/- How stamps are made, step by step (package tick): what each of its functions does to its Ticker and to the cells. Conditions: a Right layout, a thread of it, room for what is noted. -/
import Derived.Test.YtdhcomklmckhoaaMem
import Derived.Test.YtdhcomklmckhoaaWord
import Derived.RegionTactic
import Derived.ChangeAlike
import Derived.Deep.QuietTactic
import Derived.BigQuiet
namespace Go.Proofs.Ytdhcomklmckhoaa
open Go.RowKit Go.SepYtdhcomklmckhoaa
set_option linter.unusedSimpArgs false
set_option linter.unusedVariables false
set_option maxRecDepth 100000
set_option maxHeartbeats 1000000
abbrev TickM.v (t : TickM) : List Value := [.int .i64 t.conf.th, .int .i64 t.conf.sl, .int .i64 t.conf.src, .int .i64 t.conf.dl, .int .i64 t.who, .int .i64 t.steps, .int .i64 t.a, .int .i64 t.b, .int .i64 t.stamp.lo, .int .i64 t.stamp.hi, .int .i64 t.phase]
abbrev tickA (b : Nat) (t : TickM) : SA := pt b (.cells t.v.toArray 128 (0, 0))
/-- A call that makes something new. -/
def NewA (E : World) (L : List SA) (A : Nat → SA) (e : Ending) (w' : World) : Prop := ∃ g, e = .returned (.pointer (some ⟨g, 0, none⟩)) ∧ sat E w' (A g :: L)
section
variable {E w : World} {L : List SA}
theorem point_calls (n : Int) (w : World) : Tells 76 #[.int .i64 n] w (.agg #[.int .i64 n, .int .i64 n]) := by
  go_enter Try.func76, Try.ntmps76
  go_wp2
  exact bodyPost_ret (v := .agg #[.int .i64 n, .int .i64 n]) (by simp [results, Try.results76, go_sem]) rfl ⟨rfl, (Below.refl _ _).alloc (Nat.le_refl _) _⟩
theorem ticknew_calls (c : ConfM) (who : Int) (h : sat E w L) :
    Calls Try.prog 61 #[.agg #[.int .i64 c.th, .int .i64 c.sl, .int .i64 c.src, .int .i64 c.dl], .int .i64 who] w (NewA E L (fun g => tickA g (TickM.new c who))) := by
  have K := Lib.hid h
  clear h
  go_enter Try.func61, Try.ntmps61
  go_wp2
  go_ret
  exact ⟨w.heap.size + 1, rfl, K.out.alloc2⟩
theorem tphase_calls (b : Nat) (t : TickM) (h : sat E w (tickA b t :: L)) :
    Calls Try.prog 65 #[.pointer (some ⟨b, 0, none⟩)] w fun e w' => e = .returned (.int .i64 t.phase) ∧ w = w' := by
  have a0 := h.rd 0 rfl
  clear h
  go_enter Try.func65, Try.ntmps65
  go_wp2
  go_ret
  exact ⟨rfl, rfl⟩
theorem tstamp_calls (b : Nat) (t : TickM) (h : sat E w (tickA b t :: L)) :
    Calls Try.prog 70 #[.pointer (some ⟨b, 0, none⟩)] w fun e w' => e = .returned (.agg #[.int .i64 t.stamp.lo, .int .i64 t.stamp.hi]) ∧ sat E w' (tickA b t :: L) := by
  have K := Lib.hid h
  clear h
  have a0 := K.out.rd 0 rfl; have l0 := K.out.ltp 0 rfl
  go_enter Try.func70, Try.ntmps70
  go_wp2
  exact bodyPost_ret (v := .agg #[.int .i64 t.stamp.lo, .int .i64 t.stamp.hi]) (by simp [results, Try.results70, go_sem]) rfl ⟨rfl, (by repeat (with_reducible first | exact K.out | apply sat.alloc_any | apply sat.drew | apply sat.drewN))⟩
theorem tload_calls (b bm : Nat) (t : TickM) (m : MemM) (th : Int) (hc : t.conf.ok) (h0 : 0 ≤ th) (h1 : th < t.conf.th) (hroom : m.log.length < 1000000000) (h : sat E w (tickA b t :: memA bm m :: L)) :
    Calls Try.prog 86 #[.pointer (some ⟨b, 0, none⟩), .pointer (some ⟨bm, 0, none⟩), .int .i64 th] w fun e w' =>
      e = .returned (.int .i64 (t.read m th)) ∧ sat E w' (tickA b t :: memA bm (t.load m th) :: L) := by
  have P := Lib.hid (MemM.peek_wf (memA_open h.swap).1 (t.conf.number th))
  have K := Lib.hid h
  clear h
  have a0 := K.out.rd 0 rfl; have l0 := K.out.ltp 0 rfl
  go_enter Try.func86, Try.ntmps86
  go_wp2_with fail
  go_region_held3 (fun w' => (∀ j, w'.cell? ⟨b, j, none⟩ = (t.v)[j]?) ∧ b < w'.heap.size) (first | exact sat.s0 (by repeat (with_reducible first | exact K.out | apply sat.alloc_any | apply sat.drew | apply sat.drewN)) | go_keep) (first | (go_at_call 78; (with_reducible refine (number_calls t.conf _ hc th h0 h1).mono ?_); rintro e w1 ⟨rfl, hb⟩; have K1 := sat.grown (by repeat (with_reducible first | exact K.out | apply sat.alloc_any | apply sat.drew | apply sat.drewN)) hb; clear hb; have K2 := Lib.hid K1; clear K1 K; (try clear a0); (try clear l0); (try clear a1); (try clear l1); (try clear a2); (try clear l2); have K := K2; clear K2; have a0 := K.out.rd 0 rfl; have l0 := K.out.ltp 0 rfl) | (go_at_call 51; (with_reducible refine (load_calls bm m t.who (t.conf.number th) hroom (show sat E _ _ from by iterate 6 (try (with_reducible first | exact K.out | apply sat.alloc_any | apply sat.drew | apply sat.drewN))).swap).mono ?_); rintro e w1 ⟨rfl, K1⟩; replace K1 := K1.swap; have K2 := Lib.hid K1; clear K1 K; (try clear a0); (try clear l0); (try clear a1); (try clear l1); (try clear a2); (try clear l2); have K := K2; clear K2; have a0 := K.out.rd 0 rfl; have l0 := K.out.ltp 0 rfl))
  go_wp2
  all_goals
    go_ret
    exact ⟨ret_i (by unfold TickM.read cap; have := P.out; rw [wi (by omega) (by omega)]; simp only [Top]; omega), K.out⟩
theorem tdone_calls (b : Nat) (t : TickM) (s : StampM) (h : sat E w (tickA b t :: L)) :
    Calls Try.prog 75 #[.pointer (some ⟨b, 0, none⟩), .agg #[.int .i64 s.lo, .int .i64 s.hi]] w fun e w' =>
      e = .returned (.tuple #[]) ∧ sat E w' (tickA b (t.done s) :: L) := by
  have K := Lib.hid h
  clear h
  have a0 := K.out.rd 0 rfl; have l0 := K.out.ltp 0 rfl
  go_enter Try.func75, Try.ntmps75
  go_wp2_with (first | ((with_reducible refine at_box ?_); refine st_boxf K.out rfl rfl (fun _ => rfl) ?_; intro g1 w1 K1; have K2 := Lib.hid K1; clear K1 K; (try clear a0); (try clear l0); (try clear a1); (try clear l1); (try clear a2); (try clear l2); have K := K2; clear K2; have a0 := K.out.rd 0 rfl; have l0 := K.out.ltp 0 rfl; have a1 := K.out.rd 1 rfl; have l1 := K.out.ltp 1 rfl) | ((with_reducible refine at_store ?_); refine st_store 1 K.out rfl rfl rfl rfl ?_ ?_ ?_ ?_; (· kernel_rfl); (· simp); (· simp [Value.oneCell']); intro w1 K1; simp only [List.set, putL] at K1; have K2 := Lib.hid K1; clear K1 K; (try clear a0); (try clear l0); (try clear a1); (try clear l1); (try clear a2); (try clear l2); have K := K2; clear K2; have a0 := K.out.rd 0 rfl; have l0 := K.out.ltp 0 rfl; have a1 := K.out.rd 1 rfl; have l1 := K.out.ltp 1 rfl) | (go_at_call 85; (with_reducible refine (sright_calls s _).mono ?_); rintro e w1 ⟨rfl, hb⟩; have K1 := sat.grown (by repeat (with_reducible first | exact K.out | apply sat.alloc_any | apply sat.drew | apply sat.drewN)) hb; clear hb; have K2 := Lib.hid K1; clear K1 K; (try clear a0); (try clear l0); (try clear a1); (try clear l1); (try clear a2); (try clear l2); have K := K2; clear K2; have a0 := K.out.rd 0 rfl; have l0 := K.out.ltp 0 rfl; have a1 := K.out.rd 1 rfl; have l1 := K.out.ltp 1 rfl))
  · (first | go_end0 | ((try simp only [Exit.inBlock, Exit.then]); refine bodyPost_ret (results_none rfl _ _ _) rfl ?_))
    rename_i hr
    have e : t.done s = { t with phase := 2 } := if_neg (by simpa using hr)
    rw [e]
    exact ⟨rfl, K.out.drop⟩
  · rename_i hr
    have hne := K.out.ne
    have f1 := K.out.fr 1 rfl
    go_region_held3 (fun w' => (∀ j, w'.cell? ⟨g1, j, none⟩ = [.int .i64 s.lo, .int .i64 s.hi][j]?) ∧ (∀ j, w'.frozen? ⟨b, j, none⟩ = false)) (first | exact ⟨fun j => by first | exact a0 j | (simp [World.cell?_setCell_far _ _ _ _ (show (⟨b, _, none⟩ : Addr).block ≠ (⟨g1, j, none⟩ : Addr).block from hne.symm), a0]), fun j => by first | exact f1 j | simp [f1]⟩ | go_keep) (fail)
    go_wp2
    (first | go_end0 | ((try simp only [Exit.inBlock, Exit.then]); refine bodyPost_ret (results_none rfl _ _ _) rfl ?_))
    have e : t.done s = { t with phase := 1, stamp := s } := if_pos (by simpa using hr)
    rw [e]
    exact ⟨rfl, (((K.out.drop.set0 (i := 10) (v := .int .i64 1)).set0 (i := 8) (v := .int .i64 s.lo)).set0 (i := 9) (v := .int .i64 s.hi)).drew⟩
end
end Go.Proofs.Ytdhcomklmckhoaa
