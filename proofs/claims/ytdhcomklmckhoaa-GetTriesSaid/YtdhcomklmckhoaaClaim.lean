/- A place that may be used anew is looked for (package claim): what each of its functions does. Conditions: a Right layout, a thread of it, room for what is noted. -/
import Derived.Test.YtdhcomklmckhoaaTickD
namespace Go.Proofs.Ytdhcomklmckhoaa
open Go.RowKit Go.SepYtdhcomklmckhoaa
set_option linter.unusedSimpArgs false
set_option linter.unusedVariables false
set_option maxRecDepth 100000
set_option maxHeartbeats 1000000
attribute [local go_sem] min2_w max2_w min_w max_w
abbrev ClaimM.v (t : ClaimM) : List Value := [.int .i64 t.conf.th, .int .i64 t.conf.sl, .int .i64 t.conf.src, .int .i64 t.conf.dl, .int .i64 t.who, .int .i64 t.k, .int .i64 t.guard, .int .i64 t.word.state, .int .i64 t.word.fin, .int .i64 t.word.gen, .int .i64 t.word.stamp.lo, .int .i64 t.word.stamp.hi, .int .i64 t.phase]
abbrev claimA (b : Nat) (t : ClaimM) : SA := pt b (.cells t.v.toArray 126 (0, 0))
structure ClaimM.ok (t : ClaimM) : Prop where
  conf : t.conf.ok
  who0 : 0 ≤ t.who
  who1 : t.who < t.conf.th
  k0 : 0 ≤ t.k
  k1 : t.k < t.conf.sl
  g0 : -1 ≤ t.guard
  g1 : t.phase = 0 → t.guard < t.conf.th
theorem ClaimM.ok.slot_bd {t : ClaimM} (h : t.ok) : 0 ≤ t.slot ∧ t.slot < t.conf.all ∧ t.conf.all ≤ 4096 := by
  have := h.conf.first_bd h.who0 h.who1
  have := h.conf.all_bd
  have := h.k0
  have := h.k1
  unfold ClaimM.slot
  omega
section
variable {E w : World} {L : List SA}
theorem claimnew_calls (c : ConfM) (who : Int) (h : sat E w L) :
    Calls Try.prog 60 #[.agg #[.int .i64 c.th, .int .i64 c.sl, .int .i64 c.src, .int .i64 c.dl], .int .i64 who] w (NewA E L (fun g => claimA g (ClaimM.new c who))) := by
  have K := Lib.hid h
  clear h
  go_enter Try.func60, Try.ntmps60
  go_wp2
  go_ret
  exact ⟨w.heap.size + 1, rfl, K.out.alloc2⟩
theorem cphase_calls (b : Nat) (t : ClaimM) (h : sat E w (claimA b t :: L)) :
    Calls Try.prog 62 #[.pointer (some ⟨b, 0, none⟩)] w fun e w' => e = .returned (.int .i64 t.phase) ∧ w = w' := by
  have a0 := h.rd 0 rfl
  clear h
  go_enter Try.func62, Try.ntmps62
  go_wp2
  go_ret
  exact ⟨rfl, rfl⟩
theorem cword_calls (b : Nat) (t : ClaimM) (h : sat E w (claimA b t :: L)) :
    Calls Try.prog 68 #[.pointer (some ⟨b, 0, none⟩)] w fun e w' => e = .returned (.agg #[.int .i64 t.word.state, .int .i64 t.word.fin, .int .i64 t.word.gen, .int .i64 t.word.stamp.lo, .int .i64 t.word.stamp.hi]) ∧ sat E w' (claimA b t :: L) := by
  have K := Lib.hid h
  clear h
  have a0 := K.out.rd 0 rfl; have l0 := K.out.ltp 0 rfl
  go_enter Try.func68, Try.ntmps68
  go_wp2
  exact bodyPost_ret (v := .agg #[.int .i64 t.word.state, .int .i64 t.word.fin, .int .i64 t.word.gen, .int .i64 t.word.stamp.lo, .int .i64 t.word.stamp.hi]) (by simp [results, Try.results68, go_sem]) rfl ⟨rfl, (by repeat (with_reducible first | exact K.out | apply sat.alloc_any | apply sat.drew | apply sat.drewN))⟩
theorem cslot_calls (b : Nat) (t : ClaimM) (ho : t.ok) (h : sat E w (claimA b t :: L)) :
    Calls Try.prog 67 #[.pointer (some ⟨b, 0, none⟩)] w fun e w' => e = .returned (.int .i64 t.slot) ∧ Below w.heap.size w w' := by
  have F := fun w => Lib.hid (first_calls t.conf w ho.conf t.who ho.who0 ho.who1)
  have B := ho.slot_bd
  have e : IntKind.i64.wrap (t.conf.first t.who + t.k) = t.slot := wi (by unfold ClaimM.slot at B; omega) (by unfold ClaimM.slot at B; omega)
  have H := Lib.hid e
  have a0 := h.rd 0 rfl
  have l0 := h.ltp 0 rfl
  clear h e ho B
  go_enter Try.func67, Try.ntmps67
  go_wp2_with fail
  go_region_held3 (fun w' => (∀ j, w'.cell? ⟨b, j, none⟩ = t.v[j]?) ∧ Below w.heap.size w w' ∧ b < w'.heap.size) (first | exact ⟨a0, Below.refl _ _, l0⟩ | exact ⟨a0, (Below.refl _ _).drew, l0⟩ | exact held_step (by assumption) (by assumption) | go_keep)
    (first | (go_at_call 81; (with_reducible refine (F _).out.mono ?_); rintro e w1 ⟨rfl, hb⟩))
  go_wp2
  go_ret
  rename_i hh
  exact ⟨ret_i H.out, hh.2.1⟩
theorem cpass_calls (b : Nat) (t : ClaimM) (ho : t.ok) (h : sat E w (claimA b t :: L)) :
    Calls Try.prog 74 #[.pointer (some ⟨b, 0, none⟩)] w fun e w' => e = .returned (.tuple #[]) ∧ sat E w' (claimA b t.pass :: L) := by
  have K := Lib.hid h
  clear h
  have a0 := K.out.rd 0 rfl; have l0 := K.out.ltp 0 rfl
  have k0 := ho.k0
  have k1 := ho.k1
  have s1 := ho.conf.sl2
  clear ho
  by_cases hk : t.k + 1 = t.conf.sl
  · have e : t.pass = { t with guard := -1, phase := 2 } := if_pos hk
    rw [e]
    have c0 : (t.k + 1 == t.conf.sl) = true := by simpa using hk
    have v1 : IntKind.i64.wrap (t.k + 1) = t.k + 1 := wi (by omega) (by omega)
    clear e hk
    go_enter Try.func74, Try.ntmps74
    go_wp2_with (first | ((with_reducible refine at_store ?_); refine st_store 0 K.out rfl rfl rfl rfl ?_ ?_ ?_ ?_; (· kernel_rfl); (· simp); (· simp [Value.oneCell']); intro w1 K1; simp only [List.set, putL] at K1; have K2 := Lib.hid K1; clear K1 K; (try clear a0); (try clear l0); (try clear a1); (try clear l1); (try clear a2); (try clear l2); have K := K2; clear K2; have a0 := K.out.rd 0 rfl; have l0 := K.out.ltp 0 rfl))
    go_quiet (fail); (have K1 := K.out.drewN nq; revert K1; generalize World.drewN w1 nq = w9; intro K1; have K2 := Lib.hid K1; clear K1 K; (try clear a0); (try clear l0); (try clear a1); (try clear l1); (try clear a2); (try clear l2); have K := K2; clear K2; have a0 := K.out.rd 0 rfl; have l0 := K.out.ltp 0 rfl)
    go_wp2_with (first | ((with_reducible refine at_store ?_); refine st_store 0 K.out rfl rfl rfl rfl ?_ ?_ ?_ ?_; (· kernel_rfl); (· simp); (· simp [Value.oneCell']); intro w1 K1; simp only [List.set, putL] at K1; have K2 := Lib.hid K1; clear K1 K; (try clear a0); (try clear l0); (try clear a1); (try clear l1); (try clear a2); (try clear l2); have K := K2; clear K2; have a0 := K.out.rd 0 rfl; have l0 := K.out.ltp 0 rfl))
    (first | go_end0 | ((try simp only [Exit.inBlock, Exit.then]); refine bodyPost_ret (results_none rfl _ _ _) rfl ?_))
    exact ⟨rfl, K.out⟩
  · have e : t.pass = { t with guard := -1, k := t.k + 1 } := if_neg hk
    rw [e]
    have c0 : (t.k + 1 == t.conf.sl) = false := by simpa using hk
    have v1 : IntKind.i64.wrap (t.k + 1) = t.k + 1 := wi (by omega) (by omega)
    clear e hk
    go_enter Try.func74, Try.ntmps74
    go_wp2_with (first | ((with_reducible refine at_store ?_); refine st_store 0 K.out rfl rfl rfl rfl ?_ ?_ ?_ ?_; (· kernel_rfl); (· simp); (· simp [Value.oneCell']); intro w1 K1; simp only [List.set, putL] at K1; have K2 := Lib.hid K1; clear K1 K; (try clear a0); (try clear l0); (try clear a1); (try clear l1); (try clear a2); (try clear l2); have K := K2; clear K2; have a0 := K.out.rd 0 rfl; have l0 := K.out.ltp 0 rfl))
    go_quiet (fail); (have K1 := K.out.drewN nq; revert K1; generalize World.drewN w1 nq = w9; intro K1; have K2 := Lib.hid K1; clear K1 K; (try clear a0); (try clear l0); (try clear a1); (try clear l1); (try clear a2); (try clear l2); have K := K2; clear K2; have a0 := K.out.rd 0 rfl; have l0 := K.out.ltp 0 rfl)
    go_wp2_with (first | ((with_reducible refine at_store ?_); refine st_store 0 K.out rfl rfl rfl rfl ?_ ?_ ?_ ?_; (· kernel_rfl); (· simp); (· simp [Value.oneCell']); intro w1 K1; simp only [List.set, putL] at K1; have K2 := Lib.hid K1; clear K1 K; (try clear a0); (try clear l0); (try clear a1); (try clear l1); (try clear a2); (try clear l2); have K := K2; clear K2; have a0 := K.out.rd 0 rfl; have l0 := K.out.ltp 0 rfl))
    (first | go_end0 | ((try simp only [Exit.inBlock, Exit.then]); refine bodyPost_ret (results_none rfl _ _ _) rfl ?_))
    exact ⟨rfl, K.out⟩
theorem claimS {b : Nat} {t t' : ClaimM} {M : List SA} (h : sat E w (claimA b t' :: M)) (hc : t'.conf = t.conf) (hw : t'.who = t.who) :
    w.cell? ⟨b, 0, none⟩ = some (.int .i64 t.conf.th) ∧ w.cell? ⟨b, 1, none⟩ = some (.int .i64 t.conf.sl) ∧ w.cell? ⟨b, 2, none⟩ = some (.int .i64 t.conf.src) ∧ w.cell? ⟨b, 3, none⟩ = some (.int .i64 t.conf.dl) ∧ w.cell? ⟨b, 4, none⟩ = some (.int .i64 t.who) ∧ (∀ j, w.frozen? ⟨b, j, none⟩ = false) := by
  have := h.rd 0 rfl
  rw [← hc, ← hw]
  exact ⟨this 0, this 1, this 2, this 3, this 4, h.fr 0 rfl⟩
theorem clook_calls (b bm : Nat) (t : ClaimM) (m : MemM) (ho : t.ok) (hroom : m.log.length < 1000000000) (h : sat E w (claimA b t :: memA bm m :: L)) :
    Calls Try.prog 73 #[.pointer (some ⟨b, 0, none⟩), .pointer (some ⟨bm, 0, none⟩)] w fun e w' => e = .returned (.tuple #[]) ∧ sat E w' (claimA b (t.look m).1 :: memA bm (t.look m).2 :: L) := by
  have K := Lib.hid h
  have hpk := MemM.peek_wf (memA_open h.swap).1 t.slot
  have B := ho.slot_bd
  clear h
  have a0 := K.out.rd 0 rfl; have l0 := K.out.ltp 0 rfl
  have f0 := K.out.fr 0 rfl
  have SL := fun w (h : sat E w (claimA b t :: memA bm m :: L)) => Lib.hid (cslot_calls b t ho h)
  have LD := fun w (h : sat E w (memA bm m :: claimA b t :: L)) => Lib.hid (load_calls bm m t.who t.slot hroom h)
  have U : ∀ w, Hid (Tells 22 #[.int .u64 (m.peek t.slot)] w (.agg #[.int .i64 (unpack (m.peek t.slot)).state, .int .i64 (unpack (m.peek t.slot)).fin, .int .i64 (unpack (m.peek t.slot)).gen, .int .i64 (unpack (m.peek t.slot)).stamp.lo, .int .i64 (unpack (m.peek t.slot)).stamp.hi])) := fun w => Lib.hid (unpack_calls (m.peek t.slot) hpk.1 hpk.2 w)
  have el : t.look m = (if (unpack (m.peek t.slot)).gen ≥ 8191 then ({ t with word := unpack (m.peek t.slot) } : ClaimM).pass else if (unpack (m.peek t.slot)).state = 0 then { t with word := unpack (m.peek t.slot), phase := 1 } else if (unpack (m.peek t.slot)).state = 2 then { t with word := unpack (m.peek t.slot), guard := 0 } else ({ t with word := unpack (m.peek t.slot) } : ClaimM).pass, m.touch t.who 0 t.slot 0 0) := rfl
  rw [el]
  clear el hpk
  generalize unpack (m.peek t.slot) = x at U ⊢
  have PS := fun w (h : sat E w (claimA b { t with word := x } :: memA bm (m.touch t.who 0 t.slot 0 0) :: L)) => Lib.hid (cpass_calls b { t with word := x } ⟨ho.conf, ho.who0, ho.who1, ho.k0, ho.k1, ho.g0, ho.g1⟩ h)
  clear ho B
  go_enter Try.func73, Try.ntmps73
  go_wp2_with fail
  go_region_held3 (fun w' => w'.cell? ⟨b, 0, none⟩ = some (.int .i64 t.conf.th) ∧ w'.cell? ⟨b, 1, none⟩ = some (.int .i64 t.conf.sl) ∧ w'.cell? ⟨b, 2, none⟩ = some (.int .i64 t.conf.src) ∧ w'.cell? ⟨b, 3, none⟩ = some (.int .i64 t.conf.dl) ∧ w'.cell? ⟨b, 4, none⟩ = some (.int .i64 t.who) ∧ (∀ j, w'.frozen? ⟨b, j, none⟩ = false)) (first | exact claimS (M := _) (by repeat (with_reducible first | exact K.out | apply sat.alloc_any | apply sat.drew | apply sat.drewN)) rfl rfl | exact claimS (M := _) (t' := { t with word := x }) (((((K.out.set0 (i := 7)).set0 (i := 8)).set0 (i := 9)).set0 (i := 10)).set0 (i := 11)) rfl rfl | go_keep)
    (first | (go_at_call 67; (with_reducible refine ((SL _ (show sat E _ _ from by iterate 6 (try (with_reducible first | exact K.out | apply sat.alloc_any | apply sat.drew | apply sat.drewN)))).out).mono ?_); rintro e w1 ⟨rfl, hb⟩; have K1 := sat.grown (by repeat (with_reducible first | exact K.out | apply sat.alloc_any | apply sat.drew | apply sat.drewN)) hb; clear hb; have K2 := Lib.hid K1; clear K1 K; (try clear a0); (try clear l0); (try clear a1); (try clear l1); (try clear a2); (try clear l2); have K := K2; clear K2; have a0 := K.out.rd 0 rfl; have l0 := K.out.ltp 0 rfl) | (go_at_call 23; (with_reducible refine (word_calls t.conf _ t.slot).mono ?_); rintro e w1 ⟨rfl, hb⟩; have K1 := sat.grown (by repeat (with_reducible first | exact K.out | apply sat.alloc_any | apply sat.drew | apply sat.drewN)) hb; clear hb; have K2 := Lib.hid K1; clear K1 K; (try clear a0); (try clear l0); (try clear a1); (try clear l1); (try clear a2); (try clear l2); have K := K2; clear K2; have a0 := K.out.rd 0 rfl; have l0 := K.out.ltp 0 rfl) | (go_at_call 51; (with_reducible refine ((LD _ (show sat E _ _ from by iterate 6 (try (with_reducible first | exact K.out | apply sat.alloc_any | apply sat.drew | apply sat.drewN))).swap).out).mono ?_); rintro e w1 ⟨rfl, K1⟩; replace K1 := K1.swap; have K2 := Lib.hid K1; clear K1 K; (try clear a0); (try clear l0); (try clear a1); (try clear l1); (try clear a2); (try clear l2); have K := K2; clear K2; have a0 := K.out.rd 0 rfl; have l0 := K.out.ltp 0 rfl) | (go_at_call 22; (with_reducible refine ((U _).out).mono ?_); rintro e w1 ⟨rfl, hb⟩; have K1 := sat.grown (by repeat (with_reducible first | exact K.out | apply sat.alloc_any | apply sat.drew | apply sat.drewN)) hb; clear hb; have K2 := Lib.hid K1; clear K1 K; (try clear a0); (try clear l0); (try clear a1); (try clear l1); (try clear a2); (try clear l2); have K := K2; clear K2; have a0 := K.out.rd 0 rfl; have l0 := K.out.ltp 0 rfl))
  have K1 := (((((K.out.set0 (i := 7) (v := .int .i64 x.state)).set0 (i := 8) (v := .int .i64 x.fin)).set0 (i := 9) (v := .int .i64 x.gen)).set0 (i := 10) (v := .int .i64 x.stamp.lo)).set0 (i := 11) (v := .int .i64 x.stamp.hi))
  simp only [List.set] at K1
  obtain ⟨w2, hw2, K2⟩ := K1.gen
  rw [← hw2]
  clear hw2 K1 K a0 l0 f0
  have K := Lib.hid K2
  clear K2
  have a0 := K.out.rd 0 rfl; have l0 := K.out.ltp 0 rfl
  rename_i hh1
  clear hh1
  by_cases g1 : 8191 ≤ x.gen
  · go_wp2_with (first | (go_at_call 74; (with_reducible refine ((PS _ (show sat E _ _ from by iterate 6 (try (with_reducible first | exact K.out | apply sat.alloc_any | apply sat.drew | apply sat.drewN)))).out).mono ?_); rintro e w1 ⟨rfl, K1⟩; have K2 := Lib.hid K1; clear K1 K; (try clear a0); (try clear l0); (try clear a1); (try clear l1); (try clear a2); (try clear l2); have K := K2; clear K2; have a0 := K.out.rd 0 rfl; have l0 := K.out.ltp 0 rfl) | ((with_reducible refine at_store ?_); refine st_store 0 K.out rfl rfl rfl rfl ?_ ?_ ?_ ?_; (· kernel_rfl); (· simp); (· simp [Value.oneCell']); intro w1 K1; simp only [List.set, putL] at K1; have K2 := Lib.hid K1; clear K1 K; (try clear a0); (try clear l0); (try clear a1); (try clear l1); (try clear a2); (try clear l2); have K := K2; clear K2; have a0 := K.out.rd 0 rfl; have l0 := K.out.ltp 0 rfl))
    (first | go_end0 | ((try simp only [Exit.inBlock, Exit.then]); refine bodyPost_ret (results_none rfl _ _ _) rfl ?_))
    first | exact ⟨rfl, K.out⟩ | (rw [if_pos g1]; exact ⟨rfl, K.out⟩)
  · by_cases g2 : x.state = 0
    · have c2 : (x.state == 0) = true := by simpa using g2
      have G2 := Lib.hid g2
      clear g2
      go_wp2_with (first | (go_at_call 74; (with_reducible refine ((PS _ (show sat E _ _ from by iterate 6 (try (with_reducible first | exact K.out | apply sat.alloc_any | apply sat.drew | apply sat.drewN)))).out).mono ?_); rintro e w1 ⟨rfl, K1⟩; have K2 := Lib.hid K1; clear K1 K; (try clear a0); (try clear l0); (try clear a1); (try clear l1); (try clear a2); (try clear l2); have K := K2; clear K2; have a0 := K.out.rd 0 rfl; have l0 := K.out.ltp 0 rfl) | ((with_reducible refine at_store ?_); refine st_store 0 K.out rfl rfl rfl rfl ?_ ?_ ?_ ?_; (· kernel_rfl); (· simp); (· simp [Value.oneCell']); intro w1 K1; simp only [List.set, putL] at K1; have K2 := Lib.hid K1; clear K1 K; (try clear a0); (try clear l0); (try clear a1); (try clear l1); (try clear a2); (try clear l2); have K := K2; clear K2; have a0 := K.out.rd 0 rfl; have l0 := K.out.ltp 0 rfl))
      (first | go_end0 | ((try simp only [Exit.inBlock, Exit.then]); refine bodyPost_ret (results_none rfl _ _ _) rfl ?_))
      first | exact ⟨rfl, K.out⟩ | (rw [if_neg (by omega), if_pos G2.out]; exact ⟨rfl, K.out⟩) | (rw [if_pos G2.out]; exact ⟨rfl, K.out⟩)
    · have c2 : (x.state == 0) = false := by simpa using g2
      have G2 := Lib.hid g2
      clear g2
      by_cases g3 : x.state = 2
      · have c3 : (x.state == 2) = true := by simpa using g3
        have G3 := Lib.hid g3
        clear g3
        go_wp2_with (first | (go_at_call 74; (with_reducible refine ((PS _ (show sat E _ _ from by iterate 6 (try (with_reducible first | exact K.out | apply sat.alloc_any | apply sat.drew | apply sat.drewN)))).out).mono ?_); rintro e w1 ⟨rfl, K1⟩; have K2 := Lib.hid K1; clear K1 K; (try clear a0); (try clear l0); (try clear a1); (try clear l1); (try clear a2); (try clear l2); have K := K2; clear K2; have a0 := K.out.rd 0 rfl; have l0 := K.out.ltp 0 rfl) | ((with_reducible refine at_store ?_); refine st_store 0 K.out rfl rfl rfl rfl ?_ ?_ ?_ ?_; (· kernel_rfl); (· simp); (· simp [Value.oneCell']); intro w1 K1; simp only [List.set, putL] at K1; have K2 := Lib.hid K1; clear K1 K; (try clear a0); (try clear l0); (try clear a1); (try clear l1); (try clear a2); (try clear l2); have K := K2; clear K2; have a0 := K.out.rd 0 rfl; have l0 := K.out.ltp 0 rfl))
        (first | go_end0 | ((try simp only [Exit.inBlock, Exit.then]); refine bodyPost_ret (results_none rfl _ _ _) rfl ?_))
        first | exact ⟨rfl, K.out⟩ | (rw [if_neg (by omega), if_neg G2.out, if_pos G3.out]; exact ⟨rfl, K.out⟩) | (rw [if_neg G2.out, if_pos G3.out]; exact ⟨rfl, K.out⟩) | (rw [if_pos G3.out]; exact ⟨rfl, K.out⟩)
      · have c3 : (x.state == 2) = false := by simpa using g3
        have G3 := Lib.hid g3
        clear g3
        go_wp2_with (first | (go_at_call 74; (with_reducible refine ((PS _ (show sat E _ _ from by iterate 6 (try (with_reducible first | exact K.out | apply sat.alloc_any | apply sat.drew | apply sat.drewN)))).out).mono ?_); rintro e w1 ⟨rfl, K1⟩; have K2 := Lib.hid K1; clear K1 K; (try clear a0); (try clear l0); (try clear a1); (try clear l1); (try clear a2); (try clear l2); have K := K2; clear K2; have a0 := K.out.rd 0 rfl; have l0 := K.out.ltp 0 rfl) | ((with_reducible refine at_store ?_); refine st_store 0 K.out rfl rfl rfl rfl ?_ ?_ ?_ ?_; (· kernel_rfl); (· simp); (· simp [Value.oneCell']); intro w1 K1; simp only [List.set, putL] at K1; have K2 := Lib.hid K1; clear K1 K; (try clear a0); (try clear l0); (try clear a1); (try clear l1); (try clear a2); (try clear l2); have K := K2; clear K2; have a0 := K.out.rd 0 rfl; have l0 := K.out.ltp 0 rfl))
        (first | go_end0 | ((try simp only [Exit.inBlock, Exit.then]); refine bodyPost_ret (results_none rfl _ _ _) rfl ?_))
        first | exact ⟨rfl, K.out⟩ | (rw [if_neg (by omega), if_neg G2.out, if_neg G3.out]; exact ⟨rfl, K.out⟩) | (rw [if_neg G2.out, if_neg G3.out]; exact ⟨rfl, K.out⟩) | (rw [if_neg G3.out]; exact ⟨rfl, K.out⟩)
theorem cstep_off (b bm : Nat) (t : ClaimM) (m : MemM) (hp : t.phase ≠ 0) (h : sat E w (claimA b t :: memA bm m :: L)) :
    Calls Try.prog 64 #[.pointer (some ⟨b, 0, none⟩), .pointer (some ⟨bm, 0, none⟩)] w fun e w' => e = .returned (.int .i64 t.phase) ∧ sat E w' (claimA b t :: memA bm m :: L) := by
  have K := Lib.hid h
  clear h
  have a0 := K.out.rd 0 rfl; have l0 := K.out.ltp 0 rfl
  have c0 : (t.phase == 0) = false := by simpa using hp
  clear hp
  go_enter Try.func64, Try.ntmps64
  go_wp2
  go_ret
  exact ⟨rfl, K.out⟩
theorem cstep_look (b bm : Nat) (t : ClaimM) (m : MemM) (ho : t.ok) (hp : t.phase = 0) (hg : t.guard < 0) (hroom : m.log.length < 1000000000) (h : sat E w (claimA b t :: memA bm m :: L)) :
    Calls Try.prog 64 #[.pointer (some ⟨b, 0, none⟩), .pointer (some ⟨bm, 0, none⟩)] w fun e w' => e = .returned (.int .i64 (t.look m).1.phase) ∧ sat E w' (claimA b (t.look m).1 :: memA bm (t.look m).2 :: L) := by
  have K := Lib.hid h
  clear h
  have a0 := K.out.rd 0 rfl; have l0 := K.out.ltp 0 rfl
  have LK := fun w (h : sat E w (claimA b t :: memA bm m :: L)) => Lib.hid (clook_calls b bm t m ho hroom h)
  have c0 : (t.phase == 0) = true := by simpa using hp
  clear hp ho
  go_enter Try.func64, Try.ntmps64
  go_wp2_with (first | (go_at_call 73; (with_reducible refine ((LK _ (show sat E _ _ from by iterate 6 (try (with_reducible first | exact K.out | apply sat.alloc_any | apply sat.drew | apply sat.drewN)))).out).mono ?_); rintro e w1 ⟨rfl, K1⟩; have K2 := Lib.hid K1; clear K1 K; (try clear a0); (try clear l0); (try clear a1); (try clear l1); (try clear a2); (try clear l2); have K := K2; clear K2; have a0 := K.out.rd 0 rfl; have l0 := K.out.ltp 0 rfl))
  go_ret
  exact ⟨rfl, K.out⟩
theorem cstep_guard (b bm : Nat) (t : ClaimM) (m : MemM) (ho : t.ok) (hp : t.phase = 0) (hg : 0 ≤ t.guard) (hroom : m.log.length < 1000000000) (h : sat E w (claimA b t :: memA bm m :: L)) :
    Calls Try.prog 64 #[.pointer (some ⟨b, 0, none⟩), .pointer (some ⟨bm, 0, none⟩)] w fun e w' => e = .returned (.int .i64 (t.step m).1.phase) ∧ sat E w' (claimA b (t.step m).1 :: memA bm (t.step m).2 :: L) := by
  have K := Lib.hid h
  clear h
  have a0 := K.out.rd 0 rfl; have l0 := K.out.ltp 0 rfl
  have SL := fun m' w (h : sat E w (claimA b t :: memA bm m' :: L)) => Lib.hid (cslot_calls b t ho h)
  have H := fun w => Lib.hid (hazard_calls t.conf w ho.conf t.guard hg (ho.g1 hp))
  have LD := fun w (h : sat E w (memA bm m :: claimA b t :: L)) => Lib.hid (load_calls bm m t.who (t.conf.hazard t.guard) hroom h)
  have PS := fun w (h : sat E w (claimA b t :: memA bm (m.touch t.who 0 (t.conf.hazard t.guard) 0 0) :: L)) => Lib.hid (cpass_calls b t ho h)
  have B := ho.slot_bd
  obtain ⟨B0, B1, B2⟩ := B
  have v1 : IntKind.i64.wrap (t.slot + 1) = t.slot + 1 := wi (by omega) (by omega)
  have v2 : IntKind.u64.wrap (t.slot + 1) = t.slot + 1 := by rw [IntKind.wrap_u64]; omega
  have g1 := ho.g1 hp
  have t2 := ho.conf.th2
  have v3 : IntKind.i64.wrap (t.guard + 1) = t.guard + 1 := wi (by omega) (by omega)
  have c0 : (t.phase == 0) = true := by simpa using hp
  have e : t.step m = (if m.peek (t.conf.hazard t.guard) = t.slot + 1 then t.pass else if t.guard + 1 = t.conf.th then { t with guard := t.guard + 1, phase := 1 } else { t with guard := t.guard + 1 }, m.touch t.who 0 (t.conf.hazard t.guard) 0 0) := by
    unfold ClaimM.step; rw [if_neg (by simpa using hp), if_neg (by omega)]
  rw [e]
  generalize m.peek (t.conf.hazard t.guard) = x at LD ⊢
  clear e hp ho
  by_cases q1 : x = t.slot + 1
  · rw [if_pos q1]
    have c1 : (x == t.slot + 1) = true := by simpa using q1
    clear q1
    go_enter Try.func64, Try.ntmps64
    go_wp2_with fail
    go_region_held3 (fun w' => (∀ j, w'.cell? ⟨b, j, none⟩ = (t.v)[j]?) ∧ b < w'.heap.size) (first | exact sat.s0 (by repeat (with_reducible first | exact K.out | apply sat.alloc_any | apply sat.drew | apply sat.drewN)) | go_keep) (first | (go_at_call 67; (with_reducible refine ((SL _ _ (show sat E _ _ from by iterate 6 (try (with_reducible first | exact K.out | apply sat.alloc_any | apply sat.drew | apply sat.drewN)))).out).mono ?_); rintro e w1 ⟨rfl, hb⟩; have K1 := sat.grown (by repeat (with_reducible first | exact K.out | apply sat.alloc_any | apply sat.drew | apply sat.drewN)) hb; clear hb; have K2 := Lib.hid K1; clear K1 K; (try clear a0); (try clear l0); (try clear a1); (try clear l1); (try clear a2); (try clear l2); have K := K2; clear K2; have a0 := K.out.rd 0 rfl; have l0 := K.out.ltp 0 rfl) | (go_at_call 21; (with_reducible refine ((H _).out).mono ?_); rintro e w1 ⟨rfl, hb⟩; have K1 := sat.grown (by repeat (with_reducible first | exact K.out | apply sat.alloc_any | apply sat.drew | apply sat.drewN)) hb; clear hb; have K2 := Lib.hid K1; clear K1 K; (try clear a0); (try clear l0); (try clear a1); (try clear l1); (try clear a2); (try clear l2); have K := K2; clear K2; have a0 := K.out.rd 0 rfl; have l0 := K.out.ltp 0 rfl) | (go_at_call 51; (with_reducible refine ((LD _ (show sat E _ _ from by iterate 6 (try (with_reducible first | exact K.out | apply sat.alloc_any | apply sat.drew | apply sat.drewN))).swap).out).mono ?_); rintro e w1 ⟨rfl, K1⟩; replace K1 := K1.swap; have K2 := Lib.hid K1; clear K1 K; (try clear a0); (try clear l0); (try clear a1); (try clear l1); (try clear a2); (try clear l2); have K := K2; clear K2; have a0 := K.out.rd 0 rfl; have l0 := K.out.ltp 0 rfl))
    all_goals
      go_wp2_with (first | (go_at_call 74; (with_reducible refine ((PS _ (show sat E _ _ from by iterate 6 (try (with_reducible first | exact K.out | apply sat.alloc_any | apply sat.drew | apply sat.drewN)))).out).mono ?_); rintro e w1 ⟨rfl, K1⟩; have K2 := Lib.hid K1; clear K1 K; (try clear a0); (try clear l0); (try clear a1); (try clear l1); (try clear a2); (try clear l2); have K := K2; clear K2; have a0 := K.out.rd 0 rfl; have l0 := K.out.ltp 0 rfl) | ((with_reducible refine at_store ?_); refine st_store 0 K.out rfl rfl rfl rfl ?_ ?_ ?_ ?_; (· kernel_rfl); (· simp); (· simp [Value.oneCell']); intro w1 K1; simp only [List.set, putL] at K1; have K2 := Lib.hid K1; clear K1 K; (try clear a0); (try clear l0); (try clear a1); (try clear l1); (try clear a2); (try clear l2); have K := K2; clear K2; have a0 := K.out.rd 0 rfl; have l0 := K.out.ltp 0 rfl))
      go_ret
      exact ⟨rfl, K.out⟩
  · rw [if_neg q1]
    have c1 : (x == t.slot + 1) = false := by simpa using q1
    clear q1 PS
    by_cases q2 : t.guard + 1 = t.conf.th
    · rw [if_pos q2]
      have c2 : (t.guard + 1 == t.conf.th) = true := by simpa using q2
      clear q2
      go_enter Try.func64, Try.ntmps64
      go_wp2_with fail
      go_region_held3 (fun w' => (∀ j, w'.cell? ⟨b, j, none⟩ = (t.v)[j]?) ∧ b < w'.heap.size) (first | exact sat.s0 (by repeat (with_reducible first | exact K.out | apply sat.alloc_any | apply sat.drew | apply sat.drewN)) | go_keep) (first | (go_at_call 67; (with_reducible refine ((SL _ _ (show sat E _ _ from by iterate 6 (try (with_reducible first | exact K.out | apply sat.alloc_any | apply sat.drew | apply sat.drewN)))).out).mono ?_); rintro e w1 ⟨rfl, hb⟩; have K1 := sat.grown (by repeat (with_reducible first | exact K.out | apply sat.alloc_any | apply sat.drew | apply sat.drewN)) hb; clear hb; have K2 := Lib.hid K1; clear K1 K; (try clear a0); (try clear l0); (try clear a1); (try clear l1); (try clear a2); (try clear l2); have K := K2; clear K2; have a0 := K.out.rd 0 rfl; have l0 := K.out.ltp 0 rfl) | (go_at_call 21; (with_reducible refine ((H _).out).mono ?_); rintro e w1 ⟨rfl, hb⟩; have K1 := sat.grown (by repeat (with_reducible first | exact K.out | apply sat.alloc_any | apply sat.drew | apply sat.drewN)) hb; clear hb; have K2 := Lib.hid K1; clear K1 K; (try clear a0); (try clear l0); (try clear a1); (try clear l1); (try clear a2); (try clear l2); have K := K2; clear K2; have a0 := K.out.rd 0 rfl; have l0 := K.out.ltp 0 rfl) | (go_at_call 51; (with_reducible refine ((LD _ (show sat E _ _ from by iterate 6 (try (with_reducible first | exact K.out | apply sat.alloc_any | apply sat.drew | apply sat.drewN))).swap).out).mono ?_); rintro e w1 ⟨rfl, K1⟩; replace K1 := K1.swap; have K2 := Lib.hid K1; clear K1 K; (try clear a0); (try clear l0); (try clear a1); (try clear l1); (try clear a2); (try clear l2); have K := K2; clear K2; have a0 := K.out.rd 0 rfl; have l0 := K.out.ltp 0 rfl))
      all_goals
        go_wp2_with (first | ((with_reducible refine at_store ?_); refine st_store 0 K.out rfl rfl rfl rfl ?_ ?_ ?_ ?_; (· kernel_rfl); (· simp); (· simp [Value.oneCell']); intro w1 K1; simp only [List.set, putL] at K1; have K2 := Lib.hid K1; clear K1 K; (try clear a0); (try clear l0); (try clear a1); (try clear l1); (try clear a2); (try clear l2); have K := K2; clear K2; have a0 := K.out.rd 0 rfl; have l0 := K.out.ltp 0 rfl))
        go_quiet (fail); (have K1 := K.out.drewN nq; revert K1; generalize World.drewN w1 nq = w9; intro K1; have K2 := Lib.hid K1; clear K1 K; (try clear a0); (try clear l0); (try clear a1); (try clear l1); (try clear a2); (try clear l2); have K := K2; clear K2; have a0 := K.out.rd 0 rfl; have l0 := K.out.ltp 0 rfl)
        go_wp2_with (first | ((with_reducible refine at_store ?_); refine st_store 0 K.out rfl rfl rfl rfl ?_ ?_ ?_ ?_; (· kernel_rfl); (· simp); (· simp [Value.oneCell']); intro w1 K1; simp only [List.set, putL] at K1; have K2 := Lib.hid K1; clear K1 K; (try clear a0); (try clear l0); (try clear a1); (try clear l1); (try clear a2); (try clear l2); have K := K2; clear K2; have a0 := K.out.rd 0 rfl; have l0 := K.out.ltp 0 rfl))
        go_ret
        exact ⟨rfl, K.out⟩
    · rw [if_neg q2]
      have c2 : (t.guard + 1 == t.conf.th) = false := by simpa using q2
      clear q2
      go_enter Try.func64, Try.ntmps64
      go_wp2_with fail
      go_region_held3 (fun w' => (∀ j, w'.cell? ⟨b, j, none⟩ = (t.v)[j]?) ∧ b < w'.heap.size) (first | exact sat.s0 (by repeat (with_reducible first | exact K.out | apply sat.alloc_any | apply sat.drew | apply sat.drewN)) | go_keep) (first | (go_at_call 67; (with_reducible refine ((SL _ _ (show sat E _ _ from by iterate 6 (try (with_reducible first | exact K.out | apply sat.alloc_any | apply sat.drew | apply sat.drewN)))).out).mono ?_); rintro e w1 ⟨rfl, hb⟩; have K1 := sat.grown (by repeat (with_reducible first | exact K.out | apply sat.alloc_any | apply sat.drew | apply sat.drewN)) hb; clear hb; have K2 := Lib.hid K1; clear K1 K; (try clear a0); (try clear l0); (try clear a1); (try clear l1); (try clear a2); (try clear l2); have K := K2; clear K2; have a0 := K.out.rd 0 rfl; have l0 := K.out.ltp 0 rfl) | (go_at_call 21; (with_reducible refine ((H _).out).mono ?_); rintro e w1 ⟨rfl, hb⟩; have K1 := sat.grown (by repeat (with_reducible first | exact K.out | apply sat.alloc_any | apply sat.drew | apply sat.drewN)) hb; clear hb; have K2 := Lib.hid K1; clear K1 K; (try clear a0); (try clear l0); (try clear a1); (try clear l1); (try clear a2); (try clear l2); have K := K2; clear K2; have a0 := K.out.rd 0 rfl; have l0 := K.out.ltp 0 rfl) | (go_at_call 51; (with_reducible refine ((LD _ (show sat E _ _ from by iterate 6 (try (with_reducible first | exact K.out | apply sat.alloc_any | apply sat.drew | apply sat.drewN))).swap).out).mono ?_); rintro e w1 ⟨rfl, K1⟩; replace K1 := K1.swap; have K2 := Lib.hid K1; clear K1 K; (try clear a0); (try clear l0); (try clear a1); (try clear l1); (try clear a2); (try clear l2); have K := K2; clear K2; have a0 := K.out.rd 0 rfl; have l0 := K.out.ltp 0 rfl))
      all_goals
        go_wp2_with (first | ((with_reducible refine at_store ?_); refine st_store 0 K.out rfl rfl rfl rfl ?_ ?_ ?_ ?_; (· kernel_rfl); (· simp); (· simp [Value.oneCell']); intro w1 K1; simp only [List.set, putL] at K1; have K2 := Lib.hid K1; clear K1 K; (try clear a0); (try clear l0); (try clear a1); (try clear l1); (try clear a2); (try clear l2); have K := K2; clear K2; have a0 := K.out.rd 0 rfl; have l0 := K.out.ltp 0 rfl))
        go_quiet (fail); (have K1 := K.out.drewN nq; revert K1; generalize World.drewN w1 nq = w9; intro K1; have K2 := Lib.hid K1; clear K1 K; (try clear a0); (try clear l0); (try clear a1); (try clear l1); (try clear a2); (try clear l2); have K := K2; clear K2; have a0 := K.out.rd 0 rfl; have l0 := K.out.ltp 0 rfl)
        go_wp2_with (first | ((with_reducible refine at_store ?_); refine st_store 0 K.out rfl rfl rfl rfl ?_ ?_ ?_ ?_; (· kernel_rfl); (· simp); (· simp [Value.oneCell']); intro w1 K1; simp only [List.set, putL] at K1; have K2 := Lib.hid K1; clear K1 K; (try clear a0); (try clear l0); (try clear a1); (try clear l1); (try clear a2); (try clear l2); have K := K2; clear K2; have a0 := K.out.rd 0 rfl; have l0 := K.out.ltp 0 rfl))
        go_ret
        exact ⟨rfl, K.out⟩
theorem cstep_calls (b bm : Nat) (t : ClaimM) (m : MemM) (ho : t.ok) (hroom : m.log.length < 1000000000) (h : sat E w (claimA b t :: memA bm m :: L)) :
    Calls Try.prog 64 #[.pointer (some ⟨b, 0, none⟩), .pointer (some ⟨bm, 0, none⟩)] w fun e w' => e = .returned (.int .i64 (t.step m).1.phase) ∧ sat E w' (claimA b (t.step m).1 :: memA bm (t.step m).2 :: L) := by
  by_cases hp : t.phase = 0
  · by_cases hg : t.guard < 0
    · have e : t.step m = t.look m := by unfold ClaimM.step; rw [if_neg (by simpa using hp), if_pos hg]
      rw [e]; exact cstep_look b bm t m ho hp hg hroom h
    · exact cstep_guard b bm t m ho hp (by omega) hroom h
  · have e : t.step m = (t, m) := by unfold ClaimM.step; rw [if_pos hp]
    rw [e]; exact cstep_off b bm t m hp h
end
end Go.Proofs.Ytdhcomklmckhoaa
