/- Several texts in one: Claim Take Put. Each says ahead of it what it shows. -/
import Derived.Test.YtegdhojhnmgjgaaGreatB3
set_option linter.unusedVariables false
set_option linter.unusedSimpArgs false
/- A place that may be used anew is looked for (package claim): what each of its functions does. Conditions: a Right layout, a thread of it, room for what is noted. -/
namespace Go.Proofs.YtegdhojhnmgjgaaGreat
open Go.RowKit Go.SepYtegdhojhnmgjgaaGreat
set_option maxRecDepth 100000
set_option maxHeartbeats 1000000
attribute [local go_sem] min2_w max2_w min_w max_w
abbrev ClaimM.v (t : ClaimM) : List Value := [.int .i64 t.conf.th, .int .i64 t.conf.sl, .int .i64 t.conf.src, .int .i64 t.conf.dl, .int .i64 t.who, .int .i64 t.k, .int .i64 t.guard, .int .i64 t.word.state, .int .i64 t.word.fin, .int .i64 t.word.gen, .int .i64 t.word.stamp.lo, .int .i64 t.word.stamp.hi, .int .i64 t.phase]
abbrev claimA (b : Nat) (t : ClaimM) : SA := pt b (.cells t.v.toArray 151 (0, 0))
structure ClaimM.ok (t : ClaimM) : Prop where
  conf : t.conf.ok
  who0 : 0 ≤ t.who
  who1 : t.who < t.conf.th
  k0 : 0 ≤ t.k
  k1 : t.k < t.conf.sl
  g0 : -1 ≤ t.guard
  g1 : t.phase = 0 → t.guard < t.conf.th
theorem ClaimM.ok.slot_bd {t : ClaimM} (h : t.ok) : 0 ≤ t.slot ∧ t.slot < t.conf.all ∧ t.conf.all ≤ 4096 := by
  have := h.conf.first_bd h.who0 h.who1
  have := h.conf.all_bd
  have := h.k0
  have := h.k1
  unfold ClaimM.slot
  omega
section
variable {E w : World} {L : List SA}
theorem claimnew_calls (c : ConfM) (who : Int) (h : sat E w L) :
    Calls Tryz.prog 67 #[.agg #[.int .i64 c.th, .int .i64 c.sl, .int .i64 c.src, .int .i64 c.dl], .int .i64 who] w (NewA E L (fun g => claimA g (ClaimM.new c who))) := by
  have K := Lib.hid h
  clear h
  go_enter Tryz.func67, Tryz.ntmps67
  go_wp2
  go_ret
  exact ⟨w.heap.size + 1, rfl, K.out.alloc2⟩
theorem cphase_calls (b : Nat) (t : ClaimM) (h : sat E w (claimA b t :: L)) :
    Calls Tryz.prog 70 #[.pointer (some ⟨b, 0, none⟩)] w fun e w' => e = .returned (.int .i64 t.phase) ∧ w = w' := by
  have a0 := h.rd 0 rfl
  clear h
  go_enter Tryz.func70, Tryz.ntmps70
  go_wp2
  go_ret
  exact ⟨rfl, rfl⟩
theorem cword_calls (b : Nat) (t : ClaimM) (h : sat E w (claimA b t :: L)) :
    Calls Tryz.prog 77 #[.pointer (some ⟨b, 0, none⟩)] w fun e w' => e = .returned (.agg #[.int .i64 t.word.state, .int .i64 t.word.fin, .int .i64 t.word.gen, .int .i64 t.word.stamp.lo, .int .i64 t.word.stamp.hi]) ∧ sat E w' (claimA b t :: L) := by
  have K := Lib.hid h
  clear h
  have a0 := K.out.rd 0 rfl; have l0 := K.out.ltp 0 rfl
  go_enter Tryz.func77, Tryz.ntmps77
  go_wp2
  exact bodyPost_ret (v := .agg #[.int .i64 t.word.state, .int .i64 t.word.fin, .int .i64 t.word.gen, .int .i64 t.word.stamp.lo, .int .i64 t.word.stamp.hi]) (by simp [results, Tryz.results77, go_sem]) rfl ⟨rfl, (by repeat (with_reducible first | exact K.out | apply sat.alloc_any | apply sat.drew | apply sat.drewN))⟩
theorem cslot_calls (b : Nat) (t : ClaimM) (ho : t.ok) (h : sat E w (claimA b t :: L)) :
    Calls Tryz.prog 76 #[.pointer (some ⟨b, 0, none⟩)] w fun e w' => e = .returned (.int .i64 t.slot) ∧ Below w.heap.size w w' := by
  have F := fun w => Lib.hid (first_calls t.conf w ho.conf t.who ho.who0 ho.who1)
  have B := ho.slot_bd
  have e : IntKind.i64.wrap (t.conf.first t.who + t.k) = t.slot := wi (by unfold ClaimM.slot at B; omega) (by unfold ClaimM.slot at B; omega)
  have H := Lib.hid e
  have a0 := h.rd 0 rfl
  have l0 := h.ltp 0 rfl
  clear h e ho B
  go_enter Tryz.func76, Tryz.ntmps76
  go_wp2_with fail
  go_region_held3 (fun w' => (∀ j, w'.cell? ⟨b, j, none⟩ = t.v[j]?) ∧ Below w.heap.size w w' ∧ b < w'.heap.size) (first | exact ⟨a0, Below.refl _ _, l0⟩ | exact ⟨a0, (Below.refl _ _).drew, l0⟩ | exact held_step (by assumption) (by assumption) | go_keep)
    (first | (go_at_call 105; (with_reducible refine (F _).out.mono ?_); rintro e w1 ⟨rfl, hb⟩))
  go_wp2
  go_ret
  rename_i hh
  exact ⟨ret_i H.out, hh.2.1⟩
theorem cpass_calls (b : Nat) (t : ClaimM) (ho : t.ok) (h : sat E w (claimA b t :: L)) :
    Calls Tryz.prog 97 #[.pointer (some ⟨b, 0, none⟩)] w fun e w' => e = .returned (.tuple #[]) ∧ sat E w' (claimA b t.pass :: L) := by
  have K := Lib.hid h
  clear h
  have a0 := K.out.rd 0 rfl; have l0 := K.out.ltp 0 rfl
  have k0 := ho.k0
  have k1 := ho.k1
  have s1 := ho.conf.sl2
  clear ho
  by_cases hk : t.k + 1 = t.conf.sl
  · have e : t.pass = { t with guard := -1, phase := 2 } := if_pos hk
    rw [e]
    have c0 : (t.k + 1 == t.conf.sl) = true := by simpa using hk
    have v1 : IntKind.i64.wrap (t.k + 1) = t.k + 1 := wi (by omega) (by omega)
    clear e hk
    go_enter Tryz.func97, Tryz.ntmps97
    go_wp2_with (first | ((with_reducible refine at_store ?_); refine st_store 0 K.out rfl rfl rfl rfl ?_ ?_ ?_ ?_; (· kernel_rfl); (· simp); (· simp [Value.oneCell']); intro w1 K1; simp only [List.set, putL] at K1; have K2 := Lib.hid K1; clear K1 K; (try clear a0); (try clear l0); (try clear a1); (try clear l1); (try clear a2); (try clear l2); have K := K2; clear K2; have a0 := K.out.rd 0 rfl; have l0 := K.out.ltp 0 rfl))
    go_quiet (fail); (have K1 := K.out.drewN nq; revert K1; generalize World.drewN w1 nq = w9; intro K1; have K2 := Lib.hid K1; clear K1 K; (try clear a0); (try clear l0); (try clear a1); (try clear l1); (try clear a2); (try clear l2); have K := K2; clear K2; have a0 := K.out.rd 0 rfl; have l0 := K.out.ltp 0 rfl)
    go_wp2_with (first | ((with_reducible refine at_store ?_); refine st_store 0 K.out rfl rfl rfl rfl ?_ ?_ ?_ ?_; (· kernel_rfl); (· simp); (· simp [Value.oneCell']); intro w1 K1; simp only [List.set, putL] at K1; have K2 := Lib.hid K1; clear K1 K; (try clear a0); (try clear l0); (try clear a1); (try clear l1); (try clear a2); (try clear l2); have K := K2; clear K2; have a0 := K.out.rd 0 rfl; have l0 := K.out.ltp 0 rfl))
    (first | go_end0 | ((try simp only [Exit.inBlock, Exit.then]); refine bodyPost_ret (results_none rfl _ _ _) rfl ?_))
    exact ⟨rfl, K.out⟩
  · have e : t.pass = { t with guard := -1, k := t.k + 1 } := if_neg hk
    rw [e]
    have c0 : (t.k + 1 == t.conf.sl) = false := by simpa using hk
    have v1 : IntKind.i64.wrap (t.k + 1) = t.k + 1 := wi (by omega) (by omega)
    clear e hk
    go_enter Tryz.func97, Tryz.ntmps97
    go_wp2_with (first | ((with_reducible refine at_store ?_); refine st_store 0 K.out rfl rfl rfl rfl ?_ ?_ ?_ ?_; (· kernel_rfl); (· simp); (· simp [Value.oneCell']); intro w1 K1; simp only [List.set, putL] at K1; have K2 := Lib.hid K1; clear K1 K; (try clear a0); (try clear l0); (try clear a1); (try clear l1); (try clear a2); (try clear l2); have K := K2; clear K2; have a0 := K.out.rd 0 rfl; have l0 := K.out.ltp 0 rfl))
    go_quiet (fail); (have K1 := K.out.drewN nq; revert K1; generalize World.drewN w1 nq = w9; intro K1; have K2 := Lib.hid K1; clear K1 K; (try clear a0); (try clear l0); (try clear a1); (try clear l1); (try clear a2); (try clear l2); have K := K2; clear K2; have a0 := K.out.rd 0 rfl; have l0 := K.out.ltp 0 rfl)
    go_wp2_with (first | ((with_reducible refine at_store ?_); refine st_store 0 K.out rfl rfl rfl rfl ?_ ?_ ?_ ?_; (· kernel_rfl); (· simp); (· simp [Value.oneCell']); intro w1 K1; simp only [List.set, putL] at K1; have K2 := Lib.hid K1; clear K1 K; (try clear a0); (try clear l0); (try clear a1); (try clear l1); (try clear a2); (try clear l2); have K := K2; clear K2; have a0 := K.out.rd 0 rfl; have l0 := K.out.ltp 0 rfl))
    (first | go_end0 | ((try simp only [Exit.inBlock, Exit.then]); refine bodyPost_ret (results_none rfl _ _ _) rfl ?_))
    exact ⟨rfl, K.out⟩
theorem claimS {b : Nat} {t t' : ClaimM} {M : List SA} (h : sat E w (claimA b t' :: M)) (hc : t'.conf = t.conf) (hw : t'.who = t.who) :
    w.cell? ⟨b, 0, none⟩ = some (.int .i64 t.conf.th) ∧ w.cell? ⟨b, 1, none⟩ = some (.int .i64 t.conf.sl) ∧ w.cell? ⟨b, 2, none⟩ = some (.int .i64 t.conf.src) ∧ w.cell? ⟨b, 3, none⟩ = some (.int .i64 t.conf.dl) ∧ w.cell? ⟨b, 4, none⟩ = some (.int .i64 t.who) ∧ (∀ j, w.frozen? ⟨b, j, none⟩ = false) := by
  have := h.rd 0 rfl
  rw [← hc, ← hw]
  exact ⟨this 0, this 1, this 2, this 3, this 4, h.fr 0 rfl⟩
theorem clook_calls (b bm : Nat) (t : ClaimM) (m : MemM) (ho : t.ok) (hroom : m.log.length < 1000000000) (h : sat E w (claimA b t :: memA bm m :: L)) :
    Calls Tryz.prog 94 #[.pointer (some ⟨b, 0, none⟩), .pointer (some ⟨bm, 0, none⟩)] w fun e w' => e = .returned (.tuple #[]) ∧ sat E w' (claimA b (t.look m).1 :: memA bm (t.look m).2 :: L) := by
  have K := Lib.hid h
  have hpk := MemM.peek_wf (memA_open h.swap).1 t.slot
  have B := ho.slot_bd
  clear h
  have a0 := K.out.rd 0 rfl; have l0 := K.out.ltp 0 rfl
  have f0 := K.out.fr 0 rfl
  have SL := fun w (h : sat E w (claimA b t :: memA bm m :: L)) => Lib.hid (cslot_calls b t ho h)
  have LD := fun w (h : sat E w (memA bm m :: claimA b t :: L)) => Lib.hid (load_calls bm m t.who t.slot hroom h)
  have U : ∀ w, Hid (Tells 91 #[.int .u64 (m.peek t.slot)] w (.agg #[.int .i64 (unpack (m.peek t.slot)).state, .int .i64 (unpack (m.peek t.slot)).fin, .int .i64 (unpack (m.peek t.slot)).gen, .int .i64 (unpack (m.peek t.slot)).stamp.lo, .int .i64 (unpack (m.peek t.slot)).stamp.hi])) := fun w => Lib.hid (unpack_calls (m.peek t.slot) hpk.1 hpk.2 w)
  have el : t.look m = (if (unpack (m.peek t.slot)).gen ≥ 8191 then ({ t with word := unpack (m.peek t.slot) } : ClaimM).pass else if (unpack (m.peek t.slot)).state = 0 then { t with word := unpack (m.peek t.slot), phase := 1 } else if (unpack (m.peek t.slot)).state = 2 then { t with word := unpack (m.peek t.slot), guard := 0 } else ({ t with word := unpack (m.peek t.slot) } : ClaimM).pass, m.touch t.who 0 t.slot 0 0) := rfl
  rw [el]
  clear el hpk
  generalize unpack (m.peek t.slot) = x at U ⊢
  have PS := fun w (h : sat E w (claimA b { t with word := x } :: memA bm (m.touch t.who 0 t.slot 0 0) :: L)) => Lib.hid (cpass_calls b { t with word := x } ⟨ho.conf, ho.who0, ho.who1, ho.k0, ho.k1, ho.g0, ho.g1⟩ h)
  clear ho B
  go_enter Tryz.func94, Tryz.ntmps94
  go_wp2_with fail
  go_region_held3 (fun w' => w'.cell? ⟨b, 0, none⟩ = some (.int .i64 t.conf.th) ∧ w'.cell? ⟨b, 1, none⟩ = some (.int .i64 t.conf.sl) ∧ w'.cell? ⟨b, 2, none⟩ = some (.int .i64 t.conf.src) ∧ w'.cell? ⟨b, 3, none⟩ = some (.int .i64 t.conf.dl) ∧ w'.cell? ⟨b, 4, none⟩ = some (.int .i64 t.who) ∧ (∀ j, w'.frozen? ⟨b, j, none⟩ = false)) (first | exact claimS (M := _) (by repeat (with_reducible first | exact K.out | apply sat.alloc_any | apply sat.drew | apply sat.drewN)) rfl rfl | exact claimS (M := _) (t' := { t with word := x }) (((((K.out.set0 (i := 7)).set0 (i := 8)).set0 (i := 9)).set0 (i := 10)).set0 (i := 11)) rfl rfl | go_keep)
    (first | (go_at_call 76; (with_reducible refine ((SL _ (show sat E _ _ from by iterate 6 (try (with_reducible first | exact K.out | apply sat.alloc_any | apply sat.drew | apply sat.drewN)))).out).mono ?_); rintro e w1 ⟨rfl, hb⟩; have K1 := sat.grown (by repeat (with_reducible first | exact K.out | apply sat.alloc_any | apply sat.drew | apply sat.drewN)) hb; clear hb; have K2 := Lib.hid K1; clear K1 K; (try clear a0); (try clear l0); (try clear a1); (try clear l1); (try clear a2); (try clear l2); have K := K2; clear K2; have a0 := K.out.rd 0 rfl; have l0 := K.out.ltp 0 rfl) | (go_at_call 33; (with_reducible refine (word_calls t.conf _ t.slot).mono ?_); rintro e w1 ⟨rfl, hb⟩; have K1 := sat.grown (by repeat (with_reducible first | exact K.out | apply sat.alloc_any | apply sat.drew | apply sat.drewN)) hb; clear hb; have K2 := Lib.hid K1; clear K1 K; (try clear a0); (try clear l0); (try clear a1); (try clear l1); (try clear a2); (try clear l2); have K := K2; clear K2; have a0 := K.out.rd 0 rfl; have l0 := K.out.ltp 0 rfl) | (go_at_call 95; (with_reducible refine ((LD _ (show sat E _ _ from by iterate 6 (try (with_reducible first | exact K.out | apply sat.alloc_any | apply sat.drew | apply sat.drewN))).swap).out).mono ?_); rintro e w1 ⟨rfl, K1⟩; replace K1 := K1.swap; have K2 := Lib.hid K1; clear K1 K; (try clear a0); (try clear l0); (try clear a1); (try clear l1); (try clear a2); (try clear l2); have K := K2; clear K2; have a0 := K.out.rd 0 rfl; have l0 := K.out.ltp 0 rfl) | (go_at_call 91; (with_reducible refine ((U _).out).mono ?_); rintro e w1 ⟨rfl, hb⟩; have K1 := sat.grown (by repeat (with_reducible first | exact K.out | apply sat.alloc_any | apply sat.drew | apply sat.drewN)) hb; clear hb; have K2 := Lib.hid K1; clear K1 K; (try clear a0); (try clear l0); (try clear a1); (try clear l1); (try clear a2); (try clear l2); have K := K2; clear K2; have a0 := K.out.rd 0 rfl; have l0 := K.out.ltp 0 rfl))
  have K1 := (((((K.out.set0 (i := 7) (v := .int .i64 x.state)).set0 (i := 8) (v := .int .i64 x.fin)).set0 (i := 9) (v := .int .i64 x.gen)).set0 (i := 10) (v := .int .i64 x.stamp.lo)).set0 (i := 11) (v := .int .i64 x.stamp.hi))
  simp only [List.set] at K1
  obtain ⟨w2, hw2, K2⟩ := K1.gen
  rw [← hw2]
  clear hw2 K1 K a0 l0 f0
  have K := Lib.hid K2
  clear K2
  have a0 := K.out.rd 0 rfl; have l0 := K.out.ltp 0 rfl
  rename_i hh1
  clear hh1
  by_cases g1 : 8191 ≤ x.gen
  · go_wp2_with (first | (go_at_call 97; (with_reducible refine ((PS _ (show sat E _ _ from by iterate 6 (try (with_reducible first | exact K.out | apply sat.alloc_any | apply sat.drew | apply sat.drewN)))).out).mono ?_); rintro e w1 ⟨rfl, K1⟩; have K2 := Lib.hid K1; clear K1 K; (try clear a0); (try clear l0); (try clear a1); (try clear l1); (try clear a2); (try clear l2); have K := K2; clear K2; have a0 := K.out.rd 0 rfl; have l0 := K.out.ltp 0 rfl) | ((with_reducible refine at_store ?_); refine st_store 0 K.out rfl rfl rfl rfl ?_ ?_ ?_ ?_; (· kernel_rfl); (· simp); (· simp [Value.oneCell']); intro w1 K1; simp only [List.set, putL] at K1; have K2 := Lib.hid K1; clear K1 K; (try clear a0); (try clear l0); (try clear a1); (try clear l1); (try clear a2); (try clear l2); have K := K2; clear K2; have a0 := K.out.rd 0 rfl; have l0 := K.out.ltp 0 rfl))
    (first | go_end0 | ((try simp only [Exit.inBlock, Exit.then]); refine bodyPost_ret (results_none rfl _ _ _) rfl ?_))
    first | exact ⟨rfl, K.out⟩ | (rw [if_pos g1]; exact ⟨rfl, K.out⟩)
  · by_cases g2 : x.state = 0
    · have c2 : (x.state == 0) = true := by simpa using g2
      have G2 := Lib.hid g2
      clear g2
      go_wp2_with (first | (go_at_call 97; (with_reducible refine ((PS _ (show sat E _ _ from by iterate 6 (try (with_reducible first | exact K.out | apply sat.alloc_any | apply sat.drew | apply sat.drewN)))).out).mono ?_); rintro e w1 ⟨rfl, K1⟩; have K2 := Lib.hid K1; clear K1 K; (try clear a0); (try clear l0); (try clear a1); (try clear l1); (try clear a2); (try clear l2); have K := K2; clear K2; have a0 := K.out.rd 0 rfl; have l0 := K.out.ltp 0 rfl) | ((with_reducible refine at_store ?_); refine st_store 0 K.out rfl rfl rfl rfl ?_ ?_ ?_ ?_; (· kernel_rfl); (· simp); (· simp [Value.oneCell']); intro w1 K1; simp only [List.set, putL] at K1; have K2 := Lib.hid K1; clear K1 K; (try clear a0); (try clear l0); (try clear a1); (try clear l1); (try clear a2); (try clear l2); have K := K2; clear K2; have a0 := K.out.rd 0 rfl; have l0 := K.out.ltp 0 rfl))
      (first | go_end0 | ((try simp only [Exit.inBlock, Exit.then]); refine bodyPost_ret (results_none rfl _ _ _) rfl ?_))
      first | exact ⟨rfl, K.out⟩ | (rw [if_neg (by omega), if_pos G2.out]; exact ⟨rfl, K.out⟩) | (rw [if_pos G2.out]; exact ⟨rfl, K.out⟩)
    · have c2 : (x.state == 0) = false := by simpa using g2
      have G2 := Lib.hid g2
      clear g2
      by_cases g3 : x.state = 2
      · have c3 : (x.state == 2) = true := by simpa using g3
        have G3 := Lib.hid g3
        clear g3
        go_wp2_with (first | (go_at_call 97; (with_reducible refine ((PS _ (show sat E _ _ from by iterate 6 (try (with_reducible first | exact K.out | apply sat.alloc_any | apply sat.drew | apply sat.drewN)))).out).mono ?_); rintro e w1 ⟨rfl, K1⟩; have K2 := Lib.hid K1; clear K1 K; (try clear a0); (try clear l0); (try clear a1); (try clear l1); (try clear a2); (try clear l2); have K := K2; clear K2; have a0 := K.out.rd 0 rfl; have l0 := K.out.ltp 0 rfl) | ((with_reducible refine at_store ?_); refine st_store 0 K.out rfl rfl rfl rfl ?_ ?_ ?_ ?_; (· kernel_rfl); (· simp); (· simp [Value.oneCell']); intro w1 K1; simp only [List.set, putL] at K1; have K2 := Lib.hid K1; clear K1 K; (try clear a0); (try clear l0); (try clear a1); (try clear l1); (try clear a2); (try clear l2); have K := K2; clear K2; have a0 := K.out.rd 0 rfl; have l0 := K.out.ltp 0 rfl))
        (first | go_end0 | ((try simp only [Exit.inBlock, Exit.then]); refine bodyPost_ret (results_none rfl _ _ _) rfl ?_))
        first | exact ⟨rfl, K.out⟩ | (rw [if_neg (by omega), if_neg G2.out, if_pos G3.out]; exact ⟨rfl, K.out⟩) | (rw [if_neg G2.out, if_pos G3.out]; exact ⟨rfl, K.out⟩) | (rw [if_pos G3.out]; exact ⟨rfl, K.out⟩)
      · have c3 : (x.state == 2) = false := by simpa using g3
        have G3 := Lib.hid g3
        clear g3
        go_wp2_with (first | (go_at_call 97; (with_reducible refine ((PS _ (show sat E _ _ from by iterate 6 (try (with_reducible first | exact K.out | apply sat.alloc_any | apply sat.drew | apply sat.drewN)))).out).mono ?_); rintro e w1 ⟨rfl, K1⟩; have K2 := Lib.hid K1; clear K1 K; (try clear a0); (try clear l0); (try clear a1); (try clear l1); (try clear a2); (try clear l2); have K := K2; clear K2; have a0 := K.out.rd 0 rfl; have l0 := K.out.ltp 0 rfl) | ((with_reducible refine at_store ?_); refine st_store 0 K.out rfl rfl rfl rfl ?_ ?_ ?_ ?_; (· kernel_rfl); (· simp); (· simp [Value.oneCell']); intro w1 K1; simp only [List.set, putL] at K1; have K2 := Lib.hid K1; clear K1 K; (try clear a0); (try clear l0); (try clear a1); (try clear l1); (try clear a2); (try clear l2); have K := K2; clear K2; have a0 := K.out.rd 0 rfl; have l0 := K.out.ltp 0 rfl))
        (first | go_end0 | ((try simp only [Exit.inBlock, Exit.then]); refine bodyPost_ret (results_none rfl _ _ _) rfl ?_))
        first | exact ⟨rfl, K.out⟩ | (rw [if_neg (by omega), if_neg G2.out, if_neg G3.out]; exact ⟨rfl, K.out⟩) | (rw [if_neg G2.out, if_neg G3.out]; exact ⟨rfl, K.out⟩) | (rw [if_neg G3.out]; exact ⟨rfl, K.out⟩)
theorem cstep_off (b bm : Nat) (t : ClaimM) (m : MemM) (hp : t.phase ≠ 0) (h : sat E w (claimA b t :: memA bm m :: L)) :
    Calls Tryz.prog 72 #[.pointer (some ⟨b, 0, none⟩), .pointer (some ⟨bm, 0, none⟩)] w fun e w' => e = .returned (.int .i64 t.phase) ∧ sat E w' (claimA b t :: memA bm m :: L) := by
  have K := Lib.hid h
  clear h
  have a0 := K.out.rd 0 rfl; have l0 := K.out.ltp 0 rfl
  have c0 : (t.phase == 0) = false := by simpa using hp
  clear hp
  go_enter Tryz.func72, Tryz.ntmps72
  go_wp2
  go_ret
  exact ⟨rfl, K.out⟩
theorem cstep_look (b bm : Nat) (t : ClaimM) (m : MemM) (ho : t.ok) (hp : t.phase = 0) (hg : t.guard < 0) (hroom : m.log.length < 1000000000) (h : sat E w (claimA b t :: memA bm m :: L)) :
    Calls Tryz.prog 72 #[.pointer (some ⟨b, 0, none⟩), .pointer (some ⟨bm, 0, none⟩)] w fun e w' => e = .returned (.int .i64 (t.look m).1.phase) ∧ sat E w' (claimA b (t.look m).1 :: memA bm (t.look m).2 :: L) := by
  have K := Lib.hid h
  clear h
  have a0 := K.out.rd 0 rfl; have l0 := K.out.ltp 0 rfl
  have LK := fun w (h : sat E w (claimA b t :: memA bm m :: L)) => Lib.hid (clook_calls b bm t m ho hroom h)
  have c0 : (t.phase == 0) = true := by simpa using hp
  clear hp ho
  go_enter Tryz.func72, Tryz.ntmps72
  go_wp2_with (first | (go_at_call 94; (with_reducible refine ((LK _ (show sat E _ _ from by iterate 6 (try (with_reducible first | exact K.out | apply sat.alloc_any | apply sat.drew | apply sat.drewN)))).out).mono ?_); rintro e w1 ⟨rfl, K1⟩; have K2 := Lib.hid K1; clear K1 K; (try clear a0); (try clear l0); (try clear a1); (try clear l1); (try clear a2); (try clear l2); have K := K2; clear K2; have a0 := K.out.rd 0 rfl; have l0 := K.out.ltp 0 rfl))
  go_ret
  exact ⟨rfl, K.out⟩
theorem cstep_guard (b bm : Nat) (t : ClaimM) (m : MemM) (ho : t.ok) (hp : t.phase = 0) (hg : 0 ≤ t.guard) (hroom : m.log.length < 1000000000) (h : sat E w (claimA b t :: memA bm m :: L)) :
    Calls Tryz.prog 72 #[.pointer (some ⟨b, 0, none⟩), .pointer (some ⟨bm, 0, none⟩)] w fun e w' => e = .returned (.int .i64 (t.step m).1.phase) ∧ sat E w' (claimA b (t.step m).1 :: memA bm (t.step m).2 :: L) := by
  have K := Lib.hid h
  clear h
  have a0 := K.out.rd 0 rfl; have l0 := K.out.ltp 0 rfl
  have SL := fun m' w (h : sat E w (claimA b t :: memA bm m' :: L)) => Lib.hid (cslot_calls b t ho h)
  have H := fun w => Lib.hid (hazard_calls t.conf w ho.conf t.guard hg (ho.g1 hp))
  have LD := fun w (h : sat E w (memA bm m :: claimA b t :: L)) => Lib.hid (load_calls bm m t.who (t.conf.hazard t.guard) hroom h)
  have PS := fun w (h : sat E w (claimA b t :: memA bm (m.touch t.who 0 (t.conf.hazard t.guard) 0 0) :: L)) => Lib.hid (cpass_calls b t ho h)
  have B := ho.slot_bd
  obtain ⟨B0, B1, B2⟩ := B
  have v1 : IntKind.i64.wrap (t.slot + 1) = t.slot + 1 := wi (by omega) (by omega)
  have v2 : IntKind.u64.wrap (t.slot + 1) = t.slot + 1 := by rw [IntKind.wrap_u64]; omega
  have g1 := ho.g1 hp
  have t2 := ho.conf.th2
  have v3 : IntKind.i64.wrap (t.guard + 1) = t.guard + 1 := wi (by omega) (by omega)
  have c0 : (t.phase == 0) = true := by simpa using hp
  have e : t.step m = (if m.peek (t.conf.hazard t.guard) = t.slot + 1 then t.pass else if t.guard + 1 = t.conf.th then { t with guard := t.guard + 1, phase := 1 } else { t with guard := t.guard + 1 }, m.touch t.who 0 (t.conf.hazard t.guard) 0 0) := by
    unfold ClaimM.step; rw [if_neg (by simpa using hp), if_neg (by omega)]
  rw [e]
  generalize m.peek (t.conf.hazard t.guard) = x at LD ⊢
  clear e hp ho
  by_cases q1 : x = t.slot + 1
  · rw [if_pos q1]
    have c1 : (x == t.slot + 1) = true := by simpa using q1
    clear q1
    go_enter Tryz.func72, Tryz.ntmps72
    go_wp2_with fail
    go_region_held3 (fun w' => (∀ j, w'.cell? ⟨b, j, none⟩ = (t.v)[j]?) ∧ b < w'.heap.size) (first | exact sat.s0 (by repeat (with_reducible first | exact K.out | apply sat.alloc_any | apply sat.drew | apply sat.drewN)) | go_keep) (first | (go_at_call 76; (with_reducible refine ((SL _ _ (show sat E _ _ from by iterate 6 (try (with_reducible first | exact K.out | apply sat.alloc_any | apply sat.drew | apply sat.drewN)))).out).mono ?_); rintro e w1 ⟨rfl, hb⟩; have K1 := sat.grown (by repeat (with_reducible first | exact K.out | apply sat.alloc_any | apply sat.drew | apply sat.drewN)) hb; clear hb; have K2 := Lib.hid K1; clear K1 K; (try clear a0); (try clear l0); (try clear a1); (try clear l1); (try clear a2); (try clear l2); have K := K2; clear K2; have a0 := K.out.rd 0 rfl; have l0 := K.out.ltp 0 rfl) | (go_at_call 96; (with_reducible refine ((H _).out).mono ?_); rintro e w1 ⟨rfl, hb⟩; have K1 := sat.grown (by repeat (with_reducible first | exact K.out | apply sat.alloc_any | apply sat.drew | apply sat.drewN)) hb; clear hb; have K2 := Lib.hid K1; clear K1 K; (try clear a0); (try clear l0); (try clear a1); (try clear l1); (try clear a2); (try clear l2); have K := K2; clear K2; have a0 := K.out.rd 0 rfl; have l0 := K.out.ltp 0 rfl) | (go_at_call 95; (with_reducible refine ((LD _ (show sat E _ _ from by iterate 6 (try (with_reducible first | exact K.out | apply sat.alloc_any | apply sat.drew | apply sat.drewN))).swap).out).mono ?_); rintro e w1 ⟨rfl, K1⟩; replace K1 := K1.swap; have K2 := Lib.hid K1; clear K1 K; (try clear a0); (try clear l0); (try clear a1); (try clear l1); (try clear a2); (try clear l2); have K := K2; clear K2; have a0 := K.out.rd 0 rfl; have l0 := K.out.ltp 0 rfl))
    all_goals
      go_wp2_with (first | (go_at_call 97; (with_reducible refine ((PS _ (show sat E _ _ from by iterate 6 (try (with_reducible first | exact K.out | apply sat.alloc_any | apply sat.drew | apply sat.drewN)))).out).mono ?_); rintro e w1 ⟨rfl, K1⟩; have K2 := Lib.hid K1; clear K1 K; (try clear a0); (try clear l0); (try clear a1); (try clear l1); (try clear a2); (try clear l2); have K := K2; clear K2; have a0 := K.out.rd 0 rfl; have l0 := K.out.ltp 0 rfl) | ((with_reducible refine at_store ?_); refine st_store 0 K.out rfl rfl rfl rfl ?_ ?_ ?_ ?_; (· kernel_rfl); (· simp); (· simp [Value.oneCell']); intro w1 K1; simp only [List.set, putL] at K1; have K2 := Lib.hid K1; clear K1 K; (try clear a0); (try clear l0); (try clear a1); (try clear l1); (try clear a2); (try clear l2); have K := K2; clear K2; have a0 := K.out.rd 0 rfl; have l0 := K.out.ltp 0 rfl))
      go_ret
      exact ⟨rfl, K.out⟩
  · rw [if_neg q1]
    have c1 : (x == t.slot + 1) = false := by simpa using q1
    clear q1 PS
    by_cases q2 : t.guard + 1 = t.conf.th
    · rw [if_pos q2]
      have c2 : (t.guard + 1 == t.conf.th) = true := by simpa using q2
      clear q2
      go_enter Tryz.func72, Tryz.ntmps72
      go_wp2_with fail
      go_region_held3 (fun w' => (∀ j, w'.cell? ⟨b, j, none⟩ = (t.v)[j]?) ∧ b < w'.heap.size) (first | exact sat.s0 (by repeat (with_reducible first | exact K.out | apply sat.alloc_any | apply sat.drew | apply sat.drewN)) | go_keep) (first | (go_at_call 76; (with_reducible refine ((SL _ _ (show sat E _ _ from by iterate 6 (try (with_reducible first | exact K.out | apply sat.alloc_any | apply sat.drew | apply sat.drewN)))).out).mono ?_); rintro e w1 ⟨rfl, hb⟩; have K1 := sat.grown (by repeat (with_reducible first | exact K.out | apply sat.alloc_any | apply sat.drew | apply sat.drewN)) hb; clear hb; have K2 := Lib.hid K1; clear K1 K; (try clear a0); (try clear l0); (try clear a1); (try clear l1); (try clear a2); (try clear l2); have K := K2; clear K2; have a0 := K.out.rd 0 rfl; have l0 := K.out.ltp 0 rfl) | (go_at_call 96; (with_reducible refine ((H _).out).mono ?_); rintro e w1 ⟨rfl, hb⟩; have K1 := sat.grown (by repeat (with_reducible first | exact K.out | apply sat.alloc_any | apply sat.drew | apply sat.drewN)) hb; clear hb; have K2 := Lib.hid K1; clear K1 K; (try clear a0); (try clear l0); (try clear a1); (try clear l1); (try clear a2); (try clear l2); have K := K2; clear K2; have a0 := K.out.rd 0 rfl; have l0 := K.out.ltp 0 rfl) | (go_at_call 95; (with_reducible refine ((LD _ (show sat E _ _ from by iterate 6 (try (with_reducible first | exact K.out | apply sat.alloc_any | apply sat.drew | apply sat.drewN))).swap).out).mono ?_); rintro e w1 ⟨rfl, K1⟩; replace K1 := K1.swap; have K2 := Lib.hid K1; clear K1 K; (try clear a0); (try clear l0); (try clear a1); (try clear l1); (try clear a2); (try clear l2); have K := K2; clear K2; have a0 := K.out.rd 0 rfl; have l0 := K.out.ltp 0 rfl))
      all_goals
        go_wp2_with (first | ((with_reducible refine at_store ?_); refine st_store 0 K.out rfl rfl rfl rfl ?_ ?_ ?_ ?_; (· kernel_rfl); (· simp); (· simp [Value.oneCell']); intro w1 K1; simp only [List.set, putL] at K1; have K2 := Lib.hid K1; clear K1 K; (try clear a0); (try clear l0); (try clear a1); (try clear l1); (try clear a2); (try clear l2); have K := K2; clear K2; have a0 := K.out.rd 0 rfl; have l0 := K.out.ltp 0 rfl))
        go_quiet (fail); (have K1 := K.out.drewN nq; revert K1; generalize World.drewN w1 nq = w9; intro K1; have K2 := Lib.hid K1; clear K1 K; (try clear a0); (try clear l0); (try clear a1); (try clear l1); (try clear a2); (try clear l2); have K := K2; clear K2; have a0 := K.out.rd 0 rfl; have l0 := K.out.ltp 0 rfl)
        go_wp2_with (first | ((with_reducible refine at_store ?_); refine st_store 0 K.out rfl rfl rfl rfl ?_ ?_ ?_ ?_; (· kernel_rfl); (· simp); (· simp [Value.oneCell']); intro w1 K1; simp only [List.set, putL] at K1; have K2 := Lib.hid K1; clear K1 K; (try clear a0); (try clear l0); (try clear a1); (try clear l1); (try clear a2); (try clear l2); have K := K2; clear K2; have a0 := K.out.rd 0 rfl; have l0 := K.out.ltp 0 rfl))
        go_ret
        exact ⟨rfl, K.out⟩
    · rw [if_neg q2]
      have c2 : (t.guard + 1 == t.conf.th) = false := by simpa using q2
      clear q2
      go_enter Tryz.func72, Tryz.ntmps72
      go_wp2_with fail
      go_region_held3 (fun w' => (∀ j, w'.cell? ⟨b, j, none⟩ = (t.v)[j]?) ∧ b < w'.heap.size) (first | exact sat.s0 (by repeat (with_reducible first | exact K.out | apply sat.alloc_any | apply sat.drew | apply sat.drewN)) | go_keep) (first | (go_at_call 76; (with_reducible refine ((SL _ _ (show sat E _ _ from by iterate 6 (try (with_reducible first | exact K.out | apply sat.alloc_any | apply sat.drew | apply sat.drewN)))).out).mono ?_); rintro e w1 ⟨rfl, hb⟩; have K1 := sat.grown (by repeat (with_reducible first | exact K.out | apply sat.alloc_any | apply sat.drew | apply sat.drewN)) hb; clear hb; have K2 := Lib.hid K1; clear K1 K; (try clear a0); (try clear l0); (try clear a1); (try clear l1); (try clear a2); (try clear l2); have K := K2; clear K2; have a0 := K.out.rd 0 rfl; have l0 := K.out.ltp 0 rfl) | (go_at_call 96; (with_reducible refine ((H _).out).mono ?_); rintro e w1 ⟨rfl, hb⟩; have K1 := sat.grown (by repeat (with_reducible first | exact K.out | apply sat.alloc_any | apply sat.drew | apply sat.drewN)) hb; clear hb; have K2 := Lib.hid K1; clear K1 K; (try clear a0); (try clear l0); (try clear a1); (try clear l1); (try clear a2); (try clear l2); have K := K2; clear K2; have a0 := K.out.rd 0 rfl; have l0 := K.out.ltp 0 rfl) | (go_at_call 95; (with_reducible refine ((LD _ (show sat E _ _ from by iterate 6 (try (with_reducible first | exact K.out | apply sat.alloc_any | apply sat.drew | apply sat.drewN))).swap).out).mono ?_); rintro e w1 ⟨rfl, K1⟩; replace K1 := K1.swap; have K2 := Lib.hid K1; clear K1 K; (try clear a0); (try clear l0); (try clear a1); (try clear l1); (try clear a2); (try clear l2); have K := K2; clear K2; have a0 := K.out.rd 0 rfl; have l0 := K.out.ltp 0 rfl))
      all_goals
        go_wp2_with (first | ((with_reducible refine at_store ?_); refine st_store 0 K.out rfl rfl rfl rfl ?_ ?_ ?_ ?_; (· kernel_rfl); (· simp); (· simp [Value.oneCell']); intro w1 K1; simp only [List.set, putL] at K1; have K2 := Lib.hid K1; clear K1 K; (try clear a0); (try clear l0); (try clear a1); (try clear l1); (try clear a2); (try clear l2); have K := K2; clear K2; have a0 := K.out.rd 0 rfl; have l0 := K.out.ltp 0 rfl))
        go_quiet (fail); (have K1 := K.out.drewN nq; revert K1; generalize World.drewN w1 nq = w9; intro K1; have K2 := Lib.hid K1; clear K1 K; (try clear a0); (try clear l0); (try clear a1); (try clear l1); (try clear a2); (try clear l2); have K := K2; clear K2; have a0 := K.out.rd 0 rfl; have l0 := K.out.ltp 0 rfl)
        go_wp2_with (first | ((with_reducible refine at_store ?_); refine st_store 0 K.out rfl rfl rfl rfl ?_ ?_ ?_ ?_; (· kernel_rfl); (· simp); (· simp [Value.oneCell']); intro w1 K1; simp only [List.set, putL] at K1; have K2 := Lib.hid K1; clear K1 K; (try clear a0); (try clear l0); (try clear a1); (try clear l1); (try clear a2); (try clear l2); have K := K2; clear K2; have a0 := K.out.rd 0 rfl; have l0 := K.out.ltp 0 rfl))
        go_ret
        exact ⟨rfl, K.out⟩
theorem cstep_calls (b bm : Nat) (t : ClaimM) (m : MemM) (ho : t.ok) (hroom : m.log.length < 1000000000) (h : sat E w (claimA b t :: memA bm m :: L)) :
    Calls Tryz.prog 72 #[.pointer (some ⟨b, 0, none⟩), .pointer (some ⟨bm, 0, none⟩)] w fun e w' => e = .returned (.int .i64 (t.step m).1.phase) ∧ sat E w' (claimA b (t.step m).1 :: memA bm (t.step m).2 :: L) := by
  by_cases hp : t.phase = 0
  · by_cases hg : t.guard < 0
    · have e : t.step m = t.look m := by unfold ClaimM.step; rw [if_neg (by simpa using hp), if_pos hg]
      rw [e]; exact cstep_look b bm t m ho hp hg hroom h
    · exact cstep_guard b bm t m ho hp (by omega) hroom h
  · have e : t.step m = (t, m) := by unfold ClaimM.step; rw [if_pos hp]
    rw [e]; exact cstep_off b bm t m hp h
end
end Go.Proofs.YtegdhojhnmgjgaaGreat
/- What is in a place is taken (package take): what each of its functions does. Conditions: a Right layout, a thread and a place of it, a word that Pack tells, room for what is noted. -/
namespace Go.Proofs.YtegdhojhnmgjgaaGreat
open Go.RowKit Go.SepYtegdhojhnmgjgaaGreat
set_option maxRecDepth 100000
set_option maxHeartbeats 1000000
attribute [local go_sem] min2_w max2_w min_w max_w
abbrev TakeM.v (t : TakeM) : List Value := [.int .i64 t.conf.th, .int .i64 t.conf.sl, .int .i64 t.conf.src, .int .i64 t.conf.dl, .int .i64 t.who, .int .i64 t.slot, .int .u64 t.word, .int .i64 t.steps, .bool t.lost, .int .u64 t.value, .int .i64 t.phase]
abbrev takeA (b : Nat) (t : TakeM) : SA := pt b (.cells t.v.toArray 166 (0, 0))
structure TakeM.ok (t : TakeM) : Prop where
  conf : t.conf.ok
  who0 : 0 ≤ t.who
  who1 : t.who < t.conf.th
  slot0 : 0 ≤ t.slot
  slot1 : t.slot < t.conf.all
  word0 : 0 ≤ t.word
  word1 : t.word < 18446744073709551616
  st0 : 0 ≤ t.steps
  st1 : t.steps ≤ 1000000000
theorem pack_bd (y : WordM) : 0 ≤ y.pack ∧ y.pack < 18446744073709551616 := by
  unfold WordM.pack
  split
  · rename_i h
    have := wordR h
    omega
  · omega
section
variable {E w : World} {L : List SA}
theorem takeS {b : Nat} {t t' : TakeM} {M : List SA} (h : sat E w (takeA b t' :: M)) (hc : t'.conf = t.conf) (hw : t'.who = t.who) (hs : t'.slot = t.slot) (hd : t'.word = t.word) :
    w.cell? ⟨b, 0, none⟩ = some (.int .i64 t.conf.th) ∧ w.cell? ⟨b, 1, none⟩ = some (.int .i64 t.conf.sl) ∧ w.cell? ⟨b, 2, none⟩ = some (.int .i64 t.conf.src) ∧ w.cell? ⟨b, 3, none⟩ = some (.int .i64 t.conf.dl) ∧ w.cell? ⟨b, 4, none⟩ = some (.int .i64 t.who) ∧ w.cell? ⟨b, 5, none⟩ = some (.int .i64 t.slot) ∧ w.cell? ⟨b, 6, none⟩ = some (.int .u64 t.word) ∧ (∀ j, w.frozen? ⟨b, j, none⟩ = false) := by
  have := h.rd 0 rfl
  rw [← hc, ← hw, ← hs, ← hd]
  exact ⟨this 0, this 1, this 2, this 3, this 4, this 5, this 6, h.fr 0 rfl⟩
theorem takenew_calls (c : ConfM) (who slot word : Int) (h : sat E w L) :
    Calls Tryz.prog 108 #[.agg #[.int .i64 c.th, .int .i64 c.sl, .int .i64 c.src, .int .i64 c.dl], .int .i64 who, .int .i64 slot, .int .u64 word] w (NewA E L (fun g => takeA g (TakeM.new c who slot word))) := by
  have K := Lib.hid h
  clear h
  go_enter Tryz.func108, Tryz.ntmps108
  go_wp2
  go_ret
  exact ⟨w.heap.size + 1, rfl, K.out.alloc2⟩
theorem tvalue_calls (b : Nat) (t : TakeM) (h : sat E w (takeA b t :: L)) :
    Calls Tryz.prog 83 #[.pointer (some ⟨b, 0, none⟩)] w fun e w' => e = .returned (.int .u64 t.get) ∧ w = w' := by
  have a0 := h.rd 0 rfl
  clear h
  unfold TakeM.get
  by_cases hp : t.phase = 1
  · rw [if_pos hp]
    have c0 : (t.phase == 1) = true := by simpa using hp
    clear hp
    go_enter Tryz.func83, Tryz.ntmps83
    go_wp2
    go_ret
    exact ⟨rfl, rfl⟩
  · rw [if_neg hp]
    have c0 : (t.phase == 1) = false := by simpa using hp
    clear hp
    go_enter Tryz.func83, Tryz.ntmps83
    go_wp2
    go_ret
    exact ⟨rfl, rfl⟩
theorem tend_calls (b bm : Nat) (t : TakeM) (m : MemM) (ho : t.ok) (hroom : m.log.length < 1000000000) (h : sat E w (takeA b t :: memA bm m :: L)) :
    Calls Tryz.prog 109 #[.pointer (some ⟨b, 0, none⟩), .pointer (some ⟨bm, 0, none⟩)] w fun e w' => e = .returned (.tuple #[]) ∧ sat E w' (takeA b (t.fin m).1 :: memA bm (t.fin m).2 :: L) := by
  have K := Lib.hid h
  clear h
  have a0 := K.out.rd 0 rfl; have l0 := K.out.ltp 0 rfl
  have H := fun w => Lib.hid (hazard_calls t.conf w ho.conf t.who ho.who0 ho.who1)
  have ST := fun w (h : sat E w (memA bm m :: takeA b t :: L)) => Lib.hid (store_calls bm m t.who (t.conf.hazard t.who) 0 (by omega) hroom h)
  unfold TakeM.fin
  clear ho
  cases hl : t.lost with
  | false =>
    have c0 : t.lost = false := hl
    clear hl
    go_enter Tryz.func109, Tryz.ntmps109
    go_wp2_with fail
    go_region_held3 (fun w' => (∀ j, w'.cell? ⟨b, j, none⟩ = (t.v)[j]?) ∧ b < w'.heap.size) (first | exact sat.s0 (by repeat (with_reducible first | exact K.out | apply sat.alloc_any | apply sat.drew | apply sat.drewN)) | go_keep) (first | (go_at_call 96; (with_reducible refine ((H _).out).mono ?_); rintro e w1 ⟨rfl, hb⟩; have K1 := sat.grown (by repeat (with_reducible first | exact K.out | apply sat.alloc_any | apply sat.drew | apply sat.drewN)) hb; clear hb; have K2 := Lib.hid K1; clear K1 K; (try clear a0); (try clear l0); (try clear a1); (try clear l1); (try clear a2); (try clear l2); have K := K2; clear K2; have a0 := K.out.rd 0 rfl; have l0 := K.out.ltp 0 rfl) | (go_at_call 75; (with_reducible refine ((ST _ (show sat E _ _ from by iterate 6 (try (with_reducible first | exact K.out | apply sat.alloc_any | apply sat.drew | apply sat.drewN))).swap).out).mono ?_); rintro e w1 ⟨rfl, K1⟩; replace K1 := K1.swap; have K2 := Lib.hid K1; clear K1 K; (try clear a0); (try clear l0); (try clear a1); (try clear l1); (try clear a2); (try clear l2); have K := K2; clear K2; have a0 := K.out.rd 0 rfl; have l0 := K.out.ltp 0 rfl))
    go_wp2_with (first | ((with_reducible refine at_store ?_); refine st_store 0 K.out rfl rfl rfl rfl ?_ ?_ ?_ ?_; (· kernel_rfl); (· simp); (· simp [Value.oneCell']); intro w1 K1; simp only [List.set, putL] at K1; have K2 := Lib.hid K1; clear K1 K; (try clear a0); (try clear l0); (try clear a1); (try clear l1); (try clear a2); (try clear l2); have K := K2; clear K2; have a0 := K.out.rd 0 rfl; have l0 := K.out.ltp 0 rfl))
    (first | go_end0 | ((try simp only [Exit.inBlock, Exit.then]); refine bodyPost_ret (results_none rfl _ _ _) rfl ?_))
    exact ⟨rfl, by simpa [c0] using K.out⟩
  | true =>
    have c0 : t.lost = true := hl
    clear hl
    go_enter Tryz.func109, Tryz.ntmps109
    go_wp2_with fail
    go_region_held3 (fun w' => (∀ j, w'.cell? ⟨b, j, none⟩ = (t.v)[j]?) ∧ b < w'.heap.size) (first | exact sat.s0 (by repeat (with_reducible first | exact K.out | apply sat.alloc_any | apply sat.drew | apply sat.drewN)) | go_keep) (first | (go_at_call 96; (with_reducible refine ((H _).out).mono ?_); rintro e w1 ⟨rfl, hb⟩; have K1 := sat.grown (by repeat (with_reducible first | exact K.out | apply sat.alloc_any | apply sat.drew | apply sat.drewN)) hb; clear hb; have K2 := Lib.hid K1; clear K1 K; (try clear a0); (try clear l0); (try clear a1); (try clear l1); (try clear a2); (try clear l2); have K := K2; clear K2; have a0 := K.out.rd 0 rfl; have l0 := K.out.ltp 0 rfl) | (go_at_call 75; (with_reducible refine ((ST _ (show sat E _ _ from by iterate 6 (try (with_reducible first | exact K.out | apply sat.alloc_any | apply sat.drew | apply sat.drewN))).swap).out).mono ?_); rintro e w1 ⟨rfl, K1⟩; replace K1 := K1.swap; have K2 := Lib.hid K1; clear K1 K; (try clear a0); (try clear l0); (try clear a1); (try clear l1); (try clear a2); (try clear l2); have K := K2; clear K2; have a0 := K.out.rd 0 rfl; have l0 := K.out.ltp 0 rfl))
    go_wp2_with (first | ((with_reducible refine at_store ?_); refine st_store 0 K.out rfl rfl rfl rfl ?_ ?_ ?_ ?_; (· kernel_rfl); (· simp); (· simp [Value.oneCell']); intro w1 K1; simp only [List.set, putL] at K1; have K2 := Lib.hid K1; clear K1 K; (try clear a0); (try clear l0); (try clear a1); (try clear l1); (try clear a2); (try clear l2); have K := K2; clear K2; have a0 := K.out.rd 0 rfl; have l0 := K.out.ltp 0 rfl))
    (first | go_end0 | ((try simp only [Exit.inBlock, Exit.then]); refine bodyPost_ret (results_none rfl _ _ _) rfl ?_))
    exact ⟨rfl, by simpa [c0] using K.out⟩
theorem kstep_off (b bm : Nat) (t : TakeM) (m : MemM) (hp : t.phase ≠ 0) (h : sat E w (takeA b t :: memA bm m :: L)) :
    Calls Tryz.prog 82 #[.pointer (some ⟨b, 0, none⟩), .pointer (some ⟨bm, 0, none⟩)] w fun e w' => e = .returned (.int .i64 t.phase) ∧ sat E w' (takeA b t :: memA bm m :: L) := by
  have K := Lib.hid h
  clear h
  have a0 := K.out.rd 0 rfl; have l0 := K.out.ltp 0 rfl
  have c0 : (t.phase == 0) = false := by simpa using hp
  clear hp
  go_enter Tryz.func82, Tryz.ntmps82
  go_wp2
  go_ret
  exact ⟨rfl, K.out⟩
theorem kstep_lost (b bm : Nat) (t : TakeM) (m : MemM) (ho : t.ok) (hp : t.phase = 0) (hl : t.lost = true) (hroom : m.log.length < 1000000000) (h : sat E w (takeA b t :: memA bm m :: L)) :
    Calls Tryz.prog 82 #[.pointer (some ⟨b, 0, none⟩), .pointer (some ⟨bm, 0, none⟩)] w fun e w' => e = .returned (.int .i64 (t.fin m).1.phase) ∧ sat E w' (takeA b (t.fin m).1 :: memA bm (t.fin m).2 :: L) := by
  have K := Lib.hid h
  have hpk := (memA_open h.swap).1
  clear h
  have a0 := K.out.rd 0 rfl; have l0 := K.out.ltp 0 rfl
  have c0 : (t.phase == 0) = true := by simpa using hp
  obtain ⟨B0, B1⟩ := And.intro ho.st0 ho.st1
  have FN := fun w (h : sat E w (takeA b t :: memA bm m :: L)) => Lib.hid (tend_calls b bm t m ho hroom h)
  clear ho hp
  go_enter Tryz.func82, Tryz.ntmps82
  go_wp2_with (first | (go_at_call 109; (with_reducible refine ((FN _ (show sat E _ _ from by iterate 6 (try (with_reducible first | exact K.out | apply sat.alloc_any | apply sat.drew | apply sat.drewN)))).out).mono ?_); rintro e w1 ⟨rfl, K1⟩; have K2 := Lib.hid K1; clear K1 K; (try clear a0); (try clear l0); (try clear a1); (try clear l1); (try clear a2); (try clear l2); have K := K2; clear K2; have a0 := K.out.rd 0 rfl; have l0 := K.out.ltp 0 rfl))
  go_ret
  exact ⟨rfl, K.out⟩
theorem kstep_0 (b bm : Nat) (t : TakeM) (m : MemM) (ho : t.ok) (hp : t.phase = 0) (hl : t.lost = false) (hk : t.steps = 0) (hroom : m.log.length < 1000000000) (h : sat E w (takeA b t :: memA bm m :: L)) :
    Calls Tryz.prog 82 #[.pointer (some ⟨b, 0, none⟩), .pointer (some ⟨bm, 0, none⟩)] w fun e w' => e = .returned (.int .i64 t.phase) ∧ sat E w' (takeA b { t with steps := t.steps + 1 } :: memA bm (m.touch t.who 1 (t.conf.hazard t.who) 0 (t.slot + 1)) :: L) := by
  have K := Lib.hid h
  have hpk := (memA_open h.swap).1
  clear h
  have a0 := K.out.rd 0 rfl; have l0 := K.out.ltp 0 rfl
  have c0 : (t.phase == 0) = true := by simpa using hp
  obtain ⟨B0, B1⟩ := And.intro ho.st0 ho.st1
  have c1 : t.lost = false := hl
  have d0 : (t.steps == 0) = true := by simp [hk]
  have H := fun w => Lib.hid (hazard_calls t.conf w ho.conf t.who ho.who0 ho.who1)
  have hal := ho.conf.all_bd
  have s0 := ho.slot0
  have s1 := ho.slot1
  have v1 : IntKind.i64.wrap (t.slot + 1) = t.slot + 1 := wi (by omega) (by omega)
  have v2 : IntKind.u64.wrap (t.slot + 1) = t.slot + 1 := by rw [IntKind.wrap_u64]; omega
  have ST := fun w (h : sat E w (memA bm m :: takeA b t :: L)) => Lib.hid (store_calls bm m t.who (t.conf.hazard t.who) (t.slot + 1) (by omega) hroom h)
  clear ho hp hk hl hpk
  go_enter Tryz.func82, Tryz.ntmps82
  go_wp2_with fail
  go_region_held3 (fun w' => w'.cell? ⟨b, 0, none⟩ = some (.int .i64 t.conf.th) ∧ w'.cell? ⟨b, 1, none⟩ = some (.int .i64 t.conf.sl) ∧ w'.cell? ⟨b, 2, none⟩ = some (.int .i64 t.conf.src) ∧ w'.cell? ⟨b, 3, none⟩ = some (.int .i64 t.conf.dl) ∧ w'.cell? ⟨b, 4, none⟩ = some (.int .i64 t.who) ∧ w'.cell? ⟨b, 5, none⟩ = some (.int .i64 t.slot) ∧ w'.cell? ⟨b, 6, none⟩ = some (.int .u64 t.word) ∧ (∀ j, w'.frozen? ⟨b, j, none⟩ = false)) (first | exact takeS (M := _) (by repeat (with_reducible first | exact K.out | apply sat.alloc_any | apply sat.drew | apply sat.drewN)) rfl rfl rfl rfl |  go_keep)
    (first | (go_at_call 96; (with_reducible refine ((H _).out).mono ?_); rintro e w1 ⟨rfl, hb⟩; have K1 := sat.grown (by repeat (with_reducible first | exact K.out | apply sat.alloc_any | apply sat.drew | apply sat.drewN)) hb; clear hb; have K2 := Lib.hid K1; clear K1 K; (try clear a0); (try clear l0); (try clear a1); (try clear l1); (try clear a2); (try clear l2); have K := K2; clear K2; have a0 := K.out.rd 0 rfl; have l0 := K.out.ltp 0 rfl) | (go_at_call 75; (with_reducible refine ((ST _ (show sat E _ _ from by iterate 6 (try (with_reducible first | exact K.out | apply sat.alloc_any | apply sat.drew | apply sat.drewN))).swap).out).mono ?_); rintro e w1 ⟨rfl, K1⟩; replace K1 := K1.swap; have K2 := Lib.hid K1; clear K1 K; (try clear a0); (try clear l0); (try clear a1); (try clear l1); (try clear a2); (try clear l2); have K := K2; clear K2; have a0 := K.out.rd 0 rfl; have l0 := K.out.ltp 0 rfl))
  go_wp2_with (first | ((with_reducible refine at_store ?_); refine st_store 0 K.out rfl rfl rfl rfl ?_ ?_ ?_ ?_; (· kernel_rfl); (· simp); (· simp [Value.oneCell']); intro w1 K1; simp only [List.set, putL] at K1; have K2 := Lib.hid K1; clear K1 K; (try clear a0); (try clear l0); (try clear a1); (try clear l1); (try clear a2); (try clear l2); have K := K2; clear K2; have a0 := K.out.rd 0 rfl; have l0 := K.out.ltp 0 rfl))
  go_ret
  exact ⟨rfl, K.out⟩
theorem kstep_1 (b bm : Nat) (t : TakeM) (m : MemM) (ho : t.ok) (hp : t.phase = 0) (hl : t.lost = false) (hk : t.steps = 1) (hroom : m.log.length < 1000000000) (h : sat E w (takeA b t :: memA bm m :: L)) :
    Calls Tryz.prog 82 #[.pointer (some ⟨b, 0, none⟩), .pointer (some ⟨bm, 0, none⟩)] w fun e w' => e = .returned (.int .i64 t.phase) ∧ sat E w' (takeA b { t with steps := t.steps + 1, lost := !decide (m.peek t.slot = t.word) } :: memA bm (m.touch t.who 0 t.slot 0 0) :: L) := by
  have K := Lib.hid h
  have hpk := (memA_open h.swap).1
  clear h
  have a0 := K.out.rd 0 rfl; have l0 := K.out.ltp 0 rfl
  have c0 : (t.phase == 0) = true := by simpa using hp
  obtain ⟨B0, B1⟩ := And.intro ho.st0 ho.st1
  have c1 : t.lost = false := hl
  have d0 : (t.steps == 0) = false := by simp [hk]
  have d1 : (t.steps == 1) = true := by simp [hk]
  have LD := fun w (h : sat E w (memA bm m :: takeA b t :: L)) => Lib.hid (load_calls bm m t.who t.slot hroom h)
  generalize m.peek t.slot = x at LD ⊢
  have hx : (!decide (x = t.word)) = (x != t.word) := by cases h : (x != t.word) <;> simp_all
  rw [hx]
  clear ho hp hk hl hpk hx
  go_enter Tryz.func82, Tryz.ntmps82
  go_wp2_with fail
  go_region_held3 (fun w' => w'.cell? ⟨b, 0, none⟩ = some (.int .i64 t.conf.th) ∧ w'.cell? ⟨b, 1, none⟩ = some (.int .i64 t.conf.sl) ∧ w'.cell? ⟨b, 2, none⟩ = some (.int .i64 t.conf.src) ∧ w'.cell? ⟨b, 3, none⟩ = some (.int .i64 t.conf.dl) ∧ w'.cell? ⟨b, 4, none⟩ = some (.int .i64 t.who) ∧ w'.cell? ⟨b, 5, none⟩ = some (.int .i64 t.slot) ∧ w'.cell? ⟨b, 6, none⟩ = some (.int .u64 t.word) ∧ (∀ j, w'.frozen? ⟨b, j, none⟩ = false)) (first | exact takeS (M := _) (by repeat (with_reducible first | exact K.out | apply sat.alloc_any | apply sat.drew | apply sat.drewN)) rfl rfl rfl rfl | exact takeS (M := memA bm (m.touch t.who 0 t.slot 0 0) :: L) (t' := { t with lost := (x != t.word) }) (K.out.set0 (i := 8) (v := .bool (x != t.word))) rfl rfl rfl rfl | go_keep)
    (first | (go_at_call 33; (with_reducible refine (word_calls t.conf _ t.slot).mono ?_); rintro e w1 ⟨rfl, hb⟩; have K1 := sat.grown (by repeat (with_reducible first | exact K.out | apply sat.alloc_any | apply sat.drew | apply sat.drewN)) hb; clear hb; have K2 := Lib.hid K1; clear K1 K; (try clear a0); (try clear l0); (try clear a1); (try clear l1); (try clear a2); (try clear l2); have K := K2; clear K2; have a0 := K.out.rd 0 rfl; have l0 := K.out.ltp 0 rfl) | (go_at_call 95; (with_reducible refine ((LD _ (show sat E _ _ from by iterate 6 (try (with_reducible first | exact K.out | apply sat.alloc_any | apply sat.drew | apply sat.drewN))).swap).out).mono ?_); rintro e w1 ⟨rfl, K1⟩; replace K1 := K1.swap; have K2 := Lib.hid K1; clear K1 K; (try clear a0); (try clear l0); (try clear a1); (try clear l1); (try clear a2); (try clear l2); have K := K2; clear K2; have a0 := K.out.rd 0 rfl; have l0 := K.out.ltp 0 rfl))
  have K1 := K.out.set0 (i := 8) (v := .bool (x != t.word))
  simp only [List.set] at K1
  obtain ⟨w2, hw2, K2⟩ := K1.gen
  rw [← hw2]
  clear hw2 K1 K a0 l0
  have K := Lib.hid K2
  clear K2
  have a0 := K.out.rd 0 rfl; have l0 := K.out.ltp 0 rfl
  go_wp2_with (first | ((with_reducible refine at_store ?_); refine st_store 0 K.out rfl rfl rfl rfl ?_ ?_ ?_ ?_; (· kernel_rfl); (· simp); (· simp [Value.oneCell']); intro w1 K1; simp only [List.set, putL] at K1; have K2 := Lib.hid K1; clear K1 K; (try clear a0); (try clear l0); (try clear a1); (try clear l1); (try clear a2); (try clear l2); have K := K2; clear K2; have a0 := K.out.rd 0 rfl; have l0 := K.out.ltp 0 rfl))
  go_ret
  exact ⟨rfl, K.out⟩
theorem kstep_2 (b bm : Nat) (t : TakeM) (m : MemM) (ho : t.ok) (hp : t.phase = 0) (hl : t.lost = false) (hk : t.steps = 2) (hroom : m.log.length < 1000000000) (h : sat E w (takeA b t :: memA bm m :: L)) :
    Calls Tryz.prog 82 #[.pointer (some ⟨b, 0, none⟩), .pointer (some ⟨bm, 0, none⟩)] w fun e w' => e = .returned (.int .i64 t.phase) ∧ sat E w' (takeA b { t with steps := t.steps + 1, value := m.peek (t.conf.value t.slot) } :: memA bm (m.touch t.who 0 (t.conf.value t.slot) 0 0) :: L) := by
  have K := Lib.hid h
  have hpk := (memA_open h.swap).1
  clear h
  have a0 := K.out.rd 0 rfl; have l0 := K.out.ltp 0 rfl
  have c0 : (t.phase == 0) = true := by simpa using hp
  obtain ⟨B0, B1⟩ := And.intro ho.st0 ho.st1
  have c1 : t.lost = false := hl
  have d0 : (t.steps == 0) = false := by simp [hk]
  have d1 : (t.steps == 1) = false := by simp [hk]
  have d2 : (t.steps == 2) = true := by simp [hk]
  have V := fun w => Lib.hid (value_calls t.conf w ho.conf t.slot ho.slot0 ho.slot1)
  have LD := fun w (h : sat E w (memA bm m :: takeA b t :: L)) => Lib.hid (load_calls bm m t.who (t.conf.value t.slot) hroom h)
  generalize m.peek (t.conf.value t.slot) = x at LD ⊢
  clear ho hp hk hl hpk
  go_enter Tryz.func82, Tryz.ntmps82
  go_wp2_with fail
  go_region_held3 (fun w' => w'.cell? ⟨b, 0, none⟩ = some (.int .i64 t.conf.th) ∧ w'.cell? ⟨b, 1, none⟩ = some (.int .i64 t.conf.sl) ∧ w'.cell? ⟨b, 2, none⟩ = some (.int .i64 t.conf.src) ∧ w'.cell? ⟨b, 3, none⟩ = some (.int .i64 t.conf.dl) ∧ w'.cell? ⟨b, 4, none⟩ = some (.int .i64 t.who) ∧ w'.cell? ⟨b, 5, none⟩ = some (.int .i64 t.slot) ∧ w'.cell? ⟨b, 6, none⟩ = some (.int .u64 t.word) ∧ (∀ j, w'.frozen? ⟨b, j, none⟩ = false)) (first | exact takeS (M := _) (by repeat (with_reducible first | exact K.out | apply sat.alloc_any | apply sat.drew | apply sat.drewN)) rfl rfl rfl rfl | exact takeS (M := memA bm (m.touch t.who 0 (t.conf.value t.slot) 0 0) :: L) (t' := { t with value := x }) (K.out.set0 (i := 9) (v := .int .u64 x)) rfl rfl rfl rfl | go_keep)
    (first | (go_at_call 34; (with_reducible refine ((V _).out).mono ?_); rintro e w1 ⟨rfl, hb⟩; have K1 := sat.grown (by repeat (with_reducible first | exact K.out | apply sat.alloc_any | apply sat.drew | apply sat.drewN)) hb; clear hb; have K2 := Lib.hid K1; clear K1 K; (try clear a0); (try clear l0); (try clear a1); (try clear l1); (try clear a2); (try clear l2); have K := K2; clear K2; have a0 := K.out.rd 0 rfl; have l0 := K.out.ltp 0 rfl) | (go_at_call 95; (with_reducible refine ((LD _ (show sat E _ _ from by iterate 6 (try (with_reducible first | exact K.out | apply sat.alloc_any | apply sat.drew | apply sat.drewN))).swap).out).mono ?_); rintro e w1 ⟨rfl, K1⟩; replace K1 := K1.swap; have K2 := Lib.hid K1; clear K1 K; (try clear a0); (try clear l0); (try clear a1); (try clear l1); (try clear a2); (try clear l2); have K := K2; clear K2; have a0 := K.out.rd 0 rfl; have l0 := K.out.ltp 0 rfl))
  have K1 := K.out.set0 (i := 9) (v := .int .u64 x)
  simp only [List.set] at K1
  obtain ⟨w2, hw2, K2⟩ := K1.gen
  rw [← hw2]
  clear hw2 K1 K a0 l0
  have K := Lib.hid K2
  clear K2
  have a0 := K.out.rd 0 rfl; have l0 := K.out.ltp 0 rfl
  go_wp2_with (first | ((with_reducible refine at_store ?_); refine st_store 0 K.out rfl rfl rfl rfl ?_ ?_ ?_ ?_; (· kernel_rfl); (· simp); (· simp [Value.oneCell']); intro w1 K1; simp only [List.set, putL] at K1; have K2 := Lib.hid K1; clear K1 K; (try clear a0); (try clear l0); (try clear a1); (try clear l1); (try clear a2); (try clear l2); have K := K2; clear K2; have a0 := K.out.rd 0 rfl; have l0 := K.out.ltp 0 rfl))
  go_ret
  exact ⟨rfl, K.out⟩
theorem kstep_3 (b bm : Nat) (t : TakeM) (m : MemM) (ho : t.ok) (hp : t.phase = 0) (hl : t.lost = false) (hk : t.steps = 3) (hroom : m.log.length < 1000000000) (h : sat E w (takeA b t :: memA bm m :: L)) :
    Calls Tryz.prog 82 #[.pointer (some ⟨b, 0, none⟩), .pointer (some ⟨bm, 0, none⟩)] w fun e w' => e = .returned (.int .i64 t.phase) ∧ sat E w' (takeA b { t with steps := t.steps + 1, lost := !m.okOf 2 t.slot t.word } :: memA bm (m.touch t.who 2 t.slot t.word (unpack t.word).taken.pack) :: L) := by
  have K := Lib.hid h
  clear h
  have a0 := K.out.rd 0 rfl; have l0 := K.out.ltp 0 rfl
  have c0 : (t.phase == 0) = true := by simpa using hp
  obtain ⟨B0, B1⟩ := And.intro ho.st0 ho.st1
  have c1 : t.lost = false := hl
  have d0 : (t.steps == 0) = false := by simp [hk]
  have d1 : (t.steps == 1) = false := by simp [hk]
  have d2 : (t.steps == 2) = false := by simp [hk]
  have d3 : (t.steps == 3) = true := by simp [hk]
  have U : ∀ w, Hid (Tells 91 #[.int .u64 t.word] w (.agg #[.int .i64 (unpack t.word).state, .int .i64 (unpack t.word).fin, .int .i64 (unpack t.word).gen, .int .i64 (unpack t.word).stamp.lo, .int .i64 (unpack t.word).stamp.hi])) := fun w => Lib.hid (unpack_calls t.word ho.word0 ho.word1 w)
  generalize unpack t.word = x at U ⊢
  have TK : ∀ w, Hid (Tells 111 #[.agg #[.int .i64 x.state, .int .i64 x.fin, .int .i64 x.gen, .int .i64 x.stamp.lo, .int .i64 x.stamp.hi]] w (.agg #[.int .i64 x.taken.state, .int .i64 x.taken.fin, .int .i64 x.taken.gen, .int .i64 x.taken.stamp.lo, .int .i64 x.taken.stamp.hi])) := fun w => Lib.hid (taken_calls x w)
  generalize x.taken = y at TK ⊢
  have PK := fun w => Lib.hid (pack_calls y w)
  have hb := pack_bd y
  generalize y.pack = z at PK hb ⊢
  have SW := fun w (h : sat E w (memA bm m :: takeA b t :: L)) => Lib.hid (swapc_calls bm m t.who t.slot t.word z hb hroom h)
  generalize m.okOf 2 t.slot t.word = ok at SW ⊢
  clear ho hp hk hl hb
  go_enter Tryz.func82, Tryz.ntmps82
  go_wp2_with fail
  go_region_held3 (fun w' => w'.cell? ⟨b, 0, none⟩ = some (.int .i64 t.conf.th) ∧ w'.cell? ⟨b, 1, none⟩ = some (.int .i64 t.conf.sl) ∧ w'.cell? ⟨b, 2, none⟩ = some (.int .i64 t.conf.src) ∧ w'.cell? ⟨b, 3, none⟩ = some (.int .i64 t.conf.dl) ∧ w'.cell? ⟨b, 4, none⟩ = some (.int .i64 t.who) ∧ w'.cell? ⟨b, 5, none⟩ = some (.int .i64 t.slot) ∧ w'.cell? ⟨b, 6, none⟩ = some (.int .u64 t.word) ∧ (∀ j, w'.frozen? ⟨b, j, none⟩ = false)) (first | exact takeS (M := _) (by repeat (with_reducible first | exact K.out | apply sat.alloc_any | apply sat.drew | apply sat.drewN)) rfl rfl rfl rfl | exact takeS (M := memA bm (m.touch t.who 2 t.slot t.word z) :: L) (t' := { t with lost := !ok }) (K.out.set0 (i := 8) (v := .bool (!ok))) rfl rfl rfl rfl | go_keep)
    (first | (go_at_call 33; (with_reducible refine (word_calls t.conf _ t.slot).mono ?_); rintro e w1 ⟨rfl, hb⟩; have K1 := sat.grown (by repeat (with_reducible first | exact K.out | apply sat.alloc_any | apply sat.drew | apply sat.drewN)) hb; clear hb; have K2 := Lib.hid K1; clear K1 K; (try clear a0); (try clear l0); (try clear a1); (try clear l1); (try clear a2); (try clear l2); have K := K2; clear K2; have a0 := K.out.rd 0 rfl; have l0 := K.out.ltp 0 rfl) | (go_at_call 91; (with_reducible refine ((U _).out).mono ?_); rintro e w1 ⟨rfl, hb⟩; have K1 := sat.grown (by repeat (with_reducible first | exact K.out | apply sat.alloc_any | apply sat.drew | apply sat.drewN)) hb; clear hb; have K2 := Lib.hid K1; clear K1 K; (try clear a0); (try clear l0); (try clear a1); (try clear l1); (try clear a2); (try clear l2); have K := K2; clear K2; have a0 := K.out.rd 0 rfl; have l0 := K.out.ltp 0 rfl) | (go_at_call 111; (with_reducible refine ((TK _).out).mono ?_); rintro e w1 ⟨rfl, hb⟩; have K1 := sat.grown (by repeat (with_reducible first | exact K.out | apply sat.alloc_any | apply sat.drew | apply sat.drewN)) hb; clear hb; have K2 := Lib.hid K1; clear K1 K; (try clear a0); (try clear l0); (try clear a1); (try clear l1); (try clear a2); (try clear l2); have K := K2; clear K2; have a0 := K.out.rd 0 rfl; have l0 := K.out.ltp 0 rfl) | (go_at_call 64; (with_reducible refine ((PK _).out).mono ?_); rintro e w1 ⟨rfl, hb⟩; have K1 := sat.grown (by repeat (with_reducible first | exact K.out | apply sat.alloc_any | apply sat.drew | apply sat.drewN)) hb; clear hb; have K2 := Lib.hid K1; clear K1 K; (try clear a0); (try clear l0); (try clear a1); (try clear l1); (try clear a2); (try clear l2); have K := K2; clear K2; have a0 := K.out.rd 0 rfl; have l0 := K.out.ltp 0 rfl) | (go_at_call 110; (with_reducible refine ((SW _ (show sat E _ _ from by iterate 6 (try (with_reducible first | exact K.out | apply sat.alloc_any | apply sat.drew | apply sat.drewN))).swap).out).mono ?_); rintro e w1 ⟨rfl, K1⟩; replace K1 := K1.swap; have K2 := Lib.hid K1; clear K1 K; (try clear a0); (try clear l0); (try clear a1); (try clear l1); (try clear a2); (try clear l2); have K := K2; clear K2; have a0 := K.out.rd 0 rfl; have l0 := K.out.ltp 0 rfl))
  all_goals
    have K1 := K.out.set0 (i := 8) (v := .bool (!ok))
    simp only [List.set] at K1
    obtain ⟨w2, hw2, K2⟩ := K1.gen
    rw [← hw2]
    clear hw2 K1 K a0 l0
    have K := Lib.hid K2
    clear K2
    have a0 := K.out.rd 0 rfl; have l0 := K.out.ltp 0 rfl
    go_wp2_with (first | ((with_reducible refine at_store ?_); refine st_store 0 K.out rfl rfl rfl rfl ?_ ?_ ?_ ?_; (· kernel_rfl); (· simp); (· simp [Value.oneCell']); intro w1 K1; simp only [List.set, putL] at K1; have K2 := Lib.hid K1; clear K1 K; (try clear a0); (try clear l0); (try clear a1); (try clear l1); (try clear a2); (try clear l2); have K := K2; clear K2; have a0 := K.out.rd 0 rfl; have l0 := K.out.ltp 0 rfl))
    go_ret
    exact ⟨rfl, K.out⟩
theorem kstep_4 (b bm : Nat) (t : TakeM) (m : MemM) (ho : t.ok) (hp : t.phase = 0) (hl : t.lost = false) (hk : t.steps ≠ 0 ∧ t.steps ≠ 1 ∧ t.steps ≠ 2 ∧ t.steps ≠ 3) (hroom : m.log.length < 1000000000) (h : sat E w (takeA b t :: memA bm m :: L)) :
    Calls Tryz.prog 82 #[.pointer (some ⟨b, 0, none⟩), .pointer (some ⟨bm, 0, none⟩)] w fun e w' => e = .returned (.int .i64 (t.fin m).1.phase) ∧ sat E w' (takeA b { (t.fin m).1 with steps := (t.fin m).1.steps + 1 } :: memA bm (t.fin m).2 :: L) := by
  have K := Lib.hid h
  clear h
  have a0 := K.out.rd 0 rfl; have l0 := K.out.ltp 0 rfl
  have c0 : (t.phase == 0) = true := by simpa using hp
  have FN := fun w (h : sat E w (takeA b t :: memA bm m :: L)) => Lib.hid (tend_calls b bm t m ho hroom h)
  have hs : (t.fin m).1.steps = t.steps := rfl
  generalize t.fin m = r at FN hs ⊢
  have B0 : 0 ≤ r.1.steps := by rw [hs]; exact ho.st0
  have B1 : r.1.steps ≤ 1000000000 := by rw [hs]; exact ho.st1
  have c1 : t.lost = false := hl
  obtain ⟨k0, k1, k2, k3⟩ := hk
  have d0 : (t.steps == 0) = false := by simpa using k0
  have d1 : (t.steps == 1) = false := by simpa using k1
  have d2 : (t.steps == 2) = false := by simpa using k2
  have d3 : (t.steps == 3) = false := by simpa using k3
  clear ho hp k0 k1 k2 k3 hl hs
  go_enter Tryz.func82, Tryz.ntmps82
  go_wp2_with (first | (go_at_call 109; (with_reducible refine ((FN _ (show sat E _ _ from by iterate 6 (try (with_reducible first | exact K.out | apply sat.alloc_any | apply sat.drew | apply sat.drewN)))).out).mono ?_); rintro e w1 ⟨rfl, K1⟩; have K2 := Lib.hid K1; clear K1 K; (try clear a0); (try clear l0); (try clear a1); (try clear l1); (try clear a2); (try clear l2); have K := K2; clear K2; have a0 := K.out.rd 0 rfl; have l0 := K.out.ltp 0 rfl) | ((with_reducible refine at_store ?_); refine st_store 0 K.out rfl rfl rfl rfl ?_ ?_ ?_ ?_; (· kernel_rfl); (· simp); (· simp [Value.oneCell']); intro w1 K1; simp only [List.set, putL] at K1; have K2 := Lib.hid K1; clear K1 K; (try clear a0); (try clear l0); (try clear a1); (try clear l1); (try clear a2); (try clear l2); have K := K2; clear K2; have a0 := K.out.rd 0 rfl; have l0 := K.out.ltp 0 rfl))
  go_ret
  exact ⟨rfl, K.out⟩
/-- A step of a Take. -/
theorem kstep_calls (b bm : Nat) (t : TakeM) (m : MemM) (ho : t.ok) (hroom : m.log.length < 1000000000) (h : sat E w (takeA b t :: memA bm m :: L)) :
    Calls Tryz.prog 82 #[.pointer (some ⟨b, 0, none⟩), .pointer (some ⟨bm, 0, none⟩)] w fun e w' => e = .returned (.int .i64 (t.step m).1.phase) ∧ sat E w' (takeA b (t.step m).1 :: memA bm (t.step m).2 :: L) := by
  unfold TakeM.step
  by_cases hp : t.phase = 0
  · rw [if_neg (by simpa using hp)]
    cases hl : t.lost with
    | true => simpa [hl] using kstep_lost b bm t m ho hp hl hroom h
    | false =>
      by_cases k0 : t.steps = 0
      · simpa [hl, k0, hp] using kstep_0 b bm t m ho hp hl k0 hroom h
      by_cases k1 : t.steps = 1
      · simpa [hl, k0, k1, hp] using kstep_1 b bm t m ho hp hl k1 hroom h
      by_cases k2 : t.steps = 2
      · simpa [hl, k0, k1, k2, hp] using kstep_2 b bm t m ho hp hl k2 hroom h
      by_cases k3 : t.steps = 3
      · simpa [hl, k0, k1, k2, k3, hp] using kstep_3 b bm t m ho hp hl k3 hroom h
      · simpa [hl, k0, k1, k2, k3, hp] using kstep_4 b bm t m ho hp hl ⟨k0, k1, k2, k3⟩ hroom h
  · rw [if_pos hp]
    exact kstep_off b bm t m hp h
end
end Go.Proofs.YtegdhojhnmgjgaaGreat
/- A value is put in (package put): what each of its functions does. Conditions: a Right layout, a thread of it, room for what is noted. -/
namespace Go.Proofs.YtegdhojhnmgjgaaGreat
open Go.RowKit Go.SepYtegdhojhnmgjgaaGreat
set_option maxRecDepth 100000
set_option maxHeartbeats 1000000
attribute [local go_sem] min2_w max2_w min_w max_w
abbrev PutM.v (p : PutM) (bc bt : Nat) : List Value := [.int .i64 p.conf.th, .int .i64 p.conf.sl, .int .i64 p.conf.src, .int .i64 p.conf.dl, .int .i64 p.who, .int .i64 p.fin, .int .u64 p.value, .pointer (some ⟨bc, 0, none⟩), .pointer (some ⟨bt, 0, none⟩), .bool p.stored, .int .i64 p.phase]
abbrev putP (b bc bt : Nat) (p : PutM) : SA := pt b (.cells (p.v bc bt).toArray 135 (0, 0))
def putA (b : Nat) (p : PutM) : SA := fun h => ∃ bc bt : Nat, bag [putP b bc bt p, claimA bc p.claim, tickA bt p.tick] h
structure PutM.ok (p : PutM) : Prop where
  conf : p.conf.ok
  who0 : 0 ≤ p.who
  who1 : p.who < p.conf.th
  claim : p.claim.ok
  tick : p.tick.ok
  cc : p.claim.conf = p.conf
  cw : p.claim.who = p.who
  value0 : 0 ≤ p.value
  value1 : p.value < 18446744073709551616
  gen0 : 0 ≤ p.claim.word.gen
  gen1 : p.claim.word.gen ≤ 8191
section
variable {E w : World} {L : List SA}
theorem putA_open {b : Nat} {p : PutM} (h : sat E w (putA b p :: L)) : ∃ bc bt : Nat, sat E w (putP b bc bt p :: claimA bc p.claim :: tickA bt p.tick :: L) := by
  obtain ⟨bc, h⟩ := h.ex
  obtain ⟨bt, h⟩ := h.ex
  exact ⟨bc, bt, h.unbag⟩
theorem putA_shut {b bc bt : Nat} {p : PutM} (h : sat E w (putP b bc bt p :: claimA bc p.claim :: tickA bt p.tick :: L)) : sat E w (putA b p :: L) :=
  sat.mkex bc (sat.mkex bt (sat.bag (M := [_, _, _]) h))
section
variable {A B C D : SA}
theorem _root_.Go.SepYtegdhojhnmgjgaaGreat.sat.bdac (h : sat E w (A :: B :: C :: D :: L)) : sat E w (B :: D :: A :: C :: L) := (h.pick 3 rfl).pick 2 rfl
theorem _root_.Go.SepYtegdhojhnmgjgaaGreat.sat.unbdac (h : sat E w (B :: D :: A :: C :: L)) : sat E w (A :: B :: C :: D :: L) := (((h.pick 1 rfl).pick 3 rfl).pick 2 rfl).pick 3 rfl
theorem _root_.Go.SepYtegdhojhnmgjgaaGreat.sat.cdab (h : sat E w (A :: B :: C :: D :: L)) : sat E w (C :: D :: A :: B :: L) := (h.pick 3 rfl).pick 3 rfl
theorem _root_.Go.SepYtegdhojhnmgjgaaGreat.sat.uncdab (h : sat E w (C :: D :: A :: B :: L)) : sat E w (A :: B :: C :: D :: L) := (h.pick 3 rfl).pick 3 rfl
theorem _root_.Go.SepYtegdhojhnmgjgaaGreat.sat.dabc (h : sat E w (A :: B :: C :: D :: L)) : sat E w (D :: A :: B :: C :: L) := h.pick 3 rfl
theorem _root_.Go.SepYtegdhojhnmgjgaaGreat.sat.undabc (h : sat E w (D :: A :: B :: C :: L)) : sat E w (A :: B :: C :: D :: L) := ((h.pick 3 rfl).pick 3 rfl).pick 3 rfl
theorem _root_.Go.SepYtegdhojhnmgjgaaGreat.sat.cabd (h : sat E w (A :: B :: C :: D :: L)) : sat E w (C :: A :: B :: D :: L) := h.pick 2 rfl
theorem _root_.Go.SepYtegdhojhnmgjgaaGreat.sat.uncabd (h : sat E w (C :: A :: B :: D :: L)) : sat E w (A :: B :: C :: D :: L) := (h.pick 2 rfl).pick 2 rfl
end
theorem putS {b bc bt : Nat} {p p' : PutM} {M : List SA} (h : sat E w (putP b bc bt p' :: M)) (hc : p'.conf = p.conf) (hw : p'.who = p.who) (hf : p'.fin = p.fin) (hv : p'.value = p.value) :
    w.cell? ⟨b, 0, none⟩ = some (.int .i64 p.conf.th) ∧ w.cell? ⟨b, 1, none⟩ = some (.int .i64 p.conf.sl) ∧ w.cell? ⟨b, 2, none⟩ = some (.int .i64 p.conf.src) ∧ w.cell? ⟨b, 3, none⟩ = some (.int .i64 p.conf.dl) ∧ w.cell? ⟨b, 4, none⟩ = some (.int .i64 p.who) ∧ w.cell? ⟨b, 5, none⟩ = some (.int .i64 p.fin) ∧ w.cell? ⟨b, 6, none⟩ = some (.int .u64 p.value) ∧ w.cell? ⟨b, 7, none⟩ = some (.pointer (some ⟨bc, 0, none⟩)) ∧ w.cell? ⟨b, 8, none⟩ = some (.pointer (some ⟨bt, 0, none⟩)) := by
  have := h.rd 0 rfl
  rw [← hc, ← hw, ← hf, ← hv]
  exact ⟨this 0, this 1, this 2, this 3, this 4, this 5, this 6, this 7, this 8⟩
theorem putnew_calls (c : ConfM) (who fin value : Int) (h : sat E w L) :
    Calls Tryz.prog 51 #[.agg #[.int .i64 c.th, .int .i64 c.sl, .int .i64 c.src, .int .i64 c.dl], .int .i64 who, .int .i64 fin, .int .u64 value] w (NewA E L (fun g => putA g (PutM.new c who fin value))) := by
  have K := Lib.hid h
  clear h
  go_enter Tryz.func51, Tryz.ntmps51
  go_wp2_with (first | ((with_reducible refine at_box ?_); refine st_boxf K.out rfl rfl (fun _ => rfl) ?_; intro g1 w1 K1; have K2 := Lib.hid K1; clear K1 K; (try clear a0); (try clear l0); (try clear a1); (try clear l1); (try clear a2); (try clear l2); have K := K2; clear K2; have a0 := K.out.rd 0 rfl; have l0 := K.out.ltp 0 rfl))
  go_region_held3 (fun w' => (∀ j, w'.cell? ⟨g1, j, none⟩ = ([.int .i64 c.th, .int .i64 c.sl, .int .i64 c.src, .int .i64 c.dl] : List Value)[j]?) ∧ g1 < w'.heap.size) (first | exact sat.s0 (by repeat (with_reducible first | exact K.out | apply sat.alloc_any | apply sat.drew | apply sat.drewN)) | go_keep)
    (first | (go_at_call 67; (with_reducible refine (claimnew_calls c who (show sat E _ _ from by iterate 6 (try (with_reducible first | exact K.out | apply sat.alloc_any | apply sat.drew | apply sat.drewN)))).mono ?_); rintro e w1 ⟨gc, rfl, K1⟩; replace K1 := K1.swap; have K2 := Lib.hid K1; clear K1 K; (try clear a0); (try clear l0); (try clear a1); (try clear l1); (try clear a2); (try clear l2); have K := K2; clear K2; have a0 := K.out.rd 0 rfl; have l0 := K.out.ltp 0 rfl) | (go_at_call 68; (with_reducible refine (ticknew_calls c who (show sat E _ _ from by iterate 6 (try (with_reducible first | exact K.out | apply sat.alloc_any | apply sat.drew | apply sat.drewN)))).mono ?_); rintro e w1 ⟨gt, rfl, K1⟩; replace K1 := K1.swap; have K2 := Lib.hid K1; clear K1 K; (try clear a0); (try clear l0); (try clear a1); (try clear l1); (try clear a2); (try clear l2); have K := K2; clear K2; have a0 := K.out.rd 0 rfl; have l0 := K.out.ltp 0 rfl))
  all_goals
    go_wp2
    go_ret
    first
    | exact ⟨_, rfl, putA_shut (p := PutM.new c who fin value) (bc := gc) (bt := gt) (K.out.alloc _).swap.drop⟩
    | exact ⟨_, rfl, putA_shut (p := PutM.new c who fin value) (bc := gc) (bt := gt) (((K.out.alloc _).swap.drop).pick 2 rfl |>.pick 1 rfl)⟩
theorem pfull_calls (b bc bt : Nat) (p : PutM) (f : Int) (h : sat E w (putP b bc bt p :: L)) :
    Calls Tryz.prog 71 #[.pointer (some ⟨b, 0, none⟩), .int .i64 f] w fun e w' => e = .returned (.tuple #[]) ∧ sat E w' (putP b bc bt { p with phase := if f = 2 then 2 else p.phase } :: L) := by
  have K := Lib.hid h
  clear h
  have a0 := K.out.rd 0 rfl; have l0 := K.out.ltp 0 rfl
  by_cases hf : f = 2
  · rw [if_pos hf]
    have c0 : (f == 2) = true := by simpa using hf
    clear hf
    go_enter Tryz.func71, Tryz.ntmps71
    go_wp2_with (first | ((with_reducible refine at_store ?_); refine st_store 0 K.out rfl rfl rfl rfl ?_ ?_ ?_ ?_; (· kernel_rfl); (· simp); (· simp [Value.oneCell']); intro w1 K1; simp only [List.set, putL] at K1; have K2 := Lib.hid K1; clear K1 K; (try clear a0); (try clear l0); (try clear a1); (try clear l1); (try clear a2); (try clear l2); have K := K2; clear K2; have a0 := K.out.rd 0 rfl; have l0 := K.out.ltp 0 rfl))
    (first | go_end0 | ((try simp only [Exit.inBlock, Exit.then]); refine bodyPost_ret (results_none rfl _ _ _) rfl ?_))
    exact ⟨rfl, K.out⟩
  · rw [if_neg hf]
    have c0 : (f == 2) = false := by simpa using hf
    clear hf
    go_enter Tryz.func71, Tryz.ntmps71
    go_wp2_with (first | ((with_reducible refine at_store ?_); refine st_store 0 K.out rfl rfl rfl rfl ?_ ?_ ?_ ?_; (· kernel_rfl); (· simp); (· simp [Value.oneCell']); intro w1 K1; simp only [List.set, putL] at K1; have K2 := Lib.hid K1; clear K1 K; (try clear a0); (try clear l0); (try clear a1); (try clear l1); (try clear a2); (try clear l2); have K := K2; clear K2; have a0 := K.out.rd 0 rfl; have l0 := K.out.ltp 0 rfl))
    (first | go_end0 | ((try simp only [Exit.inBlock, Exit.then]); refine bodyPost_ret (results_none rfl _ _ _) rfl ?_))
    exact ⟨rfl, K.out⟩
theorem pstep_off (b bm : Nat) (p : PutM) (m : MemM) (now : Int) (hp : p.phase ≠ 0) (h : sat E w (putA b p :: memA bm m :: L)) :
    Calls Tryz.prog 53 #[.pointer (some ⟨b, 0, none⟩), .pointer (some ⟨bm, 0, none⟩), .int .i64 now] w fun e w' => e = .returned (.int .i64 p.phase) ∧ sat E w' (putA b p :: memA bm m :: L) := by
  obtain ⟨bc, bt, h⟩ := putA_open h
  have K := Lib.hid h
  clear h
  have a0 := K.out.rd 0 rfl; have l0 := K.out.ltp 0 rfl
  have c0 : (p.phase == 0) = false := by simpa using hp
  clear hp
  go_enter Tryz.func53, Tryz.ntmps53
  go_wp2
  go_ret
  exact ⟨rfl, putA_shut K.out⟩
theorem pstep_claim (b bm : Nat) (p : PutM) (m : MemM) (now : Int) (ho : p.ok) (hp : p.phase = 0) (hc : p.claim.phase = 0) (hroom : m.log.length < 1000000000) (h : sat E w (putA b p :: memA bm m :: L)) :
    Calls Tryz.prog 53 #[.pointer (some ⟨b, 0, none⟩), .pointer (some ⟨bm, 0, none⟩), .int .i64 now] w fun e w' => e = .returned (.int .i64 (if (p.claim.step m).1.phase = 2 then 2 else p.phase)) ∧ sat E w' (putA b { p with claim := (p.claim.step m).1, phase := if (p.claim.step m).1.phase = 2 then 2 else p.phase } :: memA bm (p.claim.step m).2 :: L) := by
  obtain ⟨bc, bt, h⟩ := putA_open h
  have K := Lib.hid h
  clear h
  have a0 := K.out.rd 0 rfl; have l0 := K.out.ltp 0 rfl
  have c0 : (p.phase == 0) = true := by simpa using hp
  have c1 : (p.claim.phase == 0) = true := by simpa using hc
  have CP := fun w (h : sat E w (putP b bc bt p :: claimA bc p.claim :: tickA bt p.tick :: memA bm m :: L)) => Lib.hid (cphase_calls bc p.claim (h.pick 1 rfl))
  have TP := fun w (h : sat E w (putP b bc bt p :: claimA bc p.claim :: tickA bt p.tick :: memA bm m :: L)) => Lib.hid (tphase_calls bt p.tick (h.pick 2 rfl))
  have CS := fun w (h : sat E w (claimA bc p.claim :: memA bm m :: putP b bc bt p :: tickA bt p.tick :: L)) => Lib.hid (cstep_calls bc bm p.claim m ho.claim hroom h)
  obtain ⟨r, hr⟩ : ∃ r, r = p.claim.step m := ⟨_, rfl⟩
  rw [← hr] at CS ⊢
  have PF := fun w (h : sat E w (putP b bc bt p :: claimA bc r.1 :: tickA bt p.tick :: memA bm r.2 :: L)) => Lib.hid (pfull_calls b bc bt p r.1.phase h)
  generalize (if r.1.phase = 2 then 2 else p.phase) = ph at PF ⊢
  clear ho hp hc hr
  go_enter Tryz.func53, Tryz.ntmps53
  go_wp2_with (first | (go_at_call 70; (with_reducible refine (CP _ K.out).out.mono ?_); rintro e w1 ⟨rfl, rfl⟩) | (go_at_call 72; (with_reducible refine ((CS _ (show sat E _ _ from by iterate 6 (try (with_reducible first | exact K.out | apply sat.alloc_any | apply sat.drew | apply sat.drewN))).bdac).out).mono ?_); rintro e w1 ⟨rfl, K1⟩; replace K1 := K1.unbdac; have K2 := Lib.hid K1; clear K1 K; (try clear a0); (try clear l0); (try clear a1); (try clear l1); (try clear a2); (try clear l2); have K := K2; clear K2; have a0 := K.out.rd 0 rfl; have l0 := K.out.ltp 0 rfl) | (go_at_call 71; (with_reducible refine ((PF _ (show sat E _ _ from by iterate 6 (try (with_reducible first | exact K.out | apply sat.alloc_any | apply sat.drew | apply sat.drewN)))).out).mono ?_); rintro e w1 ⟨rfl, K1⟩; have K2 := Lib.hid K1; clear K1 K; (try clear a0); (try clear l0); (try clear a1); (try clear l1); (try clear a2); (try clear l2); have K := K2; clear K2; have a0 := K.out.rd 0 rfl; have l0 := K.out.ltp 0 rfl))
  go_ret
  exact ⟨rfl, putA_shut (p := { p with claim := r.1, phase := ph }) K.out⟩
theorem pstep_tick (b bm : Nat) (p : PutM) (m : MemM) (now : Int) (ho : p.ok) (hp : p.phase = 0) (hc : p.claim.phase ≠ 0) (ht : p.tick.phase = 0) (hroom : m.log.length < 1000000000) (h : sat E w (putA b p :: memA bm m :: L)) :
    Calls Tryz.prog 53 #[.pointer (some ⟨b, 0, none⟩), .pointer (some ⟨bm, 0, none⟩), .int .i64 now] w fun e w' => e = .returned (.int .i64 (if (p.tick.step m now).1.phase = 2 then 2 else p.phase)) ∧ sat E w' (putA b { p with tick := (p.tick.step m now).1, phase := if (p.tick.step m now).1.phase = 2 then 2 else p.phase } :: memA bm (p.tick.step m now).2 :: L) := by
  obtain ⟨bc, bt, h⟩ := putA_open h
  have K := Lib.hid h
  clear h
  have a0 := K.out.rd 0 rfl; have l0 := K.out.ltp 0 rfl
  have c0 : (p.phase == 0) = true := by simpa using hp
  have c1 : (p.claim.phase == 0) = false := by simpa using hc
  have c2 : (p.tick.phase == 0) = true := by simpa using ht
  have CP := fun w (h : sat E w (putP b bc bt p :: claimA bc p.claim :: tickA bt p.tick :: memA bm m :: L)) => Lib.hid (cphase_calls bc p.claim (h.pick 1 rfl))
  have TP := fun w (h : sat E w (putP b bc bt p :: claimA bc p.claim :: tickA bt p.tick :: memA bm m :: L)) => Lib.hid (tphase_calls bt p.tick (h.pick 2 rfl))
  have CS := fun w (h : sat E w (tickA bt p.tick :: memA bm m :: putP b bc bt p :: claimA bc p.claim :: L)) => Lib.hid (tstep_calls bt bm p.tick m now ho.tick hroom h)
  obtain ⟨r, hr⟩ : ∃ r, r = p.tick.step m now := ⟨_, rfl⟩
  rw [← hr] at CS ⊢
  have PF := fun w (h : sat E w (putP b bc bt p :: claimA bc p.claim :: tickA bt r.1 :: memA bm r.2 :: L)) => Lib.hid (pfull_calls b bc bt p r.1.phase h)
  generalize (if r.1.phase = 2 then 2 else p.phase) = ph at PF ⊢
  clear ho hp hc ht hr
  go_enter Tryz.func53, Tryz.ntmps53
  go_wp2_with (first | (go_at_call 70; (with_reducible refine (CP _ K.out).out.mono ?_); rintro e w1 ⟨rfl, rfl⟩) | (go_at_call 73; (with_reducible refine (TP _ K.out).out.mono ?_); rintro e w1 ⟨rfl, rfl⟩) | (go_at_call 74; (with_reducible refine ((CS _ (show sat E _ _ from by iterate 6 (try (with_reducible first | exact K.out | apply sat.alloc_any | apply sat.drew | apply sat.drewN))).cdab).out).mono ?_); rintro e w1 ⟨rfl, K1⟩; replace K1 := K1.uncdab; have K2 := Lib.hid K1; clear K1 K; (try clear a0); (try clear l0); (try clear a1); (try clear l1); (try clear a2); (try clear l2); have K := K2; clear K2; have a0 := K.out.rd 0 rfl; have l0 := K.out.ltp 0 rfl) | (go_at_call 71; (with_reducible refine ((PF _ (show sat E _ _ from by iterate 6 (try (with_reducible first | exact K.out | apply sat.alloc_any | apply sat.drew | apply sat.drewN)))).out).mono ?_); rintro e w1 ⟨rfl, K1⟩; have K2 := Lib.hid K1; clear K1 K; (try clear a0); (try clear l0); (try clear a1); (try clear l1); (try clear a2); (try clear l2); have K := K2; clear K2; have a0 := K.out.rd 0 rfl; have l0 := K.out.ltp 0 rfl))
  go_ret
  exact ⟨rfl, putA_shut (p := { p with tick := r.1, phase := ph }) K.out⟩
theorem pstep_store (b bm : Nat) (p : PutM) (m : MemM) (now : Int) (ho : p.ok) (hp : p.phase = 0) (hc : p.claim.phase ≠ 0) (ht : p.tick.phase ≠ 0) (hs : p.stored = false) (hroom : m.log.length < 1000000000) (h : sat E w (putA b p :: memA bm m :: L)) :
    Calls Tryz.prog 53 #[.pointer (some ⟨b, 0, none⟩), .pointer (some ⟨bm, 0, none⟩), .int .i64 now] w fun e w' => e = .returned (.int .i64 p.phase) ∧ sat E w' (putA b { p with stored := true } :: memA bm (m.touch p.who 1 (p.conf.value p.claim.slot) 0 p.value) :: L) := by
  obtain ⟨bc, bt, h⟩ := putA_open h
  have K := Lib.hid h
  clear h
  have a0 := K.out.rd 0 rfl; have l0 := K.out.ltp 0 rfl
  have c0 : (p.phase == 0) = true := by simpa using hp
  have c1 : (p.claim.phase == 0) = false := by simpa using hc
  have c2 : (p.tick.phase == 0) = false := by simpa using ht
  have B := ho.claim.slot_bd
  rw [ho.cc] at B
  have CP := fun m' w (h : sat E w (putP b bc bt p :: claimA bc p.claim :: tickA bt p.tick :: memA bm m' :: L)) => Lib.hid (cphase_calls bc p.claim (h.pick 1 rfl))
  have TP := fun m' w (h : sat E w (putP b bc bt p :: claimA bc p.claim :: tickA bt p.tick :: memA bm m' :: L)) => Lib.hid (tphase_calls bt p.tick (h.pick 2 rfl))
  have SL := fun m' w (h : sat E w (putP b bc bt p :: claimA bc p.claim :: tickA bt p.tick :: memA bm m' :: L)) => Lib.hid (cslot_calls bc p.claim ho.claim (h.pick 1 rfl))
  have c3 : p.stored = false := hs
  have V := fun w => Lib.hid (value_calls p.conf w ho.conf p.claim.slot B.1 B.2.1)
  have ST := fun w (h : sat E w (memA bm m :: putP b bc bt p :: claimA bc p.claim :: tickA bt p.tick :: L)) => Lib.hid (store_calls bm m p.who (p.conf.value p.claim.slot) p.value ⟨ho.value0, ho.value1⟩ hroom h)
  clear ho hp hc ht hs B
  go_enter Tryz.func53, Tryz.ntmps53
  go_wp2_with (first | (go_at_call 70; (with_reducible refine (CP _ _ K.out).out.mono ?_); rintro e w1 ⟨rfl, rfl⟩) | (go_at_call 73; (with_reducible refine (TP _ _ K.out).out.mono ?_); rintro e w1 ⟨rfl, rfl⟩))
  go_region_held3 (fun w' => w'.cell? ⟨b, 0, none⟩ = some (.int .i64 p.conf.th) ∧ w'.cell? ⟨b, 1, none⟩ = some (.int .i64 p.conf.sl) ∧ w'.cell? ⟨b, 2, none⟩ = some (.int .i64 p.conf.src) ∧ w'.cell? ⟨b, 3, none⟩ = some (.int .i64 p.conf.dl) ∧ w'.cell? ⟨b, 4, none⟩ = some (.int .i64 p.who) ∧ w'.cell? ⟨b, 5, none⟩ = some (.int .i64 p.fin) ∧ w'.cell? ⟨b, 6, none⟩ = some (.int .u64 p.value) ∧ w'.cell? ⟨b, 7, none⟩ = some (.pointer (some ⟨bc, 0, none⟩)) ∧ w'.cell? ⟨b, 8, none⟩ = some (.pointer (some ⟨bt, 0, none⟩))) (first | exact putS (M := _) (by repeat (with_reducible first | exact K.out | apply sat.alloc_any | apply sat.drew | apply sat.drewN)) rfl rfl rfl rfl | go_keep)
    (first | (go_at_call 76; (with_reducible refine ((SL _ _ (show sat E _ _ from by iterate 6 (try (with_reducible first | exact K.out | apply sat.alloc_any | apply sat.drew | apply sat.drewN)))).out).mono ?_); rintro e w1 ⟨rfl, hb⟩; have K1 := sat.grown (by repeat (with_reducible first | exact K.out | apply sat.alloc_any | apply sat.drew | apply sat.drewN)) hb; clear hb; have K2 := Lib.hid K1; clear K1 K; (try clear a0); (try clear l0); (try clear a1); (try clear l1); (try clear a2); (try clear l2); have K := K2; clear K2; have a0 := K.out.rd 0 rfl; have l0 := K.out.ltp 0 rfl) | (go_at_call 34; (with_reducible refine ((V _).out).mono ?_); rintro e w1 ⟨rfl, hb⟩; have K1 := sat.grown (by repeat (with_reducible first | exact K.out | apply sat.alloc_any | apply sat.drew | apply sat.drewN)) hb; clear hb; have K2 := Lib.hid K1; clear K1 K; (try clear a0); (try clear l0); (try clear a1); (try clear l1); (try clear a2); (try clear l2); have K := K2; clear K2; have a0 := K.out.rd 0 rfl; have l0 := K.out.ltp 0 rfl) | (go_at_call 75; (with_reducible refine ((ST _ (show sat E _ _ from by iterate 6 (try (with_reducible first | exact K.out | apply sat.alloc_any | apply sat.drew | apply sat.drewN))).dabc).out).mono ?_); rintro e w1 ⟨rfl, K1⟩; replace K1 := K1.undabc; have K2 := Lib.hid K1; clear K1 K; (try clear a0); (try clear l0); (try clear a1); (try clear l1); (try clear a2); (try clear l2); have K := K2; clear K2; have a0 := K.out.rd 0 rfl; have l0 := K.out.ltp 0 rfl))
  all_goals
    go_wp2_with (first | ((with_reducible refine at_store ?_); refine st_store 0 K.out rfl rfl rfl rfl ?_ ?_ ?_ ?_; (· kernel_rfl); (· simp); (· simp [Value.oneCell']); intro w1 K1; simp only [List.set, putL] at K1; have K2 := Lib.hid K1; clear K1 K; (try clear a0); (try clear l0); (try clear a1); (try clear l1); (try clear a2); (try clear l2); have K := K2; clear K2; have a0 := K.out.rd 0 rfl; have l0 := K.out.ltp 0 rfl))
    go_ret
    exact ⟨rfl, putA_shut (p := { p with stored := true }) K.out⟩
theorem pstep_word (b bm : Nat) (p : PutM) (m : MemM) (now : Int) (ho : p.ok) (hp : p.phase = 0) (hc : p.claim.phase ≠ 0) (ht : p.tick.phase ≠ 0) (hs : p.stored = true) (hroom : m.log.length < 1000000000) (h : sat E w (putA b p :: memA bm m :: L)) :
    Calls Tryz.prog 53 #[.pointer (some ⟨b, 0, none⟩), .pointer (some ⟨bm, 0, none⟩), .int .i64 now] w fun e w' => e = .returned (.int .i64 1) ∧ sat E w' (putA b { p with phase := 1 } :: memA bm (m.touch p.who 1 p.claim.slot 0 (p.claim.word.next p.fin p.tick.stamp).pack) :: L) := by
  obtain ⟨bc, bt, h⟩ := putA_open h
  have K := Lib.hid h
  clear h
  have a0 := K.out.rd 0 rfl; have l0 := K.out.ltp 0 rfl
  have c0 : (p.phase == 0) = true := by simpa using hp
  have c1 : (p.claim.phase == 0) = false := by simpa using hc
  have c2 : (p.tick.phase == 0) = false := by simpa using ht
  have B := ho.claim.slot_bd
  rw [ho.cc] at B
  have CP := fun m' w (h : sat E w (putP b bc bt p :: claimA bc p.claim :: tickA bt p.tick :: memA bm m' :: L)) => Lib.hid (cphase_calls bc p.claim (h.pick 1 rfl))
  have TP := fun m' w (h : sat E w (putP b bc bt p :: claimA bc p.claim :: tickA bt p.tick :: memA bm m' :: L)) => Lib.hid (tphase_calls bt p.tick (h.pick 2 rfl))
  have SL := fun m' w (h : sat E w (putP b bc bt p :: claimA bc p.claim :: tickA bt p.tick :: memA bm m' :: L)) => Lib.hid (cslot_calls bc p.claim ho.claim (h.pick 1 rfl))
  have c3 : p.stored = true := hs
  have CW := fun m' w (h : sat E w (claimA bc p.claim :: putP b bc bt p :: tickA bt p.tick :: memA bm m' :: L)) => Lib.hid (cword_calls bc p.claim h)
  have TS := fun m' w (h : sat E w (tickA bt p.tick :: putP b bc bt p :: claimA bc p.claim :: memA bm m' :: L)) => Lib.hid (tstamp_calls bt p.tick h)
  have NX : ∀ w, Hid (Tells 78 #[.agg #[.int .i64 p.claim.word.state, .int .i64 p.claim.word.fin, .int .i64 p.claim.word.gen, .int .i64 p.claim.word.stamp.lo, .int .i64 p.claim.word.stamp.hi], .int .i64 p.fin, .agg #[.int .i64 p.tick.stamp.lo, .int .i64 p.tick.stamp.hi]] w (.agg #[.int .i64 (p.claim.word.next p.fin p.tick.stamp).state, .int .i64 (p.claim.word.next p.fin p.tick.stamp).fin, .int .i64 (p.claim.word.next p.fin p.tick.stamp).gen, .int .i64 (p.claim.word.next p.fin p.tick.stamp).stamp.lo, .int .i64 (p.claim.word.next p.fin p.tick.stamp).stamp.hi])) :=
    fun w => Lib.hid (next_calls p.claim.word p.fin p.tick.stamp ⟨ho.gen0, by have := ho.gen1; omega⟩ w)
  generalize p.claim.word.next p.fin p.tick.stamp = y at NX ⊢
  have PK := fun w => Lib.hid (pack_calls y w)
  have hb := pack_bd y
  generalize y.pack = z at PK hb ⊢
  have ST := fun w (h : sat E w (memA bm m :: putP b bc bt p :: claimA bc p.claim :: tickA bt p.tick :: L)) => Lib.hid (store_calls bm m p.who p.claim.slot z hb hroom h)
  clear ho hp hc ht hs B hb
  go_enter Tryz.func53, Tryz.ntmps53
  go_wp2_with (first | (go_at_call 70; (with_reducible refine (CP _ _ K.out).out.mono ?_); rintro e w1 ⟨rfl, rfl⟩) | (go_at_call 73; (with_reducible refine (TP _ _ K.out).out.mono ?_); rintro e w1 ⟨rfl, rfl⟩))
  go_region_held3 (fun w' => w'.cell? ⟨b, 0, none⟩ = some (.int .i64 p.conf.th) ∧ w'.cell? ⟨b, 1, none⟩ = some (.int .i64 p.conf.sl) ∧ w'.cell? ⟨b, 2, none⟩ = some (.int .i64 p.conf.src) ∧ w'.cell? ⟨b, 3, none⟩ = some (.int .i64 p.conf.dl) ∧ w'.cell? ⟨b, 4, none⟩ = some (.int .i64 p.who) ∧ w'.cell? ⟨b, 5, none⟩ = some (.int .i64 p.fin) ∧ w'.cell? ⟨b, 6, none⟩ = some (.int .u64 p.value) ∧ w'.cell? ⟨b, 7, none⟩ = some (.pointer (some ⟨bc, 0, none⟩)) ∧ w'.cell? ⟨b, 8, none⟩ = some (.pointer (some ⟨bt, 0, none⟩))) (first | exact putS (M := _) (by repeat (with_reducible first | exact K.out | apply sat.alloc_any | apply sat.drew | apply sat.drewN)) rfl rfl rfl rfl | go_keep)
    (first | (go_at_call 76; (with_reducible refine ((SL _ _ (show sat E _ _ from by iterate 6 (try (with_reducible first | exact K.out | apply sat.alloc_any | apply sat.drew | apply sat.drewN)))).out).mono ?_); rintro e w1 ⟨rfl, hb⟩; have K1 := sat.grown (by repeat (with_reducible first | exact K.out | apply sat.alloc_any | apply sat.drew | apply sat.drewN)) hb; clear hb; have K2 := Lib.hid K1; clear K1 K; (try clear a0); (try clear l0); (try clear a1); (try clear l1); (try clear a2); (try clear l2); have K := K2; clear K2; have a0 := K.out.rd 0 rfl; have l0 := K.out.ltp 0 rfl) | (go_at_call 33; (with_reducible refine (word_calls p.conf _ p.claim.slot).mono ?_); rintro e w1 ⟨rfl, hb⟩; have K1 := sat.grown (by repeat (with_reducible first | exact K.out | apply sat.alloc_any | apply sat.drew | apply sat.drewN)) hb; clear hb; have K2 := Lib.hid K1; clear K1 K; (try clear a0); (try clear l0); (try clear a1); (try clear l1); (try clear a2); (try clear l2); have K := K2; clear K2; have a0 := K.out.rd 0 rfl; have l0 := K.out.ltp 0 rfl) | (go_at_call 77; (with_reducible refine ((CW _ _ (show sat E _ _ from by iterate 6 (try (with_reducible first | exact K.out | apply sat.alloc_any | apply sat.drew | apply sat.drewN))).swap).out).mono ?_); rintro e w1 ⟨rfl, K1⟩; replace K1 := K1.swap; have K2 := Lib.hid K1; clear K1 K; (try clear a0); (try clear l0); (try clear a1); (try clear l1); (try clear a2); (try clear l2); have K := K2; clear K2; have a0 := K.out.rd 0 rfl; have l0 := K.out.ltp 0 rfl) | (go_at_call 79; (with_reducible refine ((TS _ _ (show sat E _ _ from by iterate 6 (try (with_reducible first | exact K.out | apply sat.alloc_any | apply sat.drew | apply sat.drewN))).cabd).out).mono ?_); rintro e w1 ⟨rfl, K1⟩; replace K1 := K1.uncabd; have K2 := Lib.hid K1; clear K1 K; (try clear a0); (try clear l0); (try clear a1); (try clear l1); (try clear a2); (try clear l2); have K := K2; clear K2; have a0 := K.out.rd 0 rfl; have l0 := K.out.ltp 0 rfl) | (go_at_call 78; (with_reducible refine ((NX _).out).mono ?_); rintro e w1 ⟨rfl, hb⟩; have K1 := sat.grown (by repeat (with_reducible first | exact K.out | apply sat.alloc_any | apply sat.drew | apply sat.drewN)) hb; clear hb; have K2 := Lib.hid K1; clear K1 K; (try clear a0); (try clear l0); (try clear a1); (try clear l1); (try clear a2); (try clear l2); have K := K2; clear K2; have a0 := K.out.rd 0 rfl; have l0 := K.out.ltp 0 rfl) | (go_at_call 64; (with_reducible refine ((PK _).out).mono ?_); rintro e w1 ⟨rfl, hb⟩; have K1 := sat.grown (by repeat (with_reducible first | exact K.out | apply sat.alloc_any | apply sat.drew | apply sat.drewN)) hb; clear hb; have K2 := Lib.hid K1; clear K1 K; (try clear a0); (try clear l0); (try clear a1); (try clear l1); (try clear a2); (try clear l2); have K := K2; clear K2; have a0 := K.out.rd 0 rfl; have l0 := K.out.ltp 0 rfl) | (go_at_call 75; (with_reducible refine ((ST _ (show sat E _ _ from by iterate 6 (try (with_reducible first | exact K.out | apply sat.alloc_any | apply sat.drew | apply sat.drewN))).dabc).out).mono ?_); rintro e w1 ⟨rfl, K1⟩; replace K1 := K1.undabc; have K2 := Lib.hid K1; clear K1 K; (try clear a0); (try clear l0); (try clear a1); (try clear l1); (try clear a2); (try clear l2); have K := K2; clear K2; have a0 := K.out.rd 0 rfl; have l0 := K.out.ltp 0 rfl))
  all_goals
    go_wp2_with (first | ((with_reducible refine at_store ?_); refine st_store 0 K.out rfl rfl rfl rfl ?_ ?_ ?_ ?_; (· kernel_rfl); (· simp); (· simp [Value.oneCell']); intro w1 K1; simp only [List.set, putL] at K1; have K2 := Lib.hid K1; clear K1 K; (try clear a0); (try clear l0); (try clear a1); (try clear l1); (try clear a2); (try clear l2); have K := K2; clear K2; have a0 := K.out.rd 0 rfl; have l0 := K.out.ltp 0 rfl))
    go_ret
    exact ⟨rfl, putA_shut (p := { p with phase := 1 }) K.out⟩
/-- A step of a Put. -/
theorem pstep_calls (b bm : Nat) (p : PutM) (m : MemM) (now : Int) (ho : p.ok) (hroom : m.log.length < 1000000000) (h : sat E w (putA b p :: memA bm m :: L)) :
    Calls Tryz.prog 53 #[.pointer (some ⟨b, 0, none⟩), .pointer (some ⟨bm, 0, none⟩), .int .i64 now] w fun e w' => e = .returned (.int .i64 (p.step m now).1.phase) ∧ sat E w' (putA b (p.step m now).1 :: memA bm (p.step m now).2 :: L) := by
  unfold PutM.step
  by_cases hp : p.phase = 0
  · rw [if_neg (by simpa using hp)]
    by_cases hc : p.claim.phase = 0
    · rw [if_pos hc]; exact pstep_claim b bm p m now ho hp hc hroom h
    · rw [if_neg hc]
      by_cases ht : p.tick.phase = 0
      · rw [if_pos ht]; exact pstep_tick b bm p m now ho hp hc ht hroom h
      · rw [if_neg ht]
        cases hs : p.stored with
        | false => simpa [hs] using pstep_store b bm p m now ho hp hc ht hs hroom h
        | true => simpa [hs] using pstep_word b bm p m now ho hp hc ht hs hroom h
  · rw [if_pos hp]
    exact pstep_off b bm p m now hp h
end
end Go.Proofs.YtegdhojhnmgjgaaGreat
