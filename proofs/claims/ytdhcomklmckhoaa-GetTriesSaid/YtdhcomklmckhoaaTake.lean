/- What is in a place is taken (package take): what each of its functions does. Conditions: a Right layout, a thread and a place of it, a word that Pack tells, room for what is noted. -/
import Derived.Test.YtdhcomklmckhoaaTickD
namespace Go.Proofs.Ytdhcomklmckhoaa
open Go.RowKit Go.SepYtdhcomklmckhoaa
set_option linter.unusedSimpArgs false
set_option linter.unusedVariables false
set_option maxRecDepth 100000
set_option maxHeartbeats 1000000
attribute [local go_sem] min2_w max2_w min_w max_w
abbrev TakeM.v (t : TakeM) : List Value := [.int .i64 t.conf.th, .int .i64 t.conf.sl, .int .i64 t.conf.src, .int .i64 t.conf.dl, .int .i64 t.who, .int .i64 t.slot, .int .u64 t.word, .int .i64 t.steps, .bool t.lost, .int .u64 t.value, .int .i64 t.phase]
abbrev takeA (b : Nat) (t : TakeM) : SA := pt b (.cells t.v.toArray 102 (0, 0))
structure TakeM.ok (t : TakeM) : Prop where
  conf : t.conf.ok
  who0 : 0 ≤ t.who
  who1 : t.who < t.conf.th
  slot0 : 0 ≤ t.slot
  slot1 : t.slot < t.conf.all
  word0 : 0 ≤ t.word
  word1 : t.word < 18446744073709551616
  st0 : 0 ≤ t.steps
  st1 : t.steps ≤ 1000000000
theorem pack_bd (y : WordM) : 0 ≤ y.pack ∧ y.pack < 18446744073709551616 := by
  unfold WordM.pack
  split
  · rename_i h
    have := wordR h
    omega
  · omega
section
variable {E w : World} {L : List SA}
theorem takeS {b : Nat} {t t' : TakeM} {M : List SA} (h : sat E w (takeA b t' :: M)) (hc : t'.conf = t.conf) (hw : t'.who = t.who) (hs : t'.slot = t.slot) (hd : t'.word = t.word) :
    w.cell? ⟨b, 0, none⟩ = some (.int .i64 t.conf.th) ∧ w.cell? ⟨b, 1, none⟩ = some (.int .i64 t.conf.sl) ∧ w.cell? ⟨b, 2, none⟩ = some (.int .i64 t.conf.src) ∧ w.cell? ⟨b, 3, none⟩ = some (.int .i64 t.conf.dl) ∧ w.cell? ⟨b, 4, none⟩ = some (.int .i64 t.who) ∧ w.cell? ⟨b, 5, none⟩ = some (.int .i64 t.slot) ∧ w.cell? ⟨b, 6, none⟩ = some (.int .u64 t.word) ∧ (∀ j, w.frozen? ⟨b, j, none⟩ = false) := by
  have := h.rd 0 rfl
  rw [← hc, ← hw, ← hs, ← hd]
  exact ⟨this 0, this 1, this 2, this 3, this 4, this 5, this 6, h.fr 0 rfl⟩
theorem takenew_calls (c : ConfM) (who slot word : Int) (h : sat E w L) :
    Calls Try.prog 32 #[.agg #[.int .i64 c.th, .int .i64 c.sl, .int .i64 c.src, .int .i64 c.dl], .int .i64 who, .int .i64 slot, .int .u64 word] w (NewA E L (fun g => takeA g (TakeM.new c who slot word))) := by
  have K := Lib.hid h
  clear h
  go_enter Try.func32, Try.ntmps32
  go_wp2
  go_ret
  exact ⟨w.heap.size + 1, rfl, K.out.alloc2⟩
theorem tvalue_calls (b : Nat) (t : TakeM) (h : sat E w (takeA b t :: L)) :
    Calls Try.prog 34 #[.pointer (some ⟨b, 0, none⟩)] w fun e w' => e = .returned (.int .u64 t.get) ∧ w = w' := by
  have a0 := h.rd 0 rfl
  clear h
  unfold TakeM.get
  by_cases hp : t.phase = 1
  · rw [if_pos hp]
    have c0 : (t.phase == 1) = true := by simpa using hp
    clear hp
    go_enter Try.func34, Try.ntmps34
    go_wp2
    go_ret
    exact ⟨rfl, rfl⟩
  · rw [if_neg hp]
    have c0 : (t.phase == 1) = false := by simpa using hp
    clear hp
    go_enter Try.func34, Try.ntmps34
    go_wp2
    go_ret
    exact ⟨rfl, rfl⟩
theorem tend_calls (b bm : Nat) (t : TakeM) (m : MemM) (ho : t.ok) (hroom : m.log.length < 1000000000) (h : sat E w (takeA b t :: memA bm m :: L)) :
    Calls Try.prog 52 #[.pointer (some ⟨b, 0, none⟩), .pointer (some ⟨bm, 0, none⟩)] w fun e w' => e = .returned (.tuple #[]) ∧ sat E w' (takeA b (t.fin m).1 :: memA bm (t.fin m).2 :: L) := by
  have K := Lib.hid h
  clear h
  have a0 := K.out.rd 0 rfl; have l0 := K.out.ltp 0 rfl
  have H := fun w => Lib.hid (hazard_calls t.conf w ho.conf t.who ho.who0 ho.who1)
  have ST := fun w (h : sat E w (memA bm m :: takeA b t :: L)) => Lib.hid (store_calls bm m t.who (t.conf.hazard t.who) 0 (by omega) hroom h)
  unfold TakeM.fin
  clear ho
  cases hl : t.lost with
  | false =>
    have c0 : t.lost = false := hl
    clear hl
    go_enter Try.func52, Try.ntmps52
    go_wp2_with fail
    go_region_held3 (fun w' => (∀ j, w'.cell? ⟨b, j, none⟩ = (t.v)[j]?) ∧ b < w'.heap.size) (first | exact sat.s0 (by repeat (with_reducible first | exact K.out | apply sat.alloc_any | apply sat.drew | apply sat.drewN)) | go_keep) (first | (go_at_call 21; (with_reducible refine ((H _).out).mono ?_); rintro e w1 ⟨rfl, hb⟩; have K1 := sat.grown (by repeat (with_reducible first | exact K.out | apply sat.alloc_any | apply sat.drew | apply sat.drewN)) hb; clear hb; have K2 := Lib.hid K1; clear K1 K; (try clear a0); (try clear l0); (try clear a1); (try clear l1); (try clear a2); (try clear l2); have K := K2; clear K2; have a0 := K.out.rd 0 rfl; have l0 := K.out.ltp 0 rfl) | (go_at_call 24; (with_reducible refine ((ST _ (show sat E _ _ from by iterate 6 (try (with_reducible first | exact K.out | apply sat.alloc_any | apply sat.drew | apply sat.drewN))).swap).out).mono ?_); rintro e w1 ⟨rfl, K1⟩; replace K1 := K1.swap; have K2 := Lib.hid K1; clear K1 K; (try clear a0); (try clear l0); (try clear a1); (try clear l1); (try clear a2); (try clear l2); have K := K2; clear K2; have a0 := K.out.rd 0 rfl; have l0 := K.out.ltp 0 rfl))
    go_wp2_with (first | ((with_reducible refine at_store ?_); refine st_store 0 K.out rfl rfl rfl rfl ?_ ?_ ?_ ?_; (· kernel_rfl); (· simp); (· simp [Value.oneCell']); intro w1 K1; simp only [List.set, putL] at K1; have K2 := Lib.hid K1; clear K1 K; (try clear a0); (try clear l0); (try clear a1); (try clear l1); (try clear a2); (try clear l2); have K := K2; clear K2; have a0 := K.out.rd 0 rfl; have l0 := K.out.ltp 0 rfl))
    (first | go_end0 | ((try simp only [Exit.inBlock, Exit.then]); refine bodyPost_ret (results_none rfl _ _ _) rfl ?_))
    exact ⟨rfl, by simpa [c0] using K.out⟩
  | true =>
    have c0 : t.lost = true := hl
    clear hl
    go_enter Try.func52, Try.ntmps52
    go_wp2_with fail
    go_region_held3 (fun w' => (∀ j, w'.cell? ⟨b, j, none⟩ = (t.v)[j]?) ∧ b < w'.heap.size) (first | exact sat.s0 (by repeat (with_reducible first | exact K.out | apply sat.alloc_any | apply sat.drew | apply sat.drewN)) | go_keep) (first | (go_at_call 21; (with_reducible refine ((H _).out).mono ?_); rintro e w1 ⟨rfl, hb⟩; have K1 := sat.grown (by repeat (with_reducible first | exact K.out | apply sat.alloc_any | apply sat.drew | apply sat.drewN)) hb; clear hb; have K2 := Lib.hid K1; clear K1 K; (try clear a0); (try clear l0); (try clear a1); (try clear l1); (try clear a2); (try clear l2); have K := K2; clear K2; have a0 := K.out.rd 0 rfl; have l0 := K.out.ltp 0 rfl) | (go_at_call 24; (with_reducible refine ((ST _ (show sat E _ _ from by iterate 6 (try (with_reducible first | exact K.out | apply sat.alloc_any | apply sat.drew | apply sat.drewN))).swap).out).mono ?_); rintro e w1 ⟨rfl, K1⟩; replace K1 := K1.swap; have K2 := Lib.hid K1; clear K1 K; (try clear a0); (try clear l0); (try clear a1); (try clear l1); (try clear a2); (try clear l2); have K := K2; clear K2; have a0 := K.out.rd 0 rfl; have l0 := K.out.ltp 0 rfl))
    go_wp2_with (first | ((with_reducible refine at_store ?_); refine st_store 0 K.out rfl rfl rfl rfl ?_ ?_ ?_ ?_; (· kernel_rfl); (· simp); (· simp [Value.oneCell']); intro w1 K1; simp only [List.set, putL] at K1; have K2 := Lib.hid K1; clear K1 K; (try clear a0); (try clear l0); (try clear a1); (try clear l1); (try clear a2); (try clear l2); have K := K2; clear K2; have a0 := K.out.rd 0 rfl; have l0 := K.out.ltp 0 rfl))
    (first | go_end0 | ((try simp only [Exit.inBlock, Exit.then]); refine bodyPost_ret (results_none rfl _ _ _) rfl ?_))
    exact ⟨rfl, by simpa [c0] using K.out⟩
theorem kstep_off (b bm : Nat) (t : TakeM) (m : MemM) (hp : t.phase ≠ 0) (h : sat E w (takeA b t :: memA bm m :: L)) :
    Calls Try.prog 33 #[.pointer (some ⟨b, 0, none⟩), .pointer (some ⟨bm, 0, none⟩)] w fun e w' => e = .returned (.int .i64 t.phase) ∧ sat E w' (takeA b t :: memA bm m :: L) := by
  have K := Lib.hid h
  clear h
  have a0 := K.out.rd 0 rfl; have l0 := K.out.ltp 0 rfl
  have c0 : (t.phase == 0) = false := by simpa using hp
  clear hp
  go_enter Try.func33, Try.ntmps33
  go_wp2
  go_ret
  exact ⟨rfl, K.out⟩
theorem kstep_lost (b bm : Nat) (t : TakeM) (m : MemM) (ho : t.ok) (hp : t.phase = 0) (hl : t.lost = true) (hroom : m.log.length < 1000000000) (h : sat E w (takeA b t :: memA bm m :: L)) :
    Calls Try.prog 33 #[.pointer (some ⟨b, 0, none⟩), .pointer (some ⟨bm, 0, none⟩)] w fun e w' => e = .returned (.int .i64 (t.fin m).1.phase) ∧ sat E w' (takeA b (t.fin m).1 :: memA bm (t.fin m).2 :: L) := by
  have K := Lib.hid h
  have hpk := (memA_open h.swap).1
  clear h
  have a0 := K.out.rd 0 rfl; have l0 := K.out.ltp 0 rfl
  have c0 : (t.phase == 0) = true := by simpa using hp
  obtain ⟨B0, B1⟩ := And.intro ho.st0 ho.st1
  have FN := fun w (h : sat E w (takeA b t :: memA bm m :: L)) => Lib.hid (tend_calls b bm t m ho hroom h)
  clear ho hp
  go_enter Try.func33, Try.ntmps33
  go_wp2_with (first | (go_at_call 52; (with_reducible refine ((FN _ (show sat E _ _ from by iterate 6 (try (with_reducible first | exact K.out | apply sat.alloc_any | apply sat.drew | apply sat.drewN)))).out).mono ?_); rintro e w1 ⟨rfl, K1⟩; have K2 := Lib.hid K1; clear K1 K; (try clear a0); (try clear l0); (try clear a1); (try clear l1); (try clear a2); (try clear l2); have K := K2; clear K2; have a0 := K.out.rd 0 rfl; have l0 := K.out.ltp 0 rfl))
  go_ret
  exact ⟨rfl, K.out⟩
theorem kstep_0 (b bm : Nat) (t : TakeM) (m : MemM) (ho : t.ok) (hp : t.phase = 0) (hl : t.lost = false) (hk : t.steps = 0) (hroom : m.log.length < 1000000000) (h : sat E w (takeA b t :: memA bm m :: L)) :
    Calls Try.prog 33 #[.pointer (some ⟨b, 0, none⟩), .pointer (some ⟨bm, 0, none⟩)] w fun e w' => e = .returned (.int .i64 t.phase) ∧ sat E w' (takeA b { t with steps := t.steps + 1 } :: memA bm (m.touch t.who 1 (t.conf.hazard t.who) 0 (t.slot + 1)) :: L) := by
  have K := Lib.hid h
  have hpk := (memA_open h.swap).1
  clear h
  have a0 := K.out.rd 0 rfl; have l0 := K.out.ltp 0 rfl
  have c0 : (t.phase == 0) = true := by simpa using hp
  obtain ⟨B0, B1⟩ := And.intro ho.st0 ho.st1
  have c1 : t.lost = false := hl
  have d0 : (t.steps == 0) = true := by simp [hk]
  have H := fun w => Lib.hid (hazard_calls t.conf w ho.conf t.who ho.who0 ho.who1)
  have hal := ho.conf.all_bd
  have s0 := ho.slot0
  have s1 := ho.slot1
  have v1 : IntKind.i64.wrap (t.slot + 1) = t.slot + 1 := wi (by omega) (by omega)
  have v2 : IntKind.u64.wrap (t.slot + 1) = t.slot + 1 := by rw [IntKind.wrap_u64]; omega
  have ST := fun w (h : sat E w (memA bm m :: takeA b t :: L)) => Lib.hid (store_calls bm m t.who (t.conf.hazard t.who) (t.slot + 1) (by omega) hroom h)
  clear ho hp hk hl hpk
  go_enter Try.func33, Try.ntmps33
  go_wp2_with fail
  go_region_held3 (fun w' => w'.cell? ⟨b, 0, none⟩ = some (.int .i64 t.conf.th) ∧ w'.cell? ⟨b, 1, none⟩ = some (.int .i64 t.conf.sl) ∧ w'.cell? ⟨b, 2, none⟩ = some (.int .i64 t.conf.src) ∧ w'.cell? ⟨b, 3, none⟩ = some (.int .i64 t.conf.dl) ∧ w'.cell? ⟨b, 4, none⟩ = some (.int .i64 t.who) ∧ w'.cell? ⟨b, 5, none⟩ = some (.int .i64 t.slot) ∧ w'.cell? ⟨b, 6, none⟩ = some (.int .u64 t.word) ∧ (∀ j, w'.frozen? ⟨b, j, none⟩ = false)) (first | exact takeS (M := _) (by repeat (with_reducible first | exact K.out | apply sat.alloc_any | apply sat.drew | apply sat.drewN)) rfl rfl rfl rfl |  go_keep)
    (first | (go_at_call 21; (with_reducible refine ((H _).out).mono ?_); rintro e w1 ⟨rfl, hb⟩; have K1 := sat.grown (by repeat (with_reducible first | exact K.out | apply sat.alloc_any | apply sat.drew | apply sat.drewN)) hb; clear hb; have K2 := Lib.hid K1; clear K1 K; (try clear a0); (try clear l0); (try clear a1); (try clear l1); (try clear a2); (try clear l2); have K := K2; clear K2; have a0 := K.out.rd 0 rfl; have l0 := K.out.ltp 0 rfl) | (go_at_call 24; (with_reducible refine ((ST _ (show sat E _ _ from by iterate 6 (try (with_reducible first | exact K.out | apply sat.alloc_any | apply sat.drew | apply sat.drewN))).swap).out).mono ?_); rintro e w1 ⟨rfl, K1⟩; replace K1 := K1.swap; have K2 := Lib.hid K1; clear K1 K; (try clear a0); (try clear l0); (try clear a1); (try clear l1); (try clear a2); (try clear l2); have K := K2; clear K2; have a0 := K.out.rd 0 rfl; have l0 := K.out.ltp 0 rfl))
  go_wp2_with (first | ((with_reducible refine at_store ?_); refine st_store 0 K.out rfl rfl rfl rfl ?_ ?_ ?_ ?_; (· kernel_rfl); (· simp); (· simp [Value.oneCell']); intro w1 K1; simp only [List.set, putL] at K1; have K2 := Lib.hid K1; clear K1 K; (try clear a0); (try clear l0); (try clear a1); (try clear l1); (try clear a2); (try clear l2); have K := K2; clear K2; have a0 := K.out.rd 0 rfl; have l0 := K.out.ltp 0 rfl))
  go_ret
  exact ⟨rfl, K.out⟩
theorem kstep_1 (b bm : Nat) (t : TakeM) (m : MemM) (ho : t.ok) (hp : t.phase = 0) (hl : t.lost = false) (hk : t.steps = 1) (hroom : m.log.length < 1000000000) (h : sat E w (takeA b t :: memA bm m :: L)) :
    Calls Try.prog 33 #[.pointer (some ⟨b, 0, none⟩), .pointer (some ⟨bm, 0, none⟩)] w fun e w' => e = .returned (.int .i64 t.phase) ∧ sat E w' (takeA b { t with steps := t.steps + 1, lost := !decide (m.peek t.slot = t.word) } :: memA bm (m.touch t.who 0 t.slot 0 0) :: L) := by
  have K := Lib.hid h
  have hpk := (memA_open h.swap).1
  clear h
  have a0 := K.out.rd 0 rfl; have l0 := K.out.ltp 0 rfl
  have c0 : (t.phase == 0) = true := by simpa using hp
  obtain ⟨B0, B1⟩ := And.intro ho.st0 ho.st1
  have c1 : t.lost = false := hl
  have d0 : (t.steps == 0) = false := by simp [hk]
  have d1 : (t.steps == 1) = true := by simp [hk]
  have LD := fun w (h : sat E w (memA bm m :: takeA b t :: L)) => Lib.hid (load_calls bm m t.who t.slot hroom h)
  generalize m.peek t.slot = x at LD ⊢
  have hx : (!decide (x = t.word)) = (x != t.word) := by cases h : (x != t.word) <;> simp_all
  rw [hx]
  clear ho hp hk hl hpk hx
  go_enter Try.func33, Try.ntmps33
  go_wp2_with fail
  go_region_held3 (fun w' => w'.cell? ⟨b, 0, none⟩ = some (.int .i64 t.conf.th) ∧ w'.cell? ⟨b, 1, none⟩ = some (.int .i64 t.conf.sl) ∧ w'.cell? ⟨b, 2, none⟩ = some (.int .i64 t.conf.src) ∧ w'.cell? ⟨b, 3, none⟩ = some (.int .i64 t.conf.dl) ∧ w'.cell? ⟨b, 4, none⟩ = some (.int .i64 t.who) ∧ w'.cell? ⟨b, 5, none⟩ = some (.int .i64 t.slot) ∧ w'.cell? ⟨b, 6, none⟩ = some (.int .u64 t.word) ∧ (∀ j, w'.frozen? ⟨b, j, none⟩ = false)) (first | exact takeS (M := _) (by repeat (with_reducible first | exact K.out | apply sat.alloc_any | apply sat.drew | apply sat.drewN)) rfl rfl rfl rfl | exact takeS (M := memA bm (m.touch t.who 0 t.slot 0 0) :: L) (t' := { t with lost := (x != t.word) }) (K.out.set0 (i := 8) (v := .bool (x != t.word))) rfl rfl rfl rfl | go_keep)
    (first | (go_at_call 23; (with_reducible refine (word_calls t.conf _ t.slot).mono ?_); rintro e w1 ⟨rfl, hb⟩; have K1 := sat.grown (by repeat (with_reducible first | exact K.out | apply sat.alloc_any | apply sat.drew | apply sat.drewN)) hb; clear hb; have K2 := Lib.hid K1; clear K1 K; (try clear a0); (try clear l0); (try clear a1); (try clear l1); (try clear a2); (try clear l2); have K := K2; clear K2; have a0 := K.out.rd 0 rfl; have l0 := K.out.ltp 0 rfl) | (go_at_call 51; (with_reducible refine ((LD _ (show sat E _ _ from by iterate 6 (try (with_reducible first | exact K.out | apply sat.alloc_any | apply sat.drew | apply sat.drewN))).swap).out).mono ?_); rintro e w1 ⟨rfl, K1⟩; replace K1 := K1.swap; have K2 := Lib.hid K1; clear K1 K; (try clear a0); (try clear l0); (try clear a1); (try clear l1); (try clear a2); (try clear l2); have K := K2; clear K2; have a0 := K.out.rd 0 rfl; have l0 := K.out.ltp 0 rfl))
  have K1 := K.out.set0 (i := 8) (v := .bool (x != t.word))
  simp only [List.set] at K1
  obtain ⟨w2, hw2, K2⟩ := K1.gen
  rw [← hw2]
  clear hw2 K1 K a0 l0
  have K := Lib.hid K2
  clear K2
  have a0 := K.out.rd 0 rfl; have l0 := K.out.ltp 0 rfl
  go_wp2_with (first | ((with_reducible refine at_store ?_); refine st_store 0 K.out rfl rfl rfl rfl ?_ ?_ ?_ ?_; (· kernel_rfl); (· simp); (· simp [Value.oneCell']); intro w1 K1; simp only [List.set, putL] at K1; have K2 := Lib.hid K1; clear K1 K; (try clear a0); (try clear l0); (try clear a1); (try clear l1); (try clear a2); (try clear l2); have K := K2; clear K2; have a0 := K.out.rd 0 rfl; have l0 := K.out.ltp 0 rfl))
  go_ret
  exact ⟨rfl, K.out⟩
theorem kstep_2 (b bm : Nat) (t : TakeM) (m : MemM) (ho : t.ok) (hp : t.phase = 0) (hl : t.lost = false) (hk : t.steps = 2) (hroom : m.log.length < 1000000000) (h : sat E w (takeA b t :: memA bm m :: L)) :
    Calls Try.prog 33 #[.pointer (some ⟨b, 0, none⟩), .pointer (some ⟨bm, 0, none⟩)] w fun e w' => e = .returned (.int .i64 t.phase) ∧ sat E w' (takeA b { t with steps := t.steps + 1, value := m.peek (t.conf.value t.slot) } :: memA bm (m.touch t.who 0 (t.conf.value t.slot) 0 0) :: L) := by
  have K := Lib.hid h
  have hpk := (memA_open h.swap).1
  clear h
  have a0 := K.out.rd 0 rfl; have l0 := K.out.ltp 0 rfl
  have c0 : (t.phase == 0) = true := by simpa using hp
  obtain ⟨B0, B1⟩ := And.intro ho.st0 ho.st1
  have c1 : t.lost = false := hl
  have d0 : (t.steps == 0) = false := by simp [hk]
  have d1 : (t.steps == 1) = false := by simp [hk]
  have d2 : (t.steps == 2) = true := by simp [hk]
  have V := fun w => Lib.hid (value_calls t.conf w ho.conf t.slot ho.slot0 ho.slot1)
  have LD := fun w (h : sat E w (memA bm m :: takeA b t :: L)) => Lib.hid (load_calls bm m t.who (t.conf.value t.slot) hroom h)
  generalize m.peek (t.conf.value t.slot) = x at LD ⊢
  clear ho hp hk hl hpk
  go_enter Try.func33, Try.ntmps33
  go_wp2_with fail
  go_region_held3 (fun w' => w'.cell? ⟨b, 0, none⟩ = some (.int .i64 t.conf.th) ∧ w'.cell? ⟨b, 1, none⟩ = some (.int .i64 t.conf.sl) ∧ w'.cell? ⟨b, 2, none⟩ = some (.int .i64 t.conf.src) ∧ w'.cell? ⟨b, 3, none⟩ = some (.int .i64 t.conf.dl) ∧ w'.cell? ⟨b, 4, none⟩ = some (.int .i64 t.who) ∧ w'.cell? ⟨b, 5, none⟩ = some (.int .i64 t.slot) ∧ w'.cell? ⟨b, 6, none⟩ = some (.int .u64 t.word) ∧ (∀ j, w'.frozen? ⟨b, j, none⟩ = false)) (first | exact takeS (M := _) (by repeat (with_reducible first | exact K.out | apply sat.alloc_any | apply sat.drew | apply sat.drewN)) rfl rfl rfl rfl | exact takeS (M := memA bm (m.touch t.who 0 (t.conf.value t.slot) 0 0) :: L) (t' := { t with value := x }) (K.out.set0 (i := 9) (v := .int .u64 x)) rfl rfl rfl rfl | go_keep)
    (first | (go_at_call 14; (with_reducible refine ((V _).out).mono ?_); rintro e w1 ⟨rfl, hb⟩; have K1 := sat.grown (by repeat (with_reducible first | exact K.out | apply sat.alloc_any | apply sat.drew | apply sat.drewN)) hb; clear hb; have K2 := Lib.hid K1; clear K1 K; (try clear a0); (try clear l0); (try clear a1); (try clear l1); (try clear a2); (try clear l2); have K := K2; clear K2; have a0 := K.out.rd 0 rfl; have l0 := K.out.ltp 0 rfl) | (go_at_call 51; (with_reducible refine ((LD _ (show sat E _ _ from by iterate 6 (try (with_reducible first | exact K.out | apply sat.alloc_any | apply sat.drew | apply sat.drewN))).swap).out).mono ?_); rintro e w1 ⟨rfl, K1⟩; replace K1 := K1.swap; have K2 := Lib.hid K1; clear K1 K; (try clear a0); (try clear l0); (try clear a1); (try clear l1); (try clear a2); (try clear l2); have K := K2; clear K2; have a0 := K.out.rd 0 rfl; have l0 := K.out.ltp 0 rfl))
  have K1 := K.out.set0 (i := 9) (v := .int .u64 x)
  simp only [List.set] at K1
  obtain ⟨w2, hw2, K2⟩ := K1.gen
  rw [← hw2]
  clear hw2 K1 K a0 l0
  have K := Lib.hid K2
  clear K2
  have a0 := K.out.rd 0 rfl; have l0 := K.out.ltp 0 rfl
  go_wp2_with (first | ((with_reducible refine at_store ?_); refine st_store 0 K.out rfl rfl rfl rfl ?_ ?_ ?_ ?_; (· kernel_rfl); (· simp); (· simp [Value.oneCell']); intro w1 K1; simp only [List.set, putL] at K1; have K2 := Lib.hid K1; clear K1 K; (try clear a0); (try clear l0); (try clear a1); (try clear l1); (try clear a2); (try clear l2); have K := K2; clear K2; have a0 := K.out.rd 0 rfl; have l0 := K.out.ltp 0 rfl))
  go_ret
  exact ⟨rfl, K.out⟩
theorem kstep_3 (b bm : Nat) (t : TakeM) (m : MemM) (ho : t.ok) (hp : t.phase = 0) (hl : t.lost = false) (hk : t.steps = 3) (hroom : m.log.length < 1000000000) (h : sat E w (takeA b t :: memA bm m :: L)) :
    Calls Try.prog 33 #[.pointer (some ⟨b, 0, none⟩), .pointer (some ⟨bm, 0, none⟩)] w fun e w' => e = .returned (.int .i64 t.phase) ∧ sat E w' (takeA b { t with steps := t.steps + 1, lost := !m.okOf 2 t.slot t.word } :: memA bm (m.touch t.who 2 t.slot t.word (unpack t.word).taken.pack) :: L) := by
  have K := Lib.hid h
  clear h
  have a0 := K.out.rd 0 rfl; have l0 := K.out.ltp 0 rfl
  have c0 : (t.phase == 0) = true := by simpa using hp
  obtain ⟨B0, B1⟩ := And.intro ho.st0 ho.st1
  have c1 : t.lost = false := hl
  have d0 : (t.steps == 0) = false := by simp [hk]
  have d1 : (t.steps == 1) = false := by simp [hk]
  have d2 : (t.steps == 2) = false := by simp [hk]
  have d3 : (t.steps == 3) = true := by simp [hk]
  have U : ∀ w, Hid (Tells 22 #[.int .u64 t.word] w (.agg #[.int .i64 (unpack t.word).state, .int .i64 (unpack t.word).fin, .int .i64 (unpack t.word).gen, .int .i64 (unpack t.word).stamp.lo, .int .i64 (unpack t.word).stamp.hi])) := fun w => Lib.hid (unpack_calls t.word ho.word0 ho.word1 w)
  generalize unpack t.word = x at U ⊢
  have TK : ∀ w, Hid (Tells 25 #[.agg #[.int .i64 x.state, .int .i64 x.fin, .int .i64 x.gen, .int .i64 x.stamp.lo, .int .i64 x.stamp.hi]] w (.agg #[.int .i64 x.taken.state, .int .i64 x.taken.fin, .int .i64 x.taken.gen, .int .i64 x.taken.stamp.lo, .int .i64 x.taken.stamp.hi])) := fun w => Lib.hid (taken_calls x w)
  generalize x.taken = y at TK ⊢
  have PK := fun w => Lib.hid (pack_calls y w)
  have hb := pack_bd y
  generalize y.pack = z at PK hb ⊢
  have SW := fun w (h : sat E w (memA bm m :: takeA b t :: L)) => Lib.hid (swapc_calls bm m t.who t.slot t.word z hb hroom h)
  generalize m.okOf 2 t.slot t.word = ok at SW ⊢
  clear ho hp hk hl hb
  go_enter Try.func33, Try.ntmps33
  go_wp2_with fail
  go_region_held3 (fun w' => w'.cell? ⟨b, 0, none⟩ = some (.int .i64 t.conf.th) ∧ w'.cell? ⟨b, 1, none⟩ = some (.int .i64 t.conf.sl) ∧ w'.cell? ⟨b, 2, none⟩ = some (.int .i64 t.conf.src) ∧ w'.cell? ⟨b, 3, none⟩ = some (.int .i64 t.conf.dl) ∧ w'.cell? ⟨b, 4, none⟩ = some (.int .i64 t.who) ∧ w'.cell? ⟨b, 5, none⟩ = some (.int .i64 t.slot) ∧ w'.cell? ⟨b, 6, none⟩ = some (.int .u64 t.word) ∧ (∀ j, w'.frozen? ⟨b, j, none⟩ = false)) (first | exact takeS (M := _) (by repeat (with_reducible first | exact K.out | apply sat.alloc_any | apply sat.drew | apply sat.drewN)) rfl rfl rfl rfl | exact takeS (M := memA bm (m.touch t.who 2 t.slot t.word z) :: L) (t' := { t with lost := !ok }) (K.out.set0 (i := 8) (v := .bool (!ok))) rfl rfl rfl rfl | go_keep)
    (first | (go_at_call 23; (with_reducible refine (word_calls t.conf _ t.slot).mono ?_); rintro e w1 ⟨rfl, hb⟩; have K1 := sat.grown (by repeat (with_reducible first | exact K.out | apply sat.alloc_any | apply sat.drew | apply sat.drewN)) hb; clear hb; have K2 := Lib.hid K1; clear K1 K; (try clear a0); (try clear l0); (try clear a1); (try clear l1); (try clear a2); (try clear l2); have K := K2; clear K2; have a0 := K.out.rd 0 rfl; have l0 := K.out.ltp 0 rfl) | (go_at_call 22; (with_reducible refine ((U _).out).mono ?_); rintro e w1 ⟨rfl, hb⟩; have K1 := sat.grown (by repeat (with_reducible first | exact K.out | apply sat.alloc_any | apply sat.drew | apply sat.drewN)) hb; clear hb; have K2 := Lib.hid K1; clear K1 K; (try clear a0); (try clear l0); (try clear a1); (try clear l1); (try clear a2); (try clear l2); have K := K2; clear K2; have a0 := K.out.rd 0 rfl; have l0 := K.out.ltp 0 rfl) | (go_at_call 25; (with_reducible refine ((TK _).out).mono ?_); rintro e w1 ⟨rfl, hb⟩; have K1 := sat.grown (by repeat (with_reducible first | exact K.out | apply sat.alloc_any | apply sat.drew | apply sat.drewN)) hb; clear hb; have K2 := Lib.hid K1; clear K1 K; (try clear a0); (try clear l0); (try clear a1); (try clear l1); (try clear a2); (try clear l2); have K := K2; clear K2; have a0 := K.out.rd 0 rfl; have l0 := K.out.ltp 0 rfl) | (go_at_call 26; (with_reducible refine ((PK _).out).mono ?_); rintro e w1 ⟨rfl, hb⟩; have K1 := sat.grown (by repeat (with_reducible first | exact K.out | apply sat.alloc_any | apply sat.drew | apply sat.drewN)) hb; clear hb; have K2 := Lib.hid K1; clear K1 K; (try clear a0); (try clear l0); (try clear a1); (try clear l1); (try clear a2); (try clear l2); have K := K2; clear K2; have a0 := K.out.rd 0 rfl; have l0 := K.out.ltp 0 rfl) | (go_at_call 53; (with_reducible refine ((SW _ (show sat E _ _ from by iterate 6 (try (with_reducible first | exact K.out | apply sat.alloc_any | apply sat.drew | apply sat.drewN))).swap).out).mono ?_); rintro e w1 ⟨rfl, K1⟩; replace K1 := K1.swap; have K2 := Lib.hid K1; clear K1 K; (try clear a0); (try clear l0); (try clear a1); (try clear l1); (try clear a2); (try clear l2); have K := K2; clear K2; have a0 := K.out.rd 0 rfl; have l0 := K.out.ltp 0 rfl))
  all_goals
    have K1 := K.out.set0 (i := 8) (v := .bool (!ok))
    simp only [List.set] at K1
    obtain ⟨w2, hw2, K2⟩ := K1.gen
    rw [← hw2]
    clear hw2 K1 K a0 l0
    have K := Lib.hid K2
    clear K2
    have a0 := K.out.rd 0 rfl; have l0 := K.out.ltp 0 rfl
    go_wp2_with (first | ((with_reducible refine at_store ?_); refine st_store 0 K.out rfl rfl rfl rfl ?_ ?_ ?_ ?_; (· kernel_rfl); (· simp); (· simp [Value.oneCell']); intro w1 K1; simp only [List.set, putL] at K1; have K2 := Lib.hid K1; clear K1 K; (try clear a0); (try clear l0); (try clear a1); (try clear l1); (try clear a2); (try clear l2); have K := K2; clear K2; have a0 := K.out.rd 0 rfl; have l0 := K.out.ltp 0 rfl))
    go_ret
    exact ⟨rfl, K.out⟩
theorem kstep_4 (b bm : Nat) (t : TakeM) (m : MemM) (ho : t.ok) (hp : t.phase = 0) (hl : t.lost = false) (hk : t.steps ≠ 0 ∧ t.steps ≠ 1 ∧ t.steps ≠ 2 ∧ t.steps ≠ 3) (hroom : m.log.length < 1000000000) (h : sat E w (takeA b t :: memA bm m :: L)) :
    Calls Try.prog 33 #[.pointer (some ⟨b, 0, none⟩), .pointer (some ⟨bm, 0, none⟩)] w fun e w' => e = .returned (.int .i64 (t.fin m).1.phase) ∧ sat E w' (takeA b { (t.fin m).1 with steps := (t.fin m).1.steps + 1 } :: memA bm (t.fin m).2 :: L) := by
  have K := Lib.hid h
  clear h
  have a0 := K.out.rd 0 rfl; have l0 := K.out.ltp 0 rfl
  have c0 : (t.phase == 0) = true := by simpa using hp
  have FN := fun w (h : sat E w (takeA b t :: memA bm m :: L)) => Lib.hid (tend_calls b bm t m ho hroom h)
  have hs : (t.fin m).1.steps = t.steps := rfl
  generalize t.fin m = r at FN hs ⊢
  have B0 : 0 ≤ r.1.steps := by rw [hs]; exact ho.st0
  have B1 : r.1.steps ≤ 1000000000 := by rw [hs]; exact ho.st1
  have c1 : t.lost = false := hl
  obtain ⟨k0, k1, k2, k3⟩ := hk
  have d0 : (t.steps == 0) = false := by simpa using k0
  have d1 : (t.steps == 1) = false := by simpa using k1
  have d2 : (t.steps == 2) = false := by simpa using k2
  have d3 : (t.steps == 3) = false := by simpa using k3
  clear ho hp k0 k1 k2 k3 hl hs
  go_enter Try.func33, Try.ntmps33
  go_wp2_with (first | (go_at_call 52; (with_reducible refine ((FN _ (show sat E _ _ from by iterate 6 (try (with_reducible first | exact K.out | apply sat.alloc_any | apply sat.drew | apply sat.drewN)))).out).mono ?_); rintro e w1 ⟨rfl, K1⟩; have K2 := Lib.hid K1; clear K1 K; (try clear a0); (try clear l0); (try clear a1); (try clear l1); (try clear a2); (try clear l2); have K := K2; clear K2; have a0 := K.out.rd 0 rfl; have l0 := K.out.ltp 0 rfl) | ((with_reducible refine at_store ?_); refine st_store 0 K.out rfl rfl rfl rfl ?_ ?_ ?_ ?_; (· kernel_rfl); (· simp); (· simp [Value.oneCell']); intro w1 K1; simp only [List.set, putL] at K1; have K2 := Lib.hid K1; clear K1 K; (try clear a0); (try clear l0); (try clear a1); (try clear l1); (try clear a2); (try clear l2); have K := K2; clear K2; have a0 := K.out.rd 0 rfl; have l0 := K.out.ltp 0 rfl))
  go_ret
  exact ⟨rfl, K.out⟩
/-- A step of a Take. -/
theorem kstep_calls (b bm : Nat) (t : TakeM) (m : MemM) (ho : t.ok) (hroom : m.log.length < 1000000000) (h : sat E w (takeA b t :: memA bm m :: L)) :
    Calls Try.prog 33 #[.pointer (some ⟨b, 0, none⟩), .pointer (some ⟨bm, 0, none⟩)] w fun e w' => e = .returned (.int .i64 (t.step m).1.phase) ∧ sat E w' (takeA b (t.step m).1 :: memA bm (t.step m).2 :: L) := by
  unfold TakeM.step
  by_cases hp : t.phase = 0
  · rw [if_neg (by simpa using hp)]
    cases hl : t.lost with
    | true => simpa [hl] using kstep_lost b bm t m ho hp hl hroom h
    | false =>
      by_cases k0 : t.steps = 0
      · simpa [hl, k0, hp] using kstep_0 b bm t m ho hp hl k0 hroom h
      by_cases k1 : t.steps = 1
      · simpa [hl, k0, k1, hp] using kstep_1 b bm t m ho hp hl k1 hroom h
      by_cases k2 : t.steps = 2
      · simpa [hl, k0, k1, k2, hp] using kstep_2 b bm t m ho hp hl k2 hroom h
      by_cases k3 : t.steps = 3
      · simpa [hl, k0, k1, k2, k3, hp] using kstep_3 b bm t m ho hp hl k3 hroom h
      · simpa [hl, k0, k1, k2, k3, hp] using kstep_4 b bm t m ho hp hl ⟨k0, k1, k2, k3⟩ hroom h
  · rw [if_pos hp]
    exact kstep_off b bm t m hp h
end
end Go.Proofs.Ytdhcomklmckhoaa
